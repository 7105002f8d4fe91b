/- Joined by merge.py: Shelf. -/
import Derived.Shelf.Small.Utf8
import Derived.Shelf.Small.Bits
import Derived.Shelf.Small.Strs
import Derived.Shelf.Small.Wraps
import Derived.Shelf.Strconv.Itoa0
import Derived.Shelf.Strings.Search1
import Derived.Shelf.Strings.Search2
import Derived.Shelf.Strings.Cut
import Derived.Shelf.LaysM
import Derived.Shelf.Strings.Shaped
import Derived.Shelf.Sort.Plain
import Derived.Shelf.GgClosure.StringsIndexFunc
import Derived.Ground.GgwProg
import Derived.Shelf.GgClosure.StringsIndexFuncTop
import Derived.Shelf.GgClosure.StringsRunes
import Derived.Shelf.Strings.Runes
import Derived.Shelf.Strings.FuncGrows
import Derived.Ground.Names2Prog
import Derived.Shelf.Slices.CompactI
import Derived.Shelf.Slices.SearchI
import Derived.Shelf.Slices.Cells
import Derived.Shelf.Slices.In.SortNone
import Derived.Ground.SlgnProg
import Derived.Shelf.SlicesE.Compact
import Derived.Shelf.SlicesE.Clone
import Derived.Ground.SlgqProg
import Derived.Shelf.SlicesQ.Equal
import Derived.Ground.SlgfProg
import Derived.Shelf.SlicesQ.IndexFunc
import Derived.Ground.SlsfProg
import Derived.Shelf.SlSortCmp.InsertionK
import Derived.Shelf.SlSortCmp.SmallK
import Derived.Shelf.SlSortCmp.SiftDownK
import Derived.Shelf.SlSortCmp.HeapSortK
import Derived.Shelf.SlSortCmp.MedianK
import Derived.Shelf.SlSortCmp.PivotK
import Derived.Shelf.SlSortCmp.ReverseRangeK
import Derived.Shelf.SlSortCmp.PartialInsertionK
import Derived.Shelf.SlSortCmp.PartitionEqualK
import Derived.Shelf.SlSortCmp.PartitionK
import Derived.Shelf.SlSortCmp.PdqK
import Derived.Shelf.SlSortCmp.WholeK
import Derived.Shelf.SlSortCmp.NoneTotal
import Derived.Test.YtmmgdjgcikbhbaaGreatProg
/-
 DERIVED: THE SHELF's CONTRACTS AT THIS DUMP, IN PLAIN WORDS (tools/lay-plain.mjs out of 'YtmmgdjgcikbhbaaGreatShelfTry.lean', which tools/lay-shelf.mjs wrote): THE SAME DECLARATIONS UNDER THE SAME NAMES: 'import', 'namespace', 'open', 'def', 'theorem' AND NOTHING ELSE: no command of the shelf's: FOR A HAND-IN. Each laying: the table of numbers ('.._ren') and one theorem, a field a fact of the dump's own or the kernel's comparison; each contract: ONE APPLICATION.
-/
namespace Go.Proofs
open Go.Shelf
def Tryz.lays119_ren : Go.Shelf.Ren := ⟨fun | 119 => 203 | n => n, fun | 21 => 21 | 4 => 4 | n => n, fun | n => n⟩
theorem Tryz.lays119 : Go.Proofs.Lays.n119 Tryz.prog Tryz.lays119_ren := {
 mixed := by kernel_rfl
 f119 := Tryz.func203.trans (congrArg some (by kernel_rfl))
 t4 := Tryz.underlying4
 a4 := Tryz.isAgg4
 z4 := Tryz.sizeOf4
 v4 := Tryz.zeroValue4
 t21 := Tryz.underlying21
 a21 := Tryz.isAgg21
 z21 := Tryz.sizeOf21
 v21 := Tryz.zeroValue21 }
theorem Tryz.utf8_ValidRune (r : Int) (w : World) :
  Calls Tryz.prog 203 #[.int .i32 r] w fun e w' => e = .returned (.bool (Lib.validRune r)) ∧ w' = w := Any.utf8_ValidRune Tryz.lays119 r w
def Tryz.lays137_ren : Go.Shelf.Ren := ⟨fun | 137 => 56 | 217 => 88 | 266 => 140 | n => n, fun | 9 => 9 | 5 => 5 | 3 => 3 | n => n, fun | n => n⟩
theorem Tryz.lays137 : Go.Proofs.Lays.n137 Tryz.prog Tryz.lays137_ren := {
 mixed := by kernel_rfl
 f137 := Tryz.func56.trans (congrArg some (by kernel_rfl))
 f217 := Tryz.func88.trans (congrArg some (by kernel_rfl))
 f266 := Tryz.func140.trans (congrArg some (by kernel_rfl))
 t3 := Tryz.underlying3
 a3 := Tryz.isAgg3
 z3 := Tryz.sizeOf3
 v3 := Tryz.zeroValue3
 t5 := Tryz.underlying5
 a5 := Tryz.isAgg5
 z5 := Tryz.sizeOf5
 v5 := Tryz.zeroValue5
 t9 := Tryz.underlying9
 a9 := Tryz.isAgg9
 z9 := Tryz.sizeOf9
 v9 := Tryz.zeroValue9 }
open Go.RowKit in
theorem Tryz.strings_IndexByte (s : ByteArray) (c : Int) (w : World) :
  Calls Tryz.prog 56 #[.string s, .int .u8 c] w fun e w' => e = .returned (.int .i64 (Lib.indexByte s.data.toList c.toNat.toUInt8)) ∧ w' = w := Any.strings_IndexByte Tryz.lays137 s c w
open Go.RowKit in
def Tryz.lays122_ren : Go.Shelf.Ren := ⟨fun | 122 => 191 | 215 => 173 | n => n, fun | 3 => 3 | 4 => 4 | n => n, fun | n => n⟩
theorem Tryz.lays122 : Go.Proofs.Lays.n122 Tryz.prog Tryz.lays122_ren := {
 mixed := by kernel_rfl
 f122 := Tryz.func191.trans (congrArg some (by kernel_rfl))
 f215 := Tryz.func173.trans (congrArg some (by kernel_rfl))
 t3 := Tryz.underlying3
 a3 := Tryz.isAgg3
 z3 := Tryz.sizeOf3
 v3 := Tryz.zeroValue3
 t4 := Tryz.underlying4
 a4 := Tryz.isAgg4
 z4 := Tryz.sizeOf4
 v4 := Tryz.zeroValue4 }
open Go.RowKit in
theorem Tryz.cmp_Compare_int (x y : Int) (w : World) :
  Calls Tryz.prog 191 #[.int .i64 x, .int .i64 y] w fun e w' => e = .returned (.int .i64 (Lib.compareInt x y)) ∧ w' = w := Any.cmp_Compare_int Tryz.lays122 x y w
open Go.RowKit Go.Lib in
open Go.RowKit Go.Lib in
open Go.RowKit Go.Lib in
open Go.RowKit Go.Lib in
open Go.RowKit Go.Lib in
open Go.RowKit Go.Lib in
open Go.RowKit Go.Lib in
def Tryz.lays145_ren : Go.Shelf.Ren := ⟨fun | 145 => 91 | 220 => 145 | 219 => 184 | 217 => 88 | 225 => 205 | 224 => 204 | 267 => 206 | 266 => 140 | 314 => 213 | n => n, fun | 9 => 9 | 4 => 4 | 59 => 135 | 3 => 3 | 5 => 5 | 46 => 130 | 146 => 225 | 51 => 172 | n => n, fun | 1 => 0 | n => n⟩
theorem Tryz.lays145 : Go.Proofs.Lays.n145 Tryz.prog Tryz.lays145_ren := {
 mixed := by kernel_rfl
 f145 := Tryz.func91.trans (congrArg some (by kernel_rfl))
 f217 := Tryz.func88.trans (congrArg some (by kernel_rfl))
 f219 := Tryz.func184.trans (congrArg some (by kernel_rfl))
 f220 := Tryz.func145.trans (congrArg some (by kernel_rfl))
 f224 := Tryz.func204.trans (congrArg some (by kernel_rfl))
 f225 := Tryz.func205.trans (congrArg some (by kernel_rfl))
 f266 := Tryz.func140.trans (congrArg some (by kernel_rfl))
 f267 := Tryz.func206.trans (congrArg some (by kernel_rfl))
 f314 := Tryz.func213.trans (congrArg some (by kernel_rfl))
 t3 := Tryz.underlying3
 a3 := Tryz.isAgg3
 z3 := Tryz.sizeOf3
 v3 := Tryz.zeroValue3
 t4 := Tryz.underlying4
 a4 := Tryz.isAgg4
 z4 := Tryz.sizeOf4
 v4 := Tryz.zeroValue4
 t5 := Tryz.underlying5
 a5 := Tryz.isAgg5
 z5 := Tryz.sizeOf5
 v5 := Tryz.zeroValue5
 t9 := Tryz.underlying9
 a9 := Tryz.isAgg9
 z9 := Tryz.sizeOf9
 v9 := Tryz.zeroValue9
 t46 := Tryz.underlying130
 a46 := Tryz.isAgg130
 z46 := Tryz.sizeOf130
 v46 := Tryz.zeroValue130
 t51 := Tryz.underlying172
 a51 := Tryz.isAgg172
 z51 := Tryz.sizeOf172
 v51 := Tryz.zeroValue172
 t59 := Tryz.underlying135
 a59 := Tryz.isAgg135
 z59 := Tryz.sizeOf135
 v59 := Tryz.zeroValue135
 t146 := Tryz.underlying225
 a146 := Tryz.isAgg225
 z146 := Tryz.sizeOf225
 v146 := Tryz.zeroValue225
 g1 := by kernel_rfl }
open Go.RowKit Go.Lib in
theorem Tryz.strings_Cut (s sep : ByteArray) (m : Int) (w : World) (hs : s.size < 4294967281) (hm : w.cell? ⟨0, 0, none⟩ = some (.int .i64 m)) :
  Calls Tryz.prog 91 #[.string s, .string sep] w fun e w' => e = .returned (.tuple #[.string ⟨(Lib.cut s.data.toList sep.data.toList).1.toArray⟩, .string ⟨(Lib.cut s.data.toList sep.data.toList).2.1.toArray⟩, .bool (Lib.cut s.data.toList sep.data.toList).2.2]) ∧ ∃ n, w' = w.drewN n := Any.strings_Cut Tryz.lays145 s sep m w hs hm
open Go.RowKit Go.Lib in
open Go.RowKit Go.Lib in
open Go.RowKit Go.Lib in
def Tryz.lays189_ren : Go.Shelf.Ren := ⟨fun | 189 => 44 | 125 => 83 | 257 => 82 | 128 => 128 | 129 => 129 | 294 => 119 | 295 => 120 | 296 => 121 | 297 => 122 | 298 => 123 | 299 => 124 | 216 => 125 | 300 => 126 | 301 => 127 | 328 => 168 | 329 => 169 | 330 => 170 | 331 => 171 | 332 => 172 | 215 => 173 | 343 => 199 | n => n, fun | 28 => 53 | 3 => 3 | 46 => 130 | 0 => 0 | 51 => 172 | 53 => 174 | 4 => 4 | 183 => 164 | 182 => 163 | 131 => 169 | 5 => 5 | 9 => 9 | 218 => 194 | 222 => 198 | 228 => 217 | 229 => 120 | n => n, fun | n => n⟩
theorem Tryz.lays189 : Go.Proofs.Lays.n189 Tryz.prog Tryz.lays189_ren := {
 mixed := by kernel_rfl
 f125 := Tryz.func83.trans (congrArg some (by kernel_rfl))
 f128 := Tryz.func128.trans (congrArg some (by kernel_rfl))
 f129 := Tryz.func129.trans (congrArg some (by kernel_rfl))
 f189 := Tryz.func44.trans (congrArg some (by kernel_rfl))
 f215 := Tryz.func173.trans (congrArg some (by kernel_rfl))
 f216 := Tryz.func125.trans (congrArg some (by kernel_rfl))
 f257 := Tryz.func82.trans (congrArg some (by kernel_rfl))
 f294 := Tryz.func119.trans (congrArg some (by kernel_rfl))
 f295 := Tryz.func120.trans (congrArg some (by kernel_rfl))
 f296 := Tryz.func121.trans (congrArg some (by kernel_rfl))
 f297 := Tryz.func122.trans (congrArg some (by kernel_rfl))
 f298 := Tryz.func123.trans (congrArg some (by kernel_rfl))
 f299 := Tryz.func124.trans (congrArg some (by kernel_rfl))
 f300 := Tryz.func126.trans (congrArg some (by kernel_rfl))
 f301 := Tryz.func127.trans (congrArg some (by kernel_rfl))
 f328 := Tryz.func168.trans (congrArg some (by kernel_rfl))
 f329 := Tryz.func169.trans (congrArg some (by kernel_rfl))
 f330 := Tryz.func170.trans (congrArg some (by kernel_rfl))
 f331 := Tryz.func171.trans (congrArg some (by kernel_rfl))
 f332 := Tryz.func172.trans (congrArg some (by kernel_rfl))
 f343 := Tryz.func199.trans (congrArg some (by kernel_rfl))
 t0 := Tryz.underlying0
 a0 := Tryz.isAgg0
 z0 := Tryz.sizeOf0
 v0 := Tryz.zeroValue0
 t3 := Tryz.underlying3
 a3 := Tryz.isAgg3
 z3 := Tryz.sizeOf3
 v3 := Tryz.zeroValue3
 t4 := Tryz.underlying4
 a4 := Tryz.isAgg4
 z4 := Tryz.sizeOf4
 v4 := Tryz.zeroValue4
 t5 := Tryz.underlying5
 a5 := Tryz.isAgg5
 z5 := Tryz.sizeOf5
 v5 := Tryz.zeroValue5
 t9 := Tryz.underlying9
 a9 := Tryz.isAgg9
 z9 := Tryz.sizeOf9
 v9 := Tryz.zeroValue9
 t28 := Tryz.underlying53
 a28 := Tryz.isAgg53
 z28 := Tryz.sizeOf53
 v28 := Tryz.zeroValue53
 t46 := Tryz.underlying130
 a46 := Tryz.isAgg130
 z46 := Tryz.sizeOf130
 v46 := Tryz.zeroValue130
 t51 := Tryz.underlying172
 a51 := Tryz.isAgg172
 z51 := Tryz.sizeOf172
 v51 := Tryz.zeroValue172
 t53 := Tryz.underlying174
 a53 := Tryz.isAgg174
 z53 := Tryz.sizeOf174
 v53 := Tryz.zeroValue174
 t131 := Tryz.underlying169
 a131 := Tryz.isAgg169
 z131 := Tryz.sizeOf169
 v131 := Tryz.zeroValue169
 t182 := Tryz.underlying163
 a182 := Tryz.isAgg163
 z182 := Tryz.sizeOf163
 v182 := Tryz.zeroValue163
 t183 := Tryz.underlying164
 a183 := Tryz.isAgg164
 z183 := Tryz.sizeOf164
 v183 := Tryz.zeroValue164
 t218 := Tryz.underlying194
 a218 := Tryz.isAgg194
 z218 := Tryz.sizeOf194
 v218 := Tryz.zeroValue194
 t222 := Tryz.underlying198
 a222 := Tryz.isAgg198
 z222 := Tryz.sizeOf198
 v222 := Tryz.zeroValue198
 t228 := Tryz.underlying217
 a228 := Tryz.isAgg217
 z228 := Tryz.sizeOf217
 v228 := Tryz.zeroValue217
 t229 := Tryz.underlying120
 a229 := Tryz.isAgg120
 z229 := Tryz.sizeOf120
 v229 := Tryz.zeroValue120 }
open Go.Sort Go.RowKit in
theorem Tryz.slices_Sort_int (blk off cap : Nat) (zs : List Int) (w : World) (hH : Holds (Value.int .i64) w blk off zs.toArray) (hblk : blk < w.heap.size) (hsz : zs.length < 4611686018427387904) :
  Calls Tryz.prog 44 #[.slice (some ⟨blk, off, none⟩) zs.length cap] w fun e w' =>
   e = .returned (.tuple #[]) ∧ ∃ n os, w' = grow (putRow (Value.int .i64) (Sort.ahead w n) blk off (zs.mergeSort fun x y => decide (x ≤ y)).toArray) os := Any.slices_Sort_int Tryz.lays189 blk off cap zs w hH hblk hsz
open Go.RowKit Go.Lib in
open Go.RowKit Go.Lib in
def Tryz.laysGw17_ren : Go.Shelf.Ren := ⟨fun | 17 => 141 | 15 => 180 | 20 => 202 | n => n, fun | 9 => 9 | 23 => 184 | 4 => 4 | 3 => 3 | 0 => 0 | 21 => 21 | n => n, fun | n => n⟩
theorem Tryz.laysGw17 : Go.Proofs.LaysGw.n17 Tryz.prog Tryz.laysGw17_ren := {
 mixed := by kernel_rfl
 f15 := Tryz.func180.trans (congrArg some (by kernel_rfl))
 f17 := Tryz.func141.trans (congrArg some (by kernel_rfl))
 f20 := Tryz.func202.trans (congrArg some (by kernel_rfl))
 t0 := Tryz.underlying0
 a0 := Tryz.isAgg0
 z0 := Tryz.sizeOf0
 v0 := Tryz.zeroValue0
 i0 := by kernel_rfl
 t3 := Tryz.underlying3
 a3 := Tryz.isAgg3
 z3 := Tryz.sizeOf3
 v3 := Tryz.zeroValue3
 i3 := by kernel_rfl
 t4 := Tryz.underlying4
 a4 := Tryz.isAgg4
 z4 := Tryz.sizeOf4
 v4 := Tryz.zeroValue4
 i4 := by kernel_rfl
 t9 := Tryz.underlying9
 a9 := Tryz.isAgg9
 z9 := Tryz.sizeOf9
 v9 := Tryz.zeroValue9
 i9 := by kernel_rfl
 t21 := Tryz.underlying21
 a21 := Tryz.isAgg21
 z21 := Tryz.sizeOf21
 v21 := Tryz.zeroValue21
 i21 := by kernel_rfl
 t23 := Tryz.underlying184
 a23 := Tryz.isAgg184
 z23 := Tryz.sizeOf184
 v23 := Tryz.zeroValue184
 i23 := by kernel_rfl }
open Go.RowKit Go.Lib in
open Go.RowKit Go.Lib in
open Go.RowKit Go.Lib in
open Go.RowKit Go.Lib in
open Go.RowKit Go.Lib in
def Tryz.lays151_ren : Go.Shelf.Ren := ⟨fun | 151 => 143 | 152 => 181 | 137 => 56 | 119 => 203 | 224 => 204 | 225 => 205 | 217 => 88 | 266 => 140 | n => n, fun | 9 => 9 | 21 => 21 | 4 => 4 | 3 => 3 | 5 => 5 | 0 => 0 | 46 => 130 | n => n, fun | n => n⟩
theorem Tryz.lays151 : Go.Proofs.Lays.n151 Tryz.prog Tryz.lays151_ren := {
 mixed := by kernel_rfl
 f119 := Tryz.func203.trans (congrArg some (by kernel_rfl))
 f137 := Tryz.func56.trans (congrArg some (by kernel_rfl))
 f151 := Tryz.func143.trans (congrArg some (by kernel_rfl))
 f152 := Tryz.func181.trans (congrArg some (by kernel_rfl))
 f217 := Tryz.func88.trans (congrArg some (by kernel_rfl))
 f224 := Tryz.func204.trans (congrArg some (by kernel_rfl))
 f225 := Tryz.func205.trans (congrArg some (by kernel_rfl))
 f266 := Tryz.func140.trans (congrArg some (by kernel_rfl))
 t0 := Tryz.underlying0
 a0 := Tryz.isAgg0
 z0 := Tryz.sizeOf0
 v0 := Tryz.zeroValue0
 t3 := Tryz.underlying3
 a3 := Tryz.isAgg3
 z3 := Tryz.sizeOf3
 v3 := Tryz.zeroValue3
 t4 := Tryz.underlying4
 a4 := Tryz.isAgg4
 z4 := Tryz.sizeOf4
 v4 := Tryz.zeroValue4
 t5 := Tryz.underlying5
 a5 := Tryz.isAgg5
 z5 := Tryz.sizeOf5
 v5 := Tryz.zeroValue5
 t9 := Tryz.underlying9
 a9 := Tryz.isAgg9
 z9 := Tryz.sizeOf9
 v9 := Tryz.zeroValue9
 t21 := Tryz.underlying21
 a21 := Tryz.isAgg21
 z21 := Tryz.sizeOf21
 v21 := Tryz.zeroValue21
 t46 := Tryz.underlying130
 a46 := Tryz.isAgg130
 z46 := Tryz.sizeOf130
 v46 := Tryz.zeroValue130 }
open Go.RowKit Go.Lib in
theorem Tryz.strings_ContainsRune_ascii (s : ByteArray) (r : Int) (w : World) (h0 : 0 ≤ r) (h1 : r < 128) :
  Calls Tryz.prog 143 #[.string s, .int .i32 r] w fun e w' => e = .returned (.bool (decide (0 ≤ Lib.indexByte s.data.toList r.toNat.toUInt8))) ∧ w' = w := Any.strings_ContainsRune_ascii Tryz.lays151 s r w h0 h1
open Go.RowKit Go.Lib in
open Go.RowKit Go.Lib in
open Go.RowKit Go.Lib in
theorem Tryz.strings_ContainsFunc_grows (g : Nat) (lb : Array Value) (eg : ∀ args w, (callFunc g args).run Tryz.prog w = .ok (.enter g args) w) (p : Nat → Bool) (s : ByteArray) (w : World) (hp : PredGrows Tryz.prog g lb p w) :
  Calls Tryz.prog 141 #[.string s, .func (.func g) #[] lb] w fun e w' => e = .returned (.bool (decide (0 ≤ Lib.idxFunc p true s))) ∧ Below w.heap.size w w' := Any.strings_ContainsFunc_grows Tryz.laysGw17 g lb eg p s w hp
def Tryz.laysNm220_ren : Go.Shelf.Ren := ⟨fun | 20 => 94 | n => n, fun | 22 => 53 | 3 => 3 | 4 => 4 | 0 => 0 | n => n, fun | n => n⟩
theorem Tryz.laysNm220 : Go.Proofs.Lays2.n20 Tryz.prog Tryz.laysNm220_ren := {
 mixed := by kernel_rfl
 f20 := Tryz.func94.trans (congrArg some (by kernel_rfl))
 t0 := Tryz.underlying0
 a0 := Tryz.isAgg0
 z0 := Tryz.sizeOf0
 v0 := Tryz.zeroValue0
 t3 := Tryz.underlying3
 a3 := Tryz.isAgg3
 z3 := Tryz.sizeOf3
 v3 := Tryz.zeroValue3
 t4 := Tryz.underlying4
 a4 := Tryz.isAgg4
 z4 := Tryz.sizeOf4
 v4 := Tryz.zeroValue4
 t22 := Tryz.underlying53
 a22 := Tryz.isAgg53
 z22 := Tryz.sizeOf53
 v22 := Tryz.zeroValue53
 i3 := by kernel_rfl }
open Go.RowKit Go.Lib Go.Sort in
open Go.RowKit Go.Lib Go.Sort in
theorem Tryz.slices_Compact_int (blk off cap : Nat) (zs : List Int) (w : World) (hH : Holds (Value.int .i64) w blk off zs.toArray) (hsz : zs.length ≤ 9223372036854775807) (hcap : zs.length ≤ cap) :
  Calls Tryz.prog 94 #[.slice (some ⟨blk, off, none⟩) zs.length cap] w fun e w' => e = .returned (.slice (some ⟨blk, off, none⟩) (Lib.compact zs).length cap) ∧ ∃ q, w' = putRow (Value.int .i64) (Sort.ahead w q) blk off (Lib.compact zs ++ List.replicate (zs.length - (Lib.compact zs).length) 0).toArray := Any.slices_Compact_int Tryz.laysNm220 blk off cap zs w hH hsz hcap
open Go.RowKit Go.Lib Go.Sort in
theorem Tryz.slices_Compact_int_empty (a : Option Addr) (cap : Nat) (w : World) :
  Calls Tryz.prog 94 #[.slice a 0 cap] w fun e w' => e = .returned (.slice a 0 cap) ∧ w' = w := Any.slices_Compact_int_empty Tryz.laysNm220 a cap w
open Go.RowKit Go.Lib in
open Go.RowKit Go.Lib in
open Go.RowKit Go.Lib Go.Sort in
open Go.RowKit Go.Sort in
theorem Tryz.slices_Sort_int_none (p : Option Addr) (cap : Nat) (w : World) :
  Calls Tryz.prog 44 #[.slice p 0 cap] w fun e w' => e = .returned (.tuple #[]) ∧ w' = w := Any.slices_Sort_int_none Tryz.lays189 p cap w
open Go.RowKit Go.Lib Go.Sort in
def Tryz.laysSlE041_f50_ren : Go.Shelf.Ren := ⟨fun | 41 => 50 | n => n, fun | 22 => 33 | 23 => 29 | 4 => 4 | n => n, fun | n => n⟩
theorem Tryz.laysSlE041_f50 : Go.Proofs.SlLaysE0.n41 Tryz.prog Tryz.laysSlE041_f50_ren := {
 mixed := by kernel_rfl
 f41 := ⟨Tryz.f50.name, by decide, Tryz.func50.trans (congrArg some (by kernel_rfl))⟩
 t4 := Tryz.underlying4
 a4 := Tryz.isAgg4
 z4 := Tryz.sizeOf4
 v4 := Tryz.zeroValue4
 t22 := Tryz.underlying33
 a22 := Tryz.isAgg33
 z22 := Tryz.sizeOf33
 v22 := Tryz.zeroValue33 }
open Go.RowKit Go.Lib in
theorem Tryz.slices_Clone_f50 (i0 : TypeInfo) (z : Value) (size bytes : Nat) (hi : Tryz.prog.info? 29 = some i0) (hz0 : i0.zero = some z) (hz1 : i0.size = size) (hz2 : i0.bytes = bytes) (hzs : z.cells.size = size) (hsz : 0 < size) (z23 : ∀ w, (Go.sizeOf 29).run Tryz.prog w = .ok size w) (b off n c : Nat) (news : List Value) (w : World) (hl : news.length = n * size) (hn : n ≤ maxLen) (hbig : n * bytes ≤ 140737488355328) (hc : ∀ j u, news[j]? = some u → w.cell? ⟨b, off + j, none⟩ = some u) (h1 : ∀ u ∈ news, u.oneCell' = true) :
  Calls Tryz.prog 50 #[.slice (some ⟨b, off, none⟩) n c] w fun e w' => ∃ v', e = .returned v' ∧ w'.ownsRow w.heap.size 29 size v' n news ∧ v' ≠ .slice none 0 0 ∧ Below w.heap.size w w' := AnyE.slices_Clone Tryz.laysSlE041_f50 i0 z size bytes hi hz0 hz1 hz2 hzs hsz z23 b off n c news w hl hn hbig hc h1
def Tryz.laysSlE041_f60_ren : Go.Shelf.Ren := ⟨fun | 41 => 60 | n => n, fun | 22 => 25 | 23 => 93 | 4 => 4 | n => n, fun | n => n⟩
theorem Tryz.laysSlE041_f60 : Go.Proofs.SlLaysE0.n41 Tryz.prog Tryz.laysSlE041_f60_ren := {
 mixed := by kernel_rfl
 f41 := ⟨Tryz.f60.name, by decide, Tryz.func60.trans (congrArg some (by kernel_rfl))⟩
 t4 := Tryz.underlying4
 a4 := Tryz.isAgg4
 z4 := Tryz.sizeOf4
 v4 := Tryz.zeroValue4
 t22 := Tryz.underlying25
 a22 := Tryz.isAgg25
 z22 := Tryz.sizeOf25
 v22 := Tryz.zeroValue25 }
open Go.RowKit Go.Lib in
theorem Tryz.slices_Clone_f60 (i0 : TypeInfo) (z : Value) (size bytes : Nat) (hi : Tryz.prog.info? 93 = some i0) (hz0 : i0.zero = some z) (hz1 : i0.size = size) (hz2 : i0.bytes = bytes) (hzs : z.cells.size = size) (hsz : 0 < size) (z23 : ∀ w, (Go.sizeOf 93).run Tryz.prog w = .ok size w) (b off n c : Nat) (news : List Value) (w : World) (hl : news.length = n * size) (hn : n ≤ maxLen) (hbig : n * bytes ≤ 140737488355328) (hc : ∀ j u, news[j]? = some u → w.cell? ⟨b, off + j, none⟩ = some u) (h1 : ∀ u ∈ news, u.oneCell' = true) :
  Calls Tryz.prog 60 #[.slice (some ⟨b, off, none⟩) n c] w fun e w' => ∃ v', e = .returned v' ∧ w'.ownsRow w.heap.size 93 size v' n news ∧ v' ≠ .slice none 0 0 ∧ Below w.heap.size w w' := AnyE.slices_Clone Tryz.laysSlE041_f60 i0 z size bytes hi hz0 hz1 hz2 hzs hsz z23 b off n c news w hl hn hbig hc h1
open Go.RowKit Go.Lib in
theorem Tryz.slices_Clone_nil_f50 (n c : Nat) (w : World) :
  Calls Tryz.prog 50 #[.slice none n c] w fun e w' => e = .returned (.slice none 0 0) ∧ w' = w := AnyE.slices_Clone_nil Tryz.laysSlE041_f50 n c w
open Go.RowKit Go.Lib in
theorem Tryz.slices_Clone_nil_f60 (n c : Nat) (w : World) :
  Calls Tryz.prog 60 #[.slice none n c] w fun e w' => e = .returned (.slice none 0 0) ∧ w' = w := AnyE.slices_Clone_nil Tryz.laysSlE041_f60 n c w
def Tryz.laysSlQ8_f17_ren : Go.Shelf.Ren := ⟨fun | 8 => 17 | n => n, fun | 22 => 33 | 24 => 29 | 4 => 4 | 3 => 3 | 0 => 0 | n => n, fun | n => n⟩
theorem Tryz.laysSlQ8_f17 : Go.Proofs.SlLaysQ.n8 Tryz.prog Tryz.laysSlQ8_f17_ren := {
 mixed := by kernel_rfl
 f8 := ⟨Tryz.f17.name, by decide, Tryz.func17.trans (congrArg some (by kernel_rfl))⟩
 t0 := Tryz.underlying0
 a0 := Tryz.isAgg0
 z0 := Tryz.sizeOf0
 v0 := Tryz.zeroValue0
 t3 := Tryz.underlying3
 a3 := Tryz.isAgg3
 z3 := Tryz.sizeOf3
 v3 := Tryz.zeroValue3
 t4 := Tryz.underlying4
 a4 := Tryz.isAgg4
 z4 := Tryz.sizeOf4
 v4 := Tryz.zeroValue4
 t22 := Tryz.underlying33
 a22 := Tryz.isAgg33
 z22 := Tryz.sizeOf33
 v22 := Tryz.zeroValue33 }
open Go.RowKit Go.Lib in
theorem Tryz.slices_Equal {α : Type} [Inhabited α] (k : Nat) (aE : ∀ w, (isAgg 29).run Tryz.prog w = .ok true w) (zE : ∀ w, (Go.sizeOf 29).run Tryz.prog w = .ok k w) (enc : α → List Value) (hk : ∀ x, (enc x).length = k) (eq : α → α → Bool) (hne : NeqAt Tryz.prog 29 (fun x => .agg (enc x).toArray) eq) (b1 o1 n c b2 o2 m d : Nat) (xs ys : List α) (w : World) (hx : n ≤ xs.length) (hy : m ≤ ys.length) (hbig : n ≤ 9223372036854775807) (hbig2 : m ≤ 9223372036854775807) (hc1 : ∀ j, j < xs.length → ∀ i v, (enc xs[j]!)[i]? = some v → w.cell? ⟨b1, o1 + j * k + i, none⟩ = some v) (hc2 : ∀ j, j < ys.length → ∀ i v, (enc ys[j]!)[i]? = some v → w.cell? ⟨b2, o2 + j * k + i, none⟩ = some v) :
  Calls Tryz.prog 17 #[.slice (some ⟨b1, o1, none⟩) n c, .slice (some ⟨b2, o2, none⟩) m d] w fun e w' => e = .returned (.bool (Lib.allEq eq (xs.take n) (ys.take m))) ∧ ∃ q, w' = w.drewN q := AnyQ.slices_Equal Tryz.laysSlQ8_f17 k aE zE enc hk eq hne b1 o1 n c b2 o2 m d xs ys w hx hy hbig hbig2 hc1 hc2
open Go.RowKit Go.Lib in
open Go.RowKit Go.Lib in
open Go.RowKit Go.Lib in
def Tryz.laysSlH08_f18_ren : Go.Shelf.Ren := ⟨fun | 8 => 18 | 6 => 40 | n => n, fun | 22 => 51 | 23 => 27 | 25 => 37 | 4 => 4 | 3 => 3 | 0 => 0 | n => n, fun | n => n⟩
theorem Tryz.laysSlH08_f18 : Go.Proofs.SlLaysH0.n8 Tryz.prog Tryz.laysSlH08_f18_ren := {
 mixed := by kernel_rfl
 f6 := ⟨Tryz.f40.name, by decide, Tryz.func40.trans (congrArg some (by kernel_rfl))⟩
 f8 := ⟨Tryz.f18.name, by decide, Tryz.func18.trans (congrArg some (by kernel_rfl))⟩
 t0 := Tryz.underlying0
 a0 := Tryz.isAgg0
 z0 := Tryz.sizeOf0
 v0 := Tryz.zeroValue0
 t3 := Tryz.underlying3
 a3 := Tryz.isAgg3
 z3 := Tryz.sizeOf3
 v3 := Tryz.zeroValue3
 t4 := Tryz.underlying4
 a4 := Tryz.isAgg4
 z4 := Tryz.sizeOf4
 v4 := Tryz.zeroValue4
 t22 := Tryz.underlying51
 a22 := Tryz.isAgg51
 z22 := Tryz.sizeOf51
 v22 := Tryz.zeroValue51
 t25 := Tryz.underlying37
 a25 := Tryz.isAgg37
 z25 := Tryz.sizeOf37
 v25 := Tryz.zeroValue37 }
open Go.RowKit Go.Lib in
theorem Tryz.slices_ContainsFunc_f18 {α : Type} [Inhabited α] (k : Nat) (aE : ∀ w, (isAgg 27).run Tryz.prog w = .ok true w) (zE : ∀ w, (Go.sizeOf 27).run Tryz.prog w = .ok k w) (enc : α → List Value) (hk : ∀ x, (enc x).length = k) (p : α → Bool) (g : Nat) (lb : Array Value) (eg : ∀ args w, (callFunc g args).run Tryz.prog w = .ok (.enter g args) w) (b off n c : Nat) (zs : List α) (w : World) (hp : PredBelow Tryz.prog g lb (fun x => .agg (enc x).toArray) p w) (hz : n ≤ zs.length) (hbig : n ≤ 9223372036854775807) (hb : b < w.heap.size) (hc : ∀ j, j < zs.length → ∀ i v, (enc zs[j]!)[i]? = some v → w.cell? ⟨b, off + j * k + i, none⟩ = some v) :
  Calls Tryz.prog 18 #[.slice (some ⟨b, off, none⟩) n c, .func (.func g) #[] lb] w fun e w' => e = .returned (.bool ((zs.take n).any p)) ∧ Below w.heap.size w w' := AnyQ.slices_ContainsFunc Tryz.laysSlH08_f18 k aE zE enc hk p g lb eg b off n c zs w hp hz hbig hb hc
def Tryz.laysSlH08_f47_ren : Go.Shelf.Ren := ⟨fun | 8 => 47 | 6 => 85 | n => n, fun | 22 => 33 | 23 => 29 | 25 => 38 | 4 => 4 | 3 => 3 | 0 => 0 | n => n, fun | n => n⟩
theorem Tryz.laysSlH08_f47 : Go.Proofs.SlLaysH0.n8 Tryz.prog Tryz.laysSlH08_f47_ren := {
 mixed := by kernel_rfl
 f6 := ⟨Tryz.f85.name, by decide, Tryz.func85.trans (congrArg some (by kernel_rfl))⟩
 f8 := ⟨Tryz.f47.name, by decide, Tryz.func47.trans (congrArg some (by kernel_rfl))⟩
 t0 := Tryz.underlying0
 a0 := Tryz.isAgg0
 z0 := Tryz.sizeOf0
 v0 := Tryz.zeroValue0
 t3 := Tryz.underlying3
 a3 := Tryz.isAgg3
 z3 := Tryz.sizeOf3
 v3 := Tryz.zeroValue3
 t4 := Tryz.underlying4
 a4 := Tryz.isAgg4
 z4 := Tryz.sizeOf4
 v4 := Tryz.zeroValue4
 t22 := Tryz.underlying33
 a22 := Tryz.isAgg33
 z22 := Tryz.sizeOf33
 v22 := Tryz.zeroValue33
 t25 := Tryz.underlying38
 a25 := Tryz.isAgg38
 z25 := Tryz.sizeOf38
 v25 := Tryz.zeroValue38 }
open Go.RowKit Go.Lib in
theorem Tryz.slices_ContainsFunc_f47 {α : Type} [Inhabited α] (k : Nat) (aE : ∀ w, (isAgg 29).run Tryz.prog w = .ok true w) (zE : ∀ w, (Go.sizeOf 29).run Tryz.prog w = .ok k w) (enc : α → List Value) (hk : ∀ x, (enc x).length = k) (p : α → Bool) (g : Nat) (lb : Array Value) (eg : ∀ args w, (callFunc g args).run Tryz.prog w = .ok (.enter g args) w) (b off n c : Nat) (zs : List α) (w : World) (hp : PredBelow Tryz.prog g lb (fun x => .agg (enc x).toArray) p w) (hz : n ≤ zs.length) (hbig : n ≤ 9223372036854775807) (hb : b < w.heap.size) (hc : ∀ j, j < zs.length → ∀ i v, (enc zs[j]!)[i]? = some v → w.cell? ⟨b, off + j * k + i, none⟩ = some v) :
  Calls Tryz.prog 47 #[.slice (some ⟨b, off, none⟩) n c, .func (.func g) #[] lb] w fun e w' => e = .returned (.bool ((zs.take n).any p)) ∧ Below w.heap.size w w' := AnyQ.slices_ContainsFunc Tryz.laysSlH08_f47 k aE zE enc hk p g lb eg b off n c zs w hp hz hbig hb hc
def Tryz.laysSlH08_f146_ren : Go.Shelf.Ren := ⟨fun | 8 => 146 | 6 => 185 | n => n, fun | 22 => 25 | 23 => 93 | 25 => 94 | 4 => 4 | 3 => 3 | 0 => 0 | n => n, fun | n => n⟩
theorem Tryz.laysSlH08_f146 : Go.Proofs.SlLaysH0.n8 Tryz.prog Tryz.laysSlH08_f146_ren := {
 mixed := by kernel_rfl
 f6 := ⟨Tryz.f185.name, by decide, Tryz.func185.trans (congrArg some (by kernel_rfl))⟩
 f8 := ⟨Tryz.f146.name, by decide, Tryz.func146.trans (congrArg some (by kernel_rfl))⟩
 t0 := Tryz.underlying0
 a0 := Tryz.isAgg0
 z0 := Tryz.sizeOf0
 v0 := Tryz.zeroValue0
 t3 := Tryz.underlying3
 a3 := Tryz.isAgg3
 z3 := Tryz.sizeOf3
 v3 := Tryz.zeroValue3
 t4 := Tryz.underlying4
 a4 := Tryz.isAgg4
 z4 := Tryz.sizeOf4
 v4 := Tryz.zeroValue4
 t22 := Tryz.underlying25
 a22 := Tryz.isAgg25
 z22 := Tryz.sizeOf25
 v22 := Tryz.zeroValue25
 t25 := Tryz.underlying94
 a25 := Tryz.isAgg94
 z25 := Tryz.sizeOf94
 v25 := Tryz.zeroValue94 }
open Go.RowKit Go.Lib in
theorem Tryz.slices_ContainsFunc_f146 {α : Type} [Inhabited α] (k : Nat) (aE : ∀ w, (isAgg 93).run Tryz.prog w = .ok true w) (zE : ∀ w, (Go.sizeOf 93).run Tryz.prog w = .ok k w) (enc : α → List Value) (hk : ∀ x, (enc x).length = k) (p : α → Bool) (g : Nat) (lb : Array Value) (eg : ∀ args w, (callFunc g args).run Tryz.prog w = .ok (.enter g args) w) (b off n c : Nat) (zs : List α) (w : World) (hp : PredBelow Tryz.prog g lb (fun x => .agg (enc x).toArray) p w) (hz : n ≤ zs.length) (hbig : n ≤ 9223372036854775807) (hb : b < w.heap.size) (hc : ∀ j, j < zs.length → ∀ i v, (enc zs[j]!)[i]? = some v → w.cell? ⟨b, off + j * k + i, none⟩ = some v) :
  Calls Tryz.prog 146 #[.slice (some ⟨b, off, none⟩) n c, .func (.func g) #[] lb] w fun e w' => e = .returned (.bool ((zs.take n).any p)) ∧ Below w.heap.size w w' := AnyQ.slices_ContainsFunc Tryz.laysSlH08_f146 k aE zE enc hk p g lb eg b off n c zs w hp hz hbig hb hc
open Go.RowKit Go.Lib Go.Sort in
def Tryz.laysSlF020_f209_ren : Go.Shelf.Ren := ⟨fun | 20 => 209 | n => n, fun | 24 => 143 | 22 => 139 | 3 => 3 | 25 => 188 | 4 => 4 | 0 => 0 | n => n, fun | n => n⟩
theorem Tryz.laysSlF020_f209 : Go.Proofs.SlLaysF0.n20 Tryz.prog Tryz.laysSlF020_f209_ren := {
 mixed := by kernel_rfl
 f20 := ⟨Tryz.f209.name, by decide, Tryz.func209.trans (congrArg some (by kernel_rfl))⟩
 t0 := Tryz.underlying0
 a0 := Tryz.isAgg0
 z0 := Tryz.sizeOf0
 v0 := Tryz.zeroValue0
 t3 := Tryz.underlying3
 a3 := Tryz.isAgg3
 z3 := Tryz.sizeOf3
 v3 := Tryz.zeroValue3
 t4 := Tryz.underlying4
 a4 := Tryz.isAgg4
 z4 := Tryz.sizeOf4
 v4 := Tryz.zeroValue4
 t22 := Tryz.underlying139
 a22 := Tryz.isAgg139
 z22 := Tryz.sizeOf139
 v22 := Tryz.zeroValue139
 t25 := Tryz.underlying188
 a25 := Tryz.isAgg188
 z25 := Tryz.sizeOf188
 v25 := Tryz.zeroValue188 }
open Go.RowKit Go.Lib Go.Sort in
open Go.RowKit Go.Lib Go.Sort in
open Go.RowKit Go.Lib Go.Sort in
def Tryz.laysSlF06_f51_ren : Go.Shelf.Ren := ⟨fun | 6 => 51 | 15 => 83 | 14 => 87 | 28 => 128 | 29 => 129 | 20 => 132 | 21 => 133 | 22 => 134 | 23 => 135 | 24 => 136 | 25 => 137 | 26 => 138 | 27 => 139 | 46 => 177 | 47 => 169 | 48 => 170 | 49 => 178 | 50 => 179 | 57 => 201 | n => n, fun | 22 => 33 | 24 => 29 | 25 => 87 | 3 => 3 | 39 => 130 | 0 => 0 | 53 => 172 | 55 => 174 | 4 => 4 | 46 => 164 | 45 => 163 | 50 => 169 | 5 => 5 | 9 => 9 | 66 => 194 | 70 => 198 | 76 => 217 | 77 => 120 | n => n, fun | n => n⟩
theorem Tryz.laysSlF06_f51 : Go.Proofs.SlLaysF0.n6 Tryz.prog Tryz.laysSlF06_f51_ren := {
 mixed := by kernel_rfl
 f6 := ⟨Tryz.f51.name, by decide, Tryz.func51.trans (congrArg some (by kernel_rfl))⟩
 f14 := ⟨Tryz.f87.name, by decide, Tryz.func87.trans (congrArg some (by kernel_rfl))⟩
 f15 := Tryz.func83.trans (congrArg some (by kernel_rfl))
 f20 := ⟨Tryz.f132.name, by decide, Tryz.func132.trans (congrArg some (by kernel_rfl))⟩
 f21 := ⟨Tryz.f133.name, by decide, Tryz.func133.trans (congrArg some (by kernel_rfl))⟩
 f22 := ⟨Tryz.f134.name, by decide, Tryz.func134.trans (congrArg some (by kernel_rfl))⟩
 f23 := ⟨Tryz.f135.name, by decide, Tryz.func135.trans (congrArg some (by kernel_rfl))⟩
 f24 := ⟨Tryz.f136.name, by decide, Tryz.func136.trans (congrArg some (by kernel_rfl))⟩
 f25 := ⟨Tryz.f137.name, by decide, Tryz.func137.trans (congrArg some (by kernel_rfl))⟩
 f26 := ⟨Tryz.f138.name, by decide, Tryz.func138.trans (congrArg some (by kernel_rfl))⟩
 f27 := ⟨Tryz.f139.name, by decide, Tryz.func139.trans (congrArg some (by kernel_rfl))⟩
 f28 := Tryz.func128.trans (congrArg some (by kernel_rfl))
 f29 := Tryz.func129.trans (congrArg some (by kernel_rfl))
 f46 := ⟨Tryz.f177.name, by decide, Tryz.func177.trans (congrArg some (by kernel_rfl))⟩
 f47 := Tryz.func169.trans (congrArg some (by kernel_rfl))
 f48 := Tryz.func170.trans (congrArg some (by kernel_rfl))
 f49 := ⟨Tryz.f178.name, by decide, Tryz.func178.trans (congrArg some (by kernel_rfl))⟩
 f50 := ⟨Tryz.f179.name, by decide, Tryz.func179.trans (congrArg some (by kernel_rfl))⟩
 f57 := ⟨Tryz.f201.name, by decide, Tryz.func201.trans (congrArg some (by kernel_rfl))⟩
 t0 := Tryz.underlying0
 a0 := Tryz.isAgg0
 z0 := Tryz.sizeOf0
 v0 := Tryz.zeroValue0
 t3 := Tryz.underlying3
 a3 := Tryz.isAgg3
 z3 := Tryz.sizeOf3
 v3 := Tryz.zeroValue3
 t4 := Tryz.underlying4
 a4 := Tryz.isAgg4
 z4 := Tryz.sizeOf4
 v4 := Tryz.zeroValue4
 t5 := Tryz.underlying5
 a5 := Tryz.isAgg5
 z5 := Tryz.sizeOf5
 v5 := Tryz.zeroValue5
 t9 := Tryz.underlying9
 a9 := Tryz.isAgg9
 z9 := Tryz.sizeOf9
 v9 := Tryz.zeroValue9
 t22 := Tryz.underlying33
 a22 := Tryz.isAgg33
 z22 := Tryz.sizeOf33
 v22 := Tryz.zeroValue33
 t25 := Tryz.underlying87
 a25 := Tryz.isAgg87
 z25 := Tryz.sizeOf87
 v25 := Tryz.zeroValue87
 t39 := Tryz.underlying130
 a39 := Tryz.isAgg130
 z39 := Tryz.sizeOf130
 v39 := Tryz.zeroValue130
 t45 := Tryz.underlying163
 a45 := Tryz.isAgg163
 z45 := Tryz.sizeOf163
 v45 := Tryz.zeroValue163
 t46 := Tryz.underlying164
 a46 := Tryz.isAgg164
 z46 := Tryz.sizeOf164
 v46 := Tryz.zeroValue164
 t50 := Tryz.underlying169
 a50 := Tryz.isAgg169
 z50 := Tryz.sizeOf169
 v50 := Tryz.zeroValue169
 t53 := Tryz.underlying172
 a53 := Tryz.isAgg172
 z53 := Tryz.sizeOf172
 v53 := Tryz.zeroValue172
 t55 := Tryz.underlying174
 a55 := Tryz.isAgg174
 z55 := Tryz.sizeOf174
 v55 := Tryz.zeroValue174
 t66 := Tryz.underlying194
 a66 := Tryz.isAgg194
 z66 := Tryz.sizeOf194
 v66 := Tryz.zeroValue194
 t70 := Tryz.underlying198
 a70 := Tryz.isAgg198
 z70 := Tryz.sizeOf198
 v70 := Tryz.zeroValue198
 t76 := Tryz.underlying217
 a76 := Tryz.isAgg217
 z76 := Tryz.sizeOf217
 v76 := Tryz.zeroValue217
 t77 := Tryz.underlying120
 a77 := Tryz.isAgg120
 z77 := Tryz.sizeOf120
 v77 := Tryz.zeroValue120 }
open Go.RowKit Go.Lib Go.Sort in
def Tryz.laysSlF06_f188_ren : Go.Shelf.Ren := ⟨fun | 6 => 188 | 15 => 83 | 14 => 208 | 28 => 128 | 29 => 129 | 20 => 209 | 21 => 215 | 22 => 216 | 23 => 217 | 24 => 218 | 25 => 219 | 26 => 220 | 27 => 221 | 46 => 227 | 47 => 169 | 48 => 170 | 49 => 228 | 50 => 229 | 57 => 236 | n => n, fun | 22 => 139 | 24 => 143 | 25 => 188 | 3 => 3 | 39 => 130 | 0 => 0 | 53 => 172 | 55 => 174 | 4 => 4 | 46 => 164 | 45 => 163 | 50 => 169 | 5 => 5 | 9 => 9 | 66 => 194 | 70 => 198 | 76 => 217 | 77 => 120 | n => n, fun | n => n⟩
theorem Tryz.laysSlF06_f188 : Go.Proofs.SlLaysF0.n6 Tryz.prog Tryz.laysSlF06_f188_ren := {
 mixed := by kernel_rfl
 f6 := ⟨Tryz.f188.name, by decide, Tryz.func188.trans (congrArg some (by kernel_rfl))⟩
 f14 := ⟨Tryz.f208.name, by decide, Tryz.func208.trans (congrArg some (by kernel_rfl))⟩
 f15 := Tryz.func83.trans (congrArg some (by kernel_rfl))
 f20 := ⟨Tryz.f209.name, by decide, Tryz.func209.trans (congrArg some (by kernel_rfl))⟩
 f21 := ⟨Tryz.f215.name, by decide, Tryz.func215.trans (congrArg some (by kernel_rfl))⟩
 f22 := ⟨Tryz.f216.name, by decide, Tryz.func216.trans (congrArg some (by kernel_rfl))⟩
 f23 := ⟨Tryz.f217.name, by decide, Tryz.func217.trans (congrArg some (by kernel_rfl))⟩
 f24 := ⟨Tryz.f218.name, by decide, Tryz.func218.trans (congrArg some (by kernel_rfl))⟩
 f25 := ⟨Tryz.f219.name, by decide, Tryz.func219.trans (congrArg some (by kernel_rfl))⟩
 f26 := ⟨Tryz.f220.name, by decide, Tryz.func220.trans (congrArg some (by kernel_rfl))⟩
 f27 := ⟨Tryz.f221.name, by decide, Tryz.func221.trans (congrArg some (by kernel_rfl))⟩
 f28 := Tryz.func128.trans (congrArg some (by kernel_rfl))
 f29 := Tryz.func129.trans (congrArg some (by kernel_rfl))
 f46 := ⟨Tryz.f227.name, by decide, Tryz.func227.trans (congrArg some (by kernel_rfl))⟩
 f47 := Tryz.func169.trans (congrArg some (by kernel_rfl))
 f48 := Tryz.func170.trans (congrArg some (by kernel_rfl))
 f49 := ⟨Tryz.f228.name, by decide, Tryz.func228.trans (congrArg some (by kernel_rfl))⟩
 f50 := ⟨Tryz.f229.name, by decide, Tryz.func229.trans (congrArg some (by kernel_rfl))⟩
 f57 := ⟨Tryz.f236.name, by decide, Tryz.func236.trans (congrArg some (by kernel_rfl))⟩
 t0 := Tryz.underlying0
 a0 := Tryz.isAgg0
 z0 := Tryz.sizeOf0
 v0 := Tryz.zeroValue0
 t3 := Tryz.underlying3
 a3 := Tryz.isAgg3
 z3 := Tryz.sizeOf3
 v3 := Tryz.zeroValue3
 t4 := Tryz.underlying4
 a4 := Tryz.isAgg4
 z4 := Tryz.sizeOf4
 v4 := Tryz.zeroValue4
 t5 := Tryz.underlying5
 a5 := Tryz.isAgg5
 z5 := Tryz.sizeOf5
 v5 := Tryz.zeroValue5
 t9 := Tryz.underlying9
 a9 := Tryz.isAgg9
 z9 := Tryz.sizeOf9
 v9 := Tryz.zeroValue9
 t22 := Tryz.underlying139
 a22 := Tryz.isAgg139
 z22 := Tryz.sizeOf139
 v22 := Tryz.zeroValue139
 t25 := Tryz.underlying188
 a25 := Tryz.isAgg188
 z25 := Tryz.sizeOf188
 v25 := Tryz.zeroValue188
 t39 := Tryz.underlying130
 a39 := Tryz.isAgg130
 z39 := Tryz.sizeOf130
 v39 := Tryz.zeroValue130
 t45 := Tryz.underlying163
 a45 := Tryz.isAgg163
 z45 := Tryz.sizeOf163
 v45 := Tryz.zeroValue163
 t46 := Tryz.underlying164
 a46 := Tryz.isAgg164
 z46 := Tryz.sizeOf164
 v46 := Tryz.zeroValue164
 t50 := Tryz.underlying169
 a50 := Tryz.isAgg169
 z50 := Tryz.sizeOf169
 v50 := Tryz.zeroValue169
 t53 := Tryz.underlying172
 a53 := Tryz.isAgg172
 z53 := Tryz.sizeOf172
 v53 := Tryz.zeroValue172
 t55 := Tryz.underlying174
 a55 := Tryz.isAgg174
 z55 := Tryz.sizeOf174
 v55 := Tryz.zeroValue174
 t66 := Tryz.underlying194
 a66 := Tryz.isAgg194
 z66 := Tryz.sizeOf194
 v66 := Tryz.zeroValue194
 t70 := Tryz.underlying198
 a70 := Tryz.isAgg198
 z70 := Tryz.sizeOf198
 v70 := Tryz.zeroValue198
 t76 := Tryz.underlying217
 a76 := Tryz.isAgg217
 z76 := Tryz.sizeOf217
 v76 := Tryz.zeroValue217
 t77 := Tryz.underlying120
 a77 := Tryz.isAgg120
 z77 := Tryz.sizeOf120
 v77 := Tryz.zeroValue120 }
open Go.RowKit Go.Lib Go.Sort in
open Go.RowKit Go.Lib Go.Sort in
open Go.RowKit Go.Lib Go.Sort in
open Go.RowKit Go.Lib Go.Sort in
open Go.RowKit Go.Lib Go.Sort in
open Go.RowKit Go.Lib Go.Sort in
open Go.RowKit Go.Lib Go.Sort in
open Go.RowKit Go.Lib Go.Sort in
open Go.RowKit Go.Lib Go.Sort in
open Go.RowKit Go.Lib Go.Sort in
open Go.RowKit Go.Lib Go.Sort in
open Go.RowKit Go.Lib Go.Sort in
open Go.RowKit Go.Lib Go.Sort in
open Go.RowKit Go.Lib Go.Sort in
open Go.RowKit Go.Lib Go.Sort in
open Go.RowKit Go.Lib Go.Sort in
open Go.RowKit Go.Lib Go.Sort in
open Go.RowKit Go.Lib Go.Sort in
open Go.RowKit Go.Lib Go.Sort in
open Go.RowKit Go.Lib Go.Sort in
open Go.RowKit Go.Lib Go.Sort in
open Go.RowKit Go.Lib Go.Sort in
open Go.RowKit Go.Lib Go.Sort in
open Go.RowKit Go.Lib Go.Sort in
open Go.RowKit Go.Lib Go.Sort in
theorem Tryz.insertionSortCmpFunc_w_f209 {α : Type} [Inhabited α] (k : Nat) (aE : ∀ w, (isAgg 143).run Tryz.prog w = .ok true w) (zE : ∀ w, (Go.sizeOf 143).run Tryz.prog w = .ok k w) (enc : α → List Value) (cf : α → α → Int) (g : Nat) (cb : Array Value) (blk off cap a b : Nat) (d0 d : Array α) (w0 w : World) (eg : ∀ args w, (callFunc g args).run Tryz.prog w = .ok (.enter g args) w) (hcmp : CmpLays Tryz.prog g cb enc k cf blk off d0.size w0) (R : RowK enc k w0 blk off d0) (hs : d0.size = d.size) (S : SWK enc k w0 blk off d w) (hO : SWO (ltOf cf)) (hab : a ≤ b) (hb : b ≤ d.size) (hsz : d.size < 4611686018427387904) :
  Calls Tryz.prog 209 #[.slice (some ⟨blk, off, none⟩) d.size cap, .int .i64 a, .int .i64 b, .func (.func g) #[] cb] w fun e w' => e = .returned (.tuple #[]) ∧ SWK enc k w0 blk off (Sort.insertionSort (ltOf cf) d a b) w' := AnyQ.insertionSortCmpFunc_w Tryz.laysSlF020_f209 k aE zE enc cf g cb blk off cap a b d0 d w0 w eg hcmp R hs S hO hab hb hsz
open Go.RowKit Go.Lib Go.Sort in
open Go.RowKit Go.Lib Go.Sort in
open Go.RowKit Go.Lib Go.Sort in
open Go.RowKit Go.Lib Go.Sort in
open Go.RowKit Go.Lib Go.Sort in
theorem Tryz.slices_SortFunc_f51 {α : Type} [Inhabited α] (k : Nat) (aE : ∀ w, (isAgg 29).run Tryz.prog w = .ok true w) (zE : ∀ w, (Go.sizeOf 29).run Tryz.prog w = .ok k w) (enc : α → List Value) (hk : ∀ x, (enc x).length = k) (h1 : ∀ x, ∀ v ∈ enc x, v.oneCell' = true) (cf : α → α → Int) (hO : SWO (ltOf cf)) (g : Nat) (cb : Array Value) (blk off cap : Nat) (d : Array α) (w : World) (eg : ∀ args w, (callFunc g args).run Tryz.prog w = .ok (.enter g args) w) (hcmp : CmpLays Tryz.prog g cb enc k cf blk off d.size w) (hH : HoldsK enc k w blk off d) (hblk : blk < w.heap.size) (hsz : d.size < 4611686018427387904) :
  Calls Tryz.prog 51 #[.slice (some ⟨blk, off, none⟩) d.size cap, .func (.func g) #[] cb] w fun e w' =>
   e = .returned (.tuple #[]) ∧ ∃ d' n os, PermIn 0 d.size d d' ∧ SortedIn (ltOf cf) 0 d.size d' ∧ w' = sortWorldK enc k w blk off n d' os := AnyQ.slices_SortFunc Tryz.laysSlF06_f51 k aE zE enc hk h1 cf hO g cb blk off cap d w eg hcmp hH hblk hsz
open Go.RowKit Go.Lib Go.Sort in
open Go.RowKit Go.Lib Go.Sort in
open Go.RowKit Go.Lib Go.Sort in
theorem Tryz.insertionSortCmpFunc_none_f209 {α : Type} [Inhabited α] (p : Option Addr) (cap : Nat) (fv : Value) (w : World) :
  Calls Tryz.prog 209 #[.slice p 0 cap, .int .i64 0, .int .i64 0, fv] w fun e w' => e = .returned (.tuple #[]) ∧ w' = w := AnyF.insertionSortCmpFunc_none Tryz.laysSlF020_f209 p cap fv w
open Go.RowKit Go.Lib Go.Sort in
open Go.RowKit Go.Lib Go.Sort in
open Go.RowKit Go.Lib Go.Sort in
theorem Tryz.slices_SortFunc_none_f51 {α : Type} [Inhabited α] (p : Option Addr) (cap : Nat) (fv : Value) (w : World) :
  Calls Tryz.prog 51 #[.slice p 0 cap, fv] w fun e w' => e = .returned (.tuple #[]) ∧ w' = w := AnyF.slices_SortFunc_none Tryz.laysSlF06_f51 p cap fv w
open Go.RowKit Go.Lib Go.Sort in
theorem Tryz.slices_SortFunc_none_f188 {α : Type} [Inhabited α] (p : Option Addr) (cap : Nat) (fv : Value) (w : World) :
  Calls Tryz.prog 188 #[.slice p 0 cap, fv] w fun e w' => e = .returned (.tuple #[]) ∧ w' = w := AnyF.slices_SortFunc_none Tryz.laysSlF06_f188 p cap fv w
open Go.RowKit Go.Lib Go.Sort in
open Go.RowKit Go.Lib Go.Sort in
theorem Tryz.slices_SortFunc_total_f188 {α : Type} [Inhabited α] (k : Nat) (aE : ∀ w, (isAgg 143).run Tryz.prog w = .ok true w) (zE : ∀ w, (Go.sizeOf 143).run Tryz.prog w = .ok k w) (enc : α → List Value) (hk : ∀ x, (enc x).length = k) (h1 : ∀ x, ∀ v ∈ enc x, v.oneCell' = true) (cf : α → α → Int) (hO : SWO (ltOf cf)) (g : Nat) (cb : Array Value) (blk off cap : Nat) (d : Array α) (w : World) (eg : ∀ args w, (callFunc g args).run Tryz.prog w = .ok (.enter g args) w) (hcmp : CmpLays Tryz.prog g cb enc k cf blk off d.size w) (hH : HoldsK enc k w blk off d) (hblk : blk < w.heap.size) (hsz : d.size < 4611686018427387904) (hT : ∀ x y, (ltOf cf) x y = false → (ltOf cf) y x = false → x = y) :
  Calls Tryz.prog 188 #[.slice (some ⟨blk, off, none⟩) d.size cap, .func (.func g) #[] cb] w fun e w' =>
   e = .returned (.tuple #[]) ∧ ∃ n os, w' = sortWorldK enc k w blk off n (d.toList.mergeSort fun x y => !(ltOf cf) y x).toArray os := AnyQ.slices_SortFunc_total Tryz.laysSlF06_f188 k aE zE enc hk h1 cf hO g cb blk off cap d w eg hcmp hH hblk hsz hT
end Go.Proofs

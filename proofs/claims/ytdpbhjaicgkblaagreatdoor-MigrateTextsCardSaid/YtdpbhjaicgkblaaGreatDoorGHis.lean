/- Joined by merge.py: ZVd, HisP, HisW1, HisW2, HisW3, HisW4, HisW5, HisW6. -/
import Derived.Test.YtdpbhjaicgkblaaGreatDoorGZh
import Derived.Test.YtdpbhjaicgkblaaGreatDoorGZn
import Derived.Maps.OwnOps
import Derived.Maps.OwnSet
/- Zones with their slices' values; blocks known whole. -/
namespace Go.Proofs.YtdpbhjaicgkblaaGreatDoor
set_option linter.unusedSimpArgs false
set_option linter.unusedVariables false
open Go.ChangeShapes Go.WideShapes Go.ChangeAt Go.RowKit
def Zn.cellsZ (z : Zn) (vT vR : Value) : List Value := [.string z.nm, .int .i64 z.first.off, .int .i64 z.first.sv, .string z.first.nm, vT, vR, .int .i64 z.off, .string z.form, .int .i64 z.year]
theorem blk_cl {W : World} {B : Nat} {l : List Value} {T : TypeId} (h : Blk W B l.toArray T) (i : Nat) (u : Value) (hu : l[i]? = some u) : W.cell? ⟨B, i, none⟩ = some u := h.cell i (by simpa using hu)
structure ZV where
 z : Zn
 vT : Value
 vR : Value
 hT : ∃ A c, vT = .slice A z.table.length c
 hR : ∃ A c, vR = .slice A z.tail.length c
instance : Inhabited ZV := ⟨⟨⟨⟨#[]⟩, ⟨0, 0, ⟨#[]⟩⟩, [], [], 0, ⟨#[]⟩, 0⟩, .slice none 0 0, .slice none 0 0, ⟨_, _, rfl⟩, ⟨_, _, rfl⟩⟩⟩
def encZ (x : ZV) : List Value := x.z.cellsZ x.vT x.vR
theorem encZ_len (x : ZV) : (encZ x).length = 9 := rfl
theorem isAggZ (w : World) : (isAgg 65).run Tryz.prog w = .ok true w := by kernel_rfl
theorem sizeOfZ (w : World) : (Go.sizeOf 65).run Tryz.prog w = .ok 9 w := by kernel_rfl
theorem Blk.setAt {W : World} {B : Nat} {cs : Array Value} {T : TypeId} (h : Blk W B cs T) (i : Nat) (v : Value) : Blk (W.setCell ⟨B, i, none⟩ v) B (cs.setIfInBounds i v) T := by
 obtain ⟨hlt, hk⟩ := Array.getElem?_eq_some_iff.1 h
 show (W.heap.modify B _)[B]? = _
 rw [Array.getElem?_eq_getElem (by rw [Array.size_modify]; exact hlt), Array.getElem_modify_self, hk]
 rfl
theorem below_grown {w w' : World} {row : Option Nat} (h : Below w.heap.size w w') : w.grownBy w' row := ⟨h.os, h.tape, h.output, h.size, fun k hk _ => h.block k hk⟩
end Go.Proofs.YtdpbhjaicgkblaaGreatDoor
/- Histories of versions as data, read at a world. -/
namespace Go.Proofs.YtdpbhjaicgkblaaGreatDoor
set_option linter.unusedSimpArgs false
set_option linter.unusedVariables false
open Go.ChangeShapes Go.WideShapes Go.ChangeAt Go.RowKit Go.Sort Go.Lib
theorem str_eq (a b : ByteArray) : (a.toList == b.toList) = decide (a = b) := by
 rw [Bool.eq_iff_iff, beq_iff_eq, decide_eq_true_eq, ByteArray.toList_eq, ByteArray.toList_eq]
 constructor
 ·intro h
  cases a; cases b
  congr
  exact Array.toList_inj.1 h
 ·rintro rfl; rfl
structure Lk where
 nm : ByteArray
 zn : ByteArray
instance : Inhabited Lk := ⟨⟨⟨#[]⟩, ⟨#[]⟩⟩⟩
def encK (x : Lk) : List Value := [.string x.nm, .string x.zn]
theorem encK_len (x : Lk) : (encK x).length = 2 := rfl
structure VV where
 nm : ByteArray
 zs : List ZV
 ls : List Lk
 vZ : Value
 vL : Value
 hZ : ∃ A c, vZ = .slice A zs.length c
 hL : ∃ A c, vL = .slice A ls.length c
instance : Inhabited VV := ⟨⟨⟨#[]⟩, [], [], .slice none 0 0, .slice none 0 0, ⟨_, _, rfl⟩, ⟨_, _, rfl⟩⟩⟩
def encVV (x : VV) : List Value := [.string x.nm, x.vZ, x.vL]
theorem encVV_len (x : VV) : (encVV x).length = 3 := rfl
def GoodZ (w : World) (x : ZV) : Prop := Rd Trn.cells 4 w x.vT x.z.table ∧ Rd Rule.cells 11 w x.vR x.z.tail
theorem GoodZ.on {w w' : World} {x : ZV} (h : GoodZ w x) (hb : Below w.heap.size w w') : GoodZ w' x := ⟨h.1.on hb, h.2.on hb⟩
structure GoodV (w : World) (x : VV) : Prop where
 z : Rd encZ 9 w x.vZ x.zs
 g : ∀ y ∈ x.zs, GoodZ w y
 l : Rd encK 2 w x.vL x.ls
theorem GoodV.on {w w' : World} {x : VV} (h : GoodV w x) (hb : Below w.heap.size w w') : GoodV w' x := ⟨h.z.on hb, fun y hy => (h.g y hy).on hb, h.l.on hb⟩
structure GoodH (w : World) (v : Value) (L : List VV) : Prop where
 r : Rd encVV 3 w v L
 g : ∀ x ∈ L, GoodV w x
theorem GoodH.on {w w' : World} {v : Value} {L : List VV} (h : GoodH w v L) (hb : Below w.heap.size w w') : GoodH w' v L := ⟨h.r.on hb, fun y hy => (h.g y hy).on hb⟩
def OkZ (x : ZV) : Prop := x.z.tail.length ≤ 12 ∧ x.z.table.length ≤ 300 ∧ x.z.form.size < 4294967281
structure OkV (x : VV) : Prop where
 z : x.zs.length ≤ 1000
 l : x.ls.length ≤ 1000
 g : ∀ y ∈ x.zs, OkZ y
structure OkH (L : List VV) : Prop where
 n : L.length ≤ 1000
 g : ∀ x ∈ L, OkV x
theorem isAggV (w : World) : (isAgg 54).run Tryz.prog w = .ok true w := by kernel_rfl
theorem sizeOfV (w : World) : (Go.sizeOf 54).run Tryz.prog w = .ok 3 w := by kernel_rfl
theorem isAggK (w : World) : (isAgg 57).run Tryz.prog w = .ok true w := by kernel_rfl
theorem sizeOfK (w : World) : (Go.sizeOf 57).run Tryz.prog w = .ok 2 w := by kernel_rfl
def ixF {α : Type} [Inhabited α] (p : α → Bool) (l : List α) : Int := idxBy (fun _ y => p y) l default
theorem ixF_from {α : Type} [Inhabited α] (p : α → Bool) : ∀ (l : List α) (i : Nat), idxByFrom (fun _ y => p y) (default : α) l i = match l.findIdx? p with | some k => ((i + k : Nat) : Int) | none => -1
 | [], i => by simp [idxByFrom]
 | y :: r, i => by
  rw [idxByFrom, List.findIdx?_cons]
  by_cases h : p y = true
  ·simp [h]
  ·have h0 : p y = false := by simpa using h
   rw [if_neg (by simpa using h), ixF_from p r (i + 1), if_neg (by simpa using h)]
   cases r.findIdx? p with
   | none => rfl
   | some k =>
    show ((i + 1 + k : Nat) : Int) = ((i + (k + 1) : Nat) : Int)
    congr 1
    omega
theorem ixF_eq {α : Type} [Inhabited α] (p : α → Bool) (l : List α) : ixF p l = match l.findIdx? p with | some k => (k : Int) | none => -1 := by
 unfold ixF idxBy
 rw [ixF_from]
 simp
theorem none_ifZ (A : Option Addr) (c : Nat) (g : Value) (w : World) : Calls Tryz.prog 39 #[.slice A 0 c, g] w fun e w' => e = .returned (.int .i64 (-1)) ∧ w = w' := by
 go_enter Tryz.func39, Tryz.ntmps39
 go_wp2
 go_loop [8] (fun i => i = .int .i64 0) (fun _ => 0)
 case atStart => rfl
 case round =>
  obtain rfl := hrel
  go_wp2
  go_ret
  exact ⟨rfl, rfl⟩
theorem none_cfZ (A : Option Addr) (c : Nat) (g : Value) (w : World) : Calls Tryz.prog 18 #[.slice A 0 c, g] w fun e w' => e = .returned (.bool false) ∧ w = w' := by
 go_enter Tryz.func18, Tryz.ntmps18
 go_wp2_with (go_at_call 39; refine (none_ifZ _ _ _ _).mono ?_; rintro e w' ⟨rfl, rfl⟩)
 go_ret
 exact ⟨rfl, rfl⟩
theorem none_ifV (A : Option Addr) (c : Nat) (g : Value) (w : World) : Calls Tryz.prog 37 #[.slice A 0 c, g] w fun e w' => e = .returned (.int .i64 (-1)) ∧ w = w' := by
 go_enter Tryz.func37, Tryz.ntmps37
 go_wp2
 go_loop [8] (fun i => i = .int .i64 0) (fun _ => 0)
 case atStart => rfl
 case round =>
  obtain rfl := hrel
  go_wp2
  go_ret
  exact ⟨rfl, rfl⟩
theorem none_ifK (A : Option Addr) (c : Nat) (g : Value) (w : World) : Calls Tryz.prog 38 #[.slice A 0 c, g] w fun e w' => e = .returned (.int .i64 (-1)) ∧ w = w' := by
 go_enter Tryz.func38, Tryz.ntmps38
 go_wp2
 go_loop [8] (fun i => i = .int .i64 0) (fun _ => 0)
 case atStart => rfl
 case round =>
  obtain rfl := hrel
  go_wp2
  go_ret
  exact ⟨rfl, rfl⟩
theorem ifZ_any (q : ZV → Bool) (g : Nat) (lb : Array Value) (eg : ∀ args w, (callFunc g args).run Tryz.prog w = .ok (.enter g args) w) (v : Value) (l : List ZV) (w : World) (hp : PredBelow Tryz.prog g lb (fun x => .agg (encZ x).toArray) q w) (hl : l.length ≤ 1000000) (hR : Rd encZ 9 w v l) :
  Calls Tryz.prog 39 #[v, .func (.func g) #[] lb] w fun e w' => e = .returned (.int .i64 (ixF q l)) ∧ Below w.heap.size w w' := by
 rcases hR with ⟨rfl, A, c, rfl⟩ | ⟨b, off, c, rfl, hb, hc⟩
 ·exact (none_ifZ A c _ w).mono fun e w' ⟨h1, h2⟩ => ⟨h1, h2 ▸ Below.refl _ _⟩
 ·have := Tryz.slices_IndexFunc_f39 9 isAggZ sizeOfZ encZ encZ_len q g lb eg b off l.length c l w hp (Nat.le_refl _) (by omega) hb (fun j hj i v hv => hc j hj i v hv)
  rw [List.take_length] at this
  exact this
theorem cfZ_any (q : ZV → Bool) (g : Nat) (lb : Array Value) (eg : ∀ args w, (callFunc g args).run Tryz.prog w = .ok (.enter g args) w) (v : Value) (l : List ZV) (w : World) (hp : PredBelow Tryz.prog g lb (fun x => .agg (encZ x).toArray) q w) (hl : l.length ≤ 1000000) (hR : Rd encZ 9 w v l) :
  Calls Tryz.prog 18 #[v, .func (.func g) #[] lb] w fun e w' => e = .returned (.bool (l.any q)) ∧ Below w.heap.size w w' := by
 rcases hR with ⟨rfl, A, c, rfl⟩ | ⟨b, off, c, rfl, hb, hc⟩
 ·exact (none_cfZ A c _ w).mono fun e w' ⟨h1, h2⟩ => ⟨h1, h2 ▸ Below.refl _ _⟩
 ·have := Tryz.slices_ContainsFunc_f18 9 isAggZ sizeOfZ encZ encZ_len q g lb eg b off l.length c l w hp (Nat.le_refl _) (by omega) hb (fun j hj i v hv => hc j hj i v hv)
  rw [List.take_length] at this
  exact this
theorem ifV_any (q : VV → Bool) (g : Nat) (lb : Array Value) (eg : ∀ args w, (callFunc g args).run Tryz.prog w = .ok (.enter g args) w) (v : Value) (l : List VV) (w : World) (hp : PredBelow Tryz.prog g lb (fun x => .agg (encVV x).toArray) q w) (hl : l.length ≤ 1000000) (hR : Rd encVV 3 w v l) :
  Calls Tryz.prog 37 #[v, .func (.func g) #[] lb] w fun e w' => e = .returned (.int .i64 (ixF q l)) ∧ Below w.heap.size w w' := by
 rcases hR with ⟨rfl, A, c, rfl⟩ | ⟨b, off, c, rfl, hb, hc⟩
 ·exact (none_ifV A c _ w).mono fun e w' ⟨h1, h2⟩ => ⟨h1, h2 ▸ Below.refl _ _⟩
 ·have := Tryz.slices_IndexFunc_f37 3 isAggV sizeOfV encVV encVV_len q g lb eg b off l.length c l w hp (Nat.le_refl _) (by omega) hb (fun j hj i v hv => hc j hj i v hv)
  rw [List.take_length] at this
  exact this
theorem ifK_any (q : Lk → Bool) (g : Nat) (lb : Array Value) (eg : ∀ args w, (callFunc g args).run Tryz.prog w = .ok (.enter g args) w) (v : Value) (l : List Lk) (w : World) (hp : PredBelow Tryz.prog g lb (fun x => .agg (encK x).toArray) q w) (hl : l.length ≤ 1000000) (hR : Rd encK 2 w v l) :
  Calls Tryz.prog 38 #[v, .func (.func g) #[] lb] w fun e w' => e = .returned (.int .i64 (ixF q l)) ∧ Below w.heap.size w w' := by
 rcases hR with ⟨rfl, A, c, rfl⟩ | ⟨b, off, c, rfl, hb, hc⟩
 ·exact (none_ifK A c _ w).mono fun e w' ⟨h1, h2⟩ => ⟨h1, h2 ▸ Below.refl _ _⟩
 ·have := Tryz.slices_IndexFunc_f38 2 isAggK sizeOfK encK encK_len q g lb eg b off l.length c l w hp (Nat.le_refl _) (by omega) hb (fun j hj i v hv => hc j hj i v hv)
  rw [List.take_length] at this
  exact this
end Go.Proofs.YtdpbhjaicgkblaaGreatDoor
/- version.number, version.find. -/
namespace Go.Proofs.YtdpbhjaicgkblaaGreatDoor
set_option linter.unusedSimpArgs false
set_option linter.unusedVariables false
open Go.ChangeShapes Go.WideShapes Go.ChangeAt Go.RowKit Go.Sort Go.Lib
theorem num1_any (B : Nat) (nm : ByteArray) (w : World) (hB : Blk w B #[.string nm] 9) : PredBelow Tryz.prog 101 #[.pointer (some ⟨B, 0, none⟩)] (fun x : VV => .agg (encVV x).toArray) (fun x => decide (x.nm = nm)) w := by
 intro W x hb
 obtain ⟨n, zs, ls, vZ, vL, ⟨A, c, rfl⟩, ⟨A', c', rfl⟩⟩ := x
 have k := (hB.below hb hB.lt).alloc (.cells #[.string n, .slice A zs.length c, .slice A' ls.length c'] 54)
 have c0 := k.cell 0 (v := .string nm) rfl
 have ck := k.lt
 have hB2 := hb.alloc hb.size (.cells #[.string n, .slice A zs.length c, .slice A' ls.length c'] 54)
 show Calls Tryz.prog 101 #[.agg #[.string n, .slice A zs.length c, .slice A' ls.length c'], .pointer (some ⟨B, 0, none⟩)] W _
 go_enter Tryz.func101, Tryz.ntmps101
 go_wp2
 go_ret
 exact ⟨ret1 (vbool (str_eq _ _)), hB2⟩
def numF (L : List VV) (nm : ByteArray) : Int := ixF (fun x : VV => decide (x.nm = nm)) L
theorem number_any (L : List VV) (vH : Value) (nm : ByteArray) (w : World) (hl : L.length ≤ 100000) (hR : Rd encVV 3 w vH L) : Calls Tryz.prog 78 #[.agg #[vH], .string nm] w fun e w' => e = .returned (.int .i64 (numF L nm)) ∧ Below w.heap.size w w' := by
 obtain ⟨A, c, rfl⟩ := rd_vf hR
 have b1 := Blk.new (w.alloc (.cells #[.slice A L.length c] 28)) #[.string nm] 9
 have hB2 : Below w.heap.size w ((w.alloc (.cells #[.slice A L.length c] 28)).alloc (.cells #[.string nm] 9)) := ((Below.refl _ _).alloc (Nat.le_refl _) _).alloc (by simp) _
 have HN := Lib.hid (ifV_any (fun x : VV => decide (x.nm = nm)) 101 _ (enters_of Tryz.func101 (by kernel_rfl) rfl) _ L _ (num1_any _ nm _ b1) (by omega) (hR.on hB2))
 rw [World.size_alloc] at HN
 clear hR b1
 unfold numF
 go_enter Tryz.func78, Tryz.ntmps78
 go_wp2_with fail
 refine HN.out.mono ?_
 rintro e w1 ⟨rfl, hb1⟩
 go_wp2
 go_ret
 exact ⟨rfl, hB2.trans (hb1.mono hB2.size)⟩
theorem fnd1_any (B : Nat) (nm : ByteArray) (w : World) (hB : Blk w B #[.string nm] 9) : PredBelow Tryz.prog 136 #[.pointer (some ⟨B, 0, none⟩)] (fun x : Lk => .agg (encK x).toArray) (fun x => decide (x.nm = nm)) w := by
 intro W x hb
 have k := (hB.below hb hB.lt).alloc (.cells #[.string x.nm, .string x.zn] 57)
 have c0 := k.cell 0 (v := .string nm) rfl
 have ck := k.lt
 have hB2 := hb.alloc hb.size (.cells #[.string x.nm, .string x.zn] 57)
 show Calls Tryz.prog 136 #[.agg #[.string x.nm, .string x.zn], .pointer (some ⟨B, 0, none⟩)] W _
 go_enter Tryz.func136, Tryz.ntmps136
 go_wp2
 go_ret
 exact ⟨ret1 (vbool (str_eq _ _)), hB2⟩
theorem fnd2_any (B : Nat) (nm : ByteArray) (w : World) (hB : Blk w B #[.string nm] 9) : PredBelow Tryz.prog 137 #[.pointer (some ⟨B, 0, none⟩)] (fun x : ZV => .agg (encZ x).toArray) (fun x => decide (x.z.nm = nm)) w := by
 intro W x hb
 obtain ⟨z, vT, vR, ⟨A, c, rfl⟩, ⟨A', c', rfl⟩⟩ := x
 have k := (hB.below hb hB.lt).alloc (.cells #[.string z.nm, .int .i64 z.first.off, .int .i64 z.first.sv, .string z.first.nm, .slice A z.table.length c, .slice A' z.tail.length c', .int .i64 z.off, .string z.form, .int .i64 z.year] 65)
 have c0 := k.cell 0 (v := .string nm) rfl
 have ck := k.lt
 have hB2 := hb.alloc hb.size (.cells #[.string z.nm, .int .i64 z.first.off, .int .i64 z.first.sv, .string z.first.nm, .slice A z.table.length c, .slice A' z.tail.length c', .int .i64 z.off, .string z.form, .int .i64 z.year] 65)
 show Calls Tryz.prog 137 #[.agg #[.string z.nm, .int .i64 z.first.off, .int .i64 z.first.sv, .string z.first.nm, .slice A z.table.length c, .slice A' z.tail.length c', .int .i64 z.off, .string z.form, .int .i64 z.year], .pointer (some ⟨B, 0, none⟩)] W _
 go_enter Tryz.func137, Tryz.ntmps137
 go_wp2
 go_ret
 exact ⟨ret1 (vbool (str_eq _ _)), hB2⟩
end Go.Proofs.YtdpbhjaicgkblaaGreatDoor
/- A set of names as a map that the call makes. -/
namespace Go.Proofs.YtdpbhjaicgkblaaGreatDoor
set_option linter.unusedSimpArgs false
set_option linter.unusedVariables false
open Go.ChangeShapes Go.WideShapes Go.ChangeAt Go.RowKit Go.Maps
def keyB (s : ByteArray) : Lit := .string s.data.toList
theorem keyB_inj {s t : ByteArray} (h : keyB s = keyB t) : s = t := by
 unfold keyB at h
 injection h with h
 cases s; cases t
 congr
 exact Array.toList_inj.1 h
theorem keyB_lit (s : ByteArray) : WideAt.IsKeyLit (keyB s) := by simp [WideAt.IsKeyLit, keyB]
theorem keyS : Keyed Tryz.prog 9 := string_keyed Tryz.underlying9
theorem zeroB (w : World) : (zeroValue 4).run Tryz.prog w = .ok (.bool false) w := by kernel_rfl
def memB (s : ByteArray) (S : List ByteArray) : Bool := S.any fun t => decide (t = s)
theorem memB_iff {s : ByteArray} {S : List ByteArray} : memB s S = true ↔ s ∈ S := by simp [memB]
def setB (S : List ByteArray) : DataW Unit := setOf (.lit (.bool true)) (S.map keyB)
theorem setB_at (s : ByteArray) (z : DataW Unit) : ∀ n (S : List ByteArray), S.length = n → (setB S).atKey (keyB s) z = if memB s S = true then .lit (.bool true) else z
 | 0, S, h => by
  obtain rfl := List.length_eq_zero_iff.1 h
  rfl
 | n + 1, S, h => by
  have hne : S ≠ [] := by intro e; subst e; simp at h
  obtain ⟨T, t, rfl⟩ : ∃ T t, S = T ++ [t] := ⟨S.dropLast, S.getLast hne, (List.dropLast_concat_getLast hne).symm⟩
  have ih := setB_at s z n T (by simpa using h)
  unfold setB at *
  rw [List.map_append, List.map_cons, List.map_nil, setOf_snoc]
  by_cases e : t = s
  ·subst e
   rw [atKey_put_same (tidy_setOf _ _ (fun x hx => by obtain ⟨y, _, rfl⟩ := List.mem_map.1 hx; exact keyB_lit y)).isMap (keyB_lit t)]
   rw [if_pos (memB_iff.2 (by simp))]
  ·rw [atKey_put_other (fun h => e (keyB_inj h).symm), ih]
   have : memB s (T ++ [t]) = memB s T := by unfold memB; rw [List.any_append]; simp [e]
   rw [this]
def SetM (w : World) (B n : Nat) (S : List ByteArray) : Prop := w.ownsMap Tryz.prog 9 (plainElem Tryz.prog 4) B n (setB S)
theorem SetM.look {w : World} {B n : Nat} {S : List ByteArray} (h : SetM w B n S) {s : ByteArray} (hs : s.size ≤ 1000) : (Instr.lookup 166 (.map (some B)) (.string s) false).run Tryz.prog w = .ok (.bool (memB s S)) w := by
 obtain ⟨v, ps, hrun, hv⟩ := World.ownsMap.lookup h keyS Tryz.underlying166 (zeroB w) (plainElem_bool Tryz.underlying4 false) (WideMaps.keyOf_string_mk Tryz.underlying9 (show s.size ≤ maxLen by unfold maxLen; omega))
 rw [hrun]
 have e : DataW.atKey (setB S) (keyB s) (.lit (.bool false)) = .lit (.bool (memB s S)) := by
  rw [setB_at s _ _ S rfl]
  cases memB s S <;> rfl
 unfold keyB at e
 rw [e] at hv
 unfold plainElem at hv
 rw [show Tryz.prog.underlying 4 = some .bool from Tryz.underlying4] at hv
 cases v <;> simp at hv
 obtain ⟨rfl, _⟩ := hv
 rfl
theorem SetM.kept {w w' : World} {row : Option Nat} {B n : Nat} {S : List ByteArray} (h : SetM w B n S) (hg : w.grownBy w' row) (hne : some B ≠ row) : SetM w' B n S := World.ownsMap.kept h hg hne
theorem SetM.below {w w' : World} {B n : Nat} {S : List ByteArray} (h : SetM w B n S) (hb : Below w.heap.size w w') : SetM w' B n S := h.kept (row := none) (below_grown hb) (by simp)
theorem SetM.new (w : World) : SetM (w.alloc (.map #[] 0)) w.heap.size 0 [] := World.ownsMap_made _ _ _ _
theorem wpList_put_set {ops : Array Oper} {rest : List Oper} {o : Oper} {a : Act} {Q : Exit → Act → World → Prop} (w : World) (hg : o.guard = none) (m x v : Operand) (hop : o.op = Op.mapUpdate 166 m x v)
  (B n : Nat) (S : List ByteArray) (hm : a.eval m = .map (some B)) (h : SetM w B n S) (hn : n ≤ 100000) (s : ByteArray) (hx : a.eval x = .string s) (hv : a.eval v = .bool true) (hs : s.size ≤ 1000)
  (hK : ∀ w', SetM w' B (n + 1) (S ++ [s]) → w.grownBy w' (some B) → wpList Tryz.prog ops Q rest (a.put o.dst undef) w') : wpList Tryz.prog ops Q (o :: rest) a w :=
 wpList_mapUpdate_own w hg m x v _ hop _ _ keyS Tryz.underlying166 (plainElem Tryz.prog 4) B n (setB S) hm h (by unfold maxLen; omega) _ _ (keyB s) hx hv (WideMaps.keyOf_string_mk Tryz.underlying9 (show s.size ≤ maxLen by unfold maxLen; omega)) (.lit (.bool true)) [] (plainElem_bool Tryz.underlying4 true)
  fun w' h1 h2 => hK w' (by unfold SetM setB; rw [List.map_append, List.map_cons, List.map_nil, setOf_snoc]; exact h1) h2
end Go.Proofs.YtdpbhjaicgkblaaGreatDoor
/- version.right: a version is valid. -/
namespace Go.Proofs.YtdpbhjaicgkblaaGreatDoor
set_option linter.unusedSimpArgs false
set_option linter.unusedVariables false
open Go.ChangeShapes Go.WideShapes Go.ChangeAt Go.RowKit Go.Sort Go.Lib
def dupZ : List ByteArray → List ZV → Bool
 | _, [] => true
 | S, y :: r => y.z.valid && (!memB y.z.nm S && dupZ (S ++ [y.z.nm]) r)
def dupL (zs : List ZV) : List ByteArray → List Lk → Bool
 | _, [] => true
 | S, k :: r => Cv.nameZ k.nm && (!memB k.nm S && (zs.any (fun y => decide (y.z.nm = k.zn)) && dupL zs (S ++ [k.nm]) r))
def rightB (x : VV) : Bool := Cv.nameZ x.nm && (decide (x.zs.length + x.ls.length ≤ 30) && (dupZ [] x.zs && dupL x.zs (x.zs.map fun y => y.z.nm) x.ls))
theorem drop_at {α : Type} [Inhabited α] {l : List α} {k : Nat} (h : k < l.length) : l.drop k = l[k]! :: l.drop (k + 1) := by
 rw [List.drop_eq_getElem_cons h, getElem!_pos l k h]
theorem take_at {α : Type} [Inhabited α] {l : List α} {k : Nat} (h : k < l.length) : l.take (k + 1) = l.take k ++ [l[k]!] := by
 rw [List.take_succ_eq_append_getElem h, getElem!_pos l k h]
theorem rgt1_any (B : Nat) (nm zn : ByteArray) (w : World) (hB : Blk w B #[.string nm, .string zn] 57) : PredBelow Tryz.prog 100 #[.pointer (some ⟨B, 0, none⟩)] (fun x : ZV => .agg (encZ x).toArray) (fun x => decide (x.z.nm = zn)) w := by
 intro W x hb
 obtain ⟨z, vT, vR, ⟨A, c, rfl⟩, ⟨A', c', rfl⟩⟩ := x
 have k := (hB.below hb hB.lt).alloc (.cells #[.string z.nm, .int .i64 z.first.off, .int .i64 z.first.sv, .string z.first.nm, .slice A z.table.length c, .slice A' z.tail.length c', .int .i64 z.off, .string z.form, .int .i64 z.year] 65)
 have c0 := k.cell 1 (v := .string zn) rfl
 have ck := k.lt
 have hB2 := hb.alloc hb.size (.cells #[.string z.nm, .int .i64 z.first.off, .int .i64 z.first.sv, .string z.first.nm, .slice A z.table.length c, .slice A' z.tail.length c', .int .i64 z.off, .string z.form, .int .i64 z.year] 65)
 show Calls Tryz.prog 100 #[.agg #[.string z.nm, .int .i64 z.first.off, .int .i64 z.first.sv, .string z.first.nm, .slice A z.table.length c, .slice A' z.tail.length c', .int .i64 z.off, .string z.form, .int .i64 z.year], .pointer (some ⟨B, 0, none⟩)] W _
 go_enter Tryz.func100, Tryz.ntmps100
 go_wp2
 go_ret
 exact ⟨ret1 (vbool (str_eq _ _)), hB2⟩
theorem name_sz {s : ByteArray} (h2 : Cv.nameZ s = true) : s.size ≤ 30 := by
 unfold Cv.nameZ at h2
 simp at h2
 omega
theorem valid_nm {z : Zn} (h : z.valid = true) : z.nm.size ≤ 30 := by
 have h2 : Cv.nameZ z.nm = true := by
  unfold Zn.valid Zn.headB at h
  simp only [Bool.and_eq_true] at h
  exact h.1.1
 unfold Cv.nameZ at h2
 simp at h2
 omega
set_option maxRecDepth 100000 in
set_option maxHeartbeats 1500000 in
theorem right_any (x : VV) (w : World) (hm : HasMax w) (hg : GoodV w x) (hk : OkV x) : Calls Tryz.prog 77 #[.agg (encVV x).toArray] w fun e w' => e = .returned (.bool (rightB x)) ∧ Below w.heap.size w w' := by
 obtain ⟨nm, zs, ls, vZ, vL, ⟨A, c, rfl⟩, ⟨A', c', rfl⟩⟩ := x
 have HGZ := Lib.hid hg.z
 have HGG := Lib.hid hg.g
 have HGL := Lib.hid hg.l
 have HN := Lib.hid (fun s W => zoneName s W)
 have hz := hk.z
 have hl := hk.l
 have HK := Lib.hid hk.g
 dsimp only at hz hl HK HGZ HGG HGL
 have HVZ := Lib.hid (fun (y : ZV) (hy : y ∈ zs) W (hb : Below w.heap.size w W) => Valid_zone y.z y.vT y.vR W (hm.on hb) ((hg.g y hy).1.on hb) ((hg.g y hy).2.on hb) (hk.g y hy).2.2 (.inl (hk.g y hy).1))
 clear hg hk hm
 have b0 := Blk.new w #[.string nm, .slice A zs.length c, .slice A' ls.length c'] 54
 have hB1 : Below w.heap.size w (w.alloc (.cells #[.string nm, .slice A zs.length c, .slice A' ls.length c'] 54)) := (Below.refl _ _).alloc (Nat.le_refl _) _
 have hmm := @run_makeMap Tryz.prog
 unfold rightB
 dsimp only
 show Calls Tryz.prog 77 #[.agg #[.string nm, .slice A zs.length c, .slice A' ls.length c']] w _
 have L0 := b0.lt
 have v0 := blk_cl b0 0 _ rfl
 have v1 := blk_cl b0 1 _ rfl
 have v2 := blk_cl b0 2 _ rfl
 cases hn : Cv.nameZ nm
 ·go_enter Tryz.func77, Tryz.ntmps77
  go_wp2_with (go_at_call 62; refine (HN.out _ _).mono ?_; rintro e w1 ⟨rfl, rfl⟩; rw [hn])
  go_ret
  exact ⟨rfl, hB1⟩
 by_cases hs : zs.length + ls.length ≤ 30
 case neg =>
  have ds : decide (zs.length + ls.length ≤ 30) = false := decide_eq_false hs
  rw [ds]
  have ds2 : decide (30 < (zs.length : Int) + ls.length) = true := decide_eq_true (by omega)
  go_enter Tryz.func77, Tryz.ntmps77
  go_wp2_with (go_at_call 62; refine (HN.out _ _).mono ?_; rintro e w1 ⟨rfl, rfl⟩; rw [hn])
  go_ret
  exact ⟨rfl, hB1⟩
 have ds : decide (zs.length + ls.length ≤ 30) = true := decide_eq_true hs
 rw [ds, Bool.true_and, Bool.true_and]
 have ds2 : decide (30 < (zs.length : Int) + ls.length) = false := decide_eq_false (by omega)
 go_enter Tryz.func77, Tryz.ntmps77
 go_wp2_with (go_at_call 62; refine (HN.out _ _).mono ?_; rintro e w1 ⟨rfl, rfl⟩; rw [hn])
 have HS0 := Lib.hid (SetM.new (w.alloc (.cells #[.string nm, .slice A zs.length c, .slice A' ls.length c'] 54)))
 rw [World.size_alloc] at HS0
 have hB2 : Below (w.heap.size + 1) (w.alloc (.cells #[.string nm, .slice A zs.length c, .slice A' ls.length c'] 54)) ((w.alloc (.cells #[.string nm, .slice A zs.length c, .slice A' ls.length c'] 54)).alloc (.map #[] 0)) := by
  have := (Below.refl (w.heap.size + 1) (w.alloc (.cells #[.string nm, .slice A zs.length c, .slice A' ls.length c'] 54))).alloc (by simp) (.map #[] 0)
  exact this
 have hsW : (w.alloc (.cells #[.string nm, .slice A zs.length c, .slice A' ls.length c'] 54)).heap.size = w.heap.size + 1 := by simp
 clear hmm L0 v0 v1 v2
 generalize w.alloc (.cells #[.string nm, .slice A zs.length c, .slice A' ls.length c'] 54) = W1 at *
 go_loopw [26] (fun v26 wr => ∃ k : Nat, k ≤ zs.length ∧ v26 = .int .i64 k ∧ Below (w.heap.size + 1) W1 wr ∧ SetM wr (w.heap.size + 1) k ((zs.take k).map fun y => y.z.nm) ∧ dupZ [] zs = dupZ ((zs.take k).map fun y => y.z.nm) (zs.drop k)) (fun v26 _ => zs.length - (intOf v26).toNat)
 case atStart => exact ⟨0, Nat.zero_le _, rfl, hB2, by simpa using HS0.out, by simp⟩
 case round =>
  obtain ⟨k, hkl, rfl, hbr, hset, hdup⟩ := hrel
  have hbw : Below w.heap.size w wr := hB1.trans (hbr.mono (by omega))
  by_cases hlt : k < zs.length
  ·have hmem : zs[k]! ∈ zs := by rw [getElem!_pos zs k hlt]; exact List.getElem_mem hlt
   obtain ⟨g, off, hA, hg, hcg⟩ : ∃ g off, A = some ⟨g, off, none⟩ ∧ g < wr.heap.size ∧ ∀ i u, (encZ zs[k]!)[i]? = some u → wr.cell? ⟨g, off + k * 9 + i, none⟩ = some u := by
    rcases HGZ.out.on hbw with ⟨e, _⟩ | ⟨g, off, c2, hv, hg, hc⟩
    ·rw [e] at hlt; simp at hlt
    ·injection hv with e1 _ _
     exact ⟨g, off, e1, hg, fun i u hu => hc k hlt i u hu⟩
   subst hA
   have HVY := Lib.hid (HVZ.out zs[k]! hmem)
   have hdr := drop_at hlt
   have htk := take_at hlt
   rw [hdr, dupZ] at hdup
   have HTK := Lib.hid htk
   clear hdr htk hmem
   generalize hy : zs[k]! = y at *
   clear hy
   obtain ⟨z, vT, vR, ⟨AT, cT, rfl⟩, ⟨AR, cR, rfl⟩⟩ := y
   dsimp only at hdup HVY HTK
   unfold Zn.v at HVY
   have e0 := hcg 0 _ rfl
   have e1 := hcg 1 _ rfl
   have e2 := hcg 2 _ rfl
   have e3 := hcg 3 _ rfl
   have e4 := hcg 4 _ rfl
   have e5 := hcg 5 _ rfl
   have e6 := hcg 6 _ rfl
   have e7 := hcg 7 _ rfl
   have e8 := hcg 8 _ rfl
   rw [Nat.add_zero] at e0
   have bz := Blk.new wr #[.string z.nm, .int .i64 z.first.off, .int .i64 z.first.sv, .string z.first.nm, .slice AT z.table.length cT, .slice AR z.tail.length cR, .int .i64 z.off, .string z.form, .int .i64 z.year] 65
   have hbz : Below (w.heap.size + 1) W1 (wr.alloc (.cells #[.string z.nm, .int .i64 z.first.off, .int .i64 z.first.sv, .string z.first.nm, .slice AT z.table.length cT, .slice AR z.tail.length cR, .int .i64 z.off, .string z.form, .int .i64 z.year] 65)) := hbr.alloc (by have := hbr.size; omega) _
   have hbzw : Below w.heap.size w (wr.alloc (.cells #[.string z.nm, .int .i64 z.first.off, .int .i64 z.first.sv, .string z.first.nm, .slice AT z.table.length cT, .slice AR z.tail.length cR, .int .i64 z.off, .string z.form, .int .i64 z.year] 65)) := hbw.alloc hbw.size _
   have hS2 := hset.below (alloc_below' wr (.cells #[.string z.nm, .int .i64 z.first.off, .int .i64 z.first.sv, .string z.first.nm, .slice AT z.table.length cT, .slice AR z.tail.length cR, .int .i64 z.off, .string z.form, .int .i64 z.year] 65))
   clear hcg
   go_wp2_with fail
   generalize wr.alloc (.cells #[.string z.nm, .int .i64 z.first.off, .int .i64 z.first.sv, .string z.first.nm, .slice AT z.table.length cT, .slice AR z.tail.length cR, .int .i64 z.off, .string z.form, .int .i64 z.year] 65) = w2 at *
   clear e0 e1 e2 e3 e4 e5 e6 e7 e8
   refine (HVY.out w2 hbzw).mono ?_
   rintro e w3 ⟨rfl, hb3⟩
   have hb03 : Below (w.heap.size + 1) W1 w3 := hbz.trans (hb3.mono (by have := hbz.size; omega))
   have hbw3 : Below w.heap.size w w3 := hbzw.trans (hb3.mono hbzw.size)
   cases hv : z.valid
   ·rw [hv] at hdup
    go_wp2
    go_ret
    exact ⟨ret1 (vbool (by rw [hdup]; rfl)), hbw3⟩
   have hsz := valid_nm hv
   have hS3 := hS2.below hb3
   have hlk := hS3.look (s := z.nm) (by omega)
   have hzk := bz.below hb3 bz.lt
   have z0 := blk_cl hzk 0 _ rfl
   have zl := hzk.lt
   cases hmb : memB z.nm ((zs.take k).map fun y => y.z.nm)
   case true =>
    rw [hmb] at hlk
    rw [hv, hmb] at hdup
    go_wp2
    go_ret
    exact ⟨ret1 (vbool (by rw [hdup]; rfl)), hbw3⟩
   rw [hmb] at hlk
   rw [hv, hmb] at hdup
   go_wp2_with (at_mapUpdate; refine wpList_put_set _ rfl _ _ _ rfl (w.heap.size + 1) k _ rfl hS3 (by omega) z.nm rfl rfl (by omega) ?_; intro w4 hS4 hg4)
   go_roundw
   case rel =>
    refine ⟨k + 1, by omega, by go_num, ?_, ?_, ?_⟩
    ·exact hb03.grown hg4 (by have := hb03.size; omega) fun r er => by injection er with er; omega
    ·rw [HTK.out, List.map_append]; exact hS4
    ·rw [HTK.out, List.map_append, hdup]; rfl
   case measure => simp [intOf]; omega
  ·have hk' : k = zs.length := by omega
   subst hk'
   rw [List.take_length] at hset hdup
   rw [List.drop_length, dupZ] at hdup
   have HD := Lib.hid hdup
   clear hdup
   have bv := b0.below hbr (by omega)
   have v0 := blk_cl bv 0 _ rfl
   have v1 := blk_cl bv 1 _ rfl
   have v2 := blk_cl bv 2 _ rfl
   have vl := bv.lt
   go_wp2
   clear bv v0 v1 v2 vl hlt hkl
   generalize hq : wr = wq at *
   clear hq
   go_loopw [46] (fun v46 wr => ∃ k : Nat, k ≤ ls.length ∧ v46 = .int .i64 k ∧ Below (w.heap.size + 1) W1 wr ∧ SetM wr (w.heap.size + 1) (zs.length + k) ((zs.map fun y => y.z.nm) ++ (ls.take k).map fun y => y.nm) ∧ dupL zs (zs.map fun y => y.z.nm) ls = dupL zs ((zs.map fun y => y.z.nm) ++ (ls.take k).map fun y => y.nm) (ls.drop k)) (fun v46 _ => ls.length - (intOf v46).toNat)
   case atStart => exact ⟨0, Nat.zero_le _, rfl, hbr, by simpa using hset, by simp⟩
   case round =>
    clear hbr hbw hset
    obtain ⟨k, hkl, rfl, hbr, hset, hdup⟩ := hrel
    have hbw : Below w.heap.size w wr := hB1.trans (hbr.mono (by omega))
    by_cases hlt : k < ls.length
    ·obtain ⟨g, off, hA, hg, hcg⟩ : ∃ g off, A' = some ⟨g, off, none⟩ ∧ g < wr.heap.size ∧ ∀ i u, (encK ls[k]!)[i]? = some u → wr.cell? ⟨g, off + k * 2 + i, none⟩ = some u := by
      rcases HGL.out.on hbw with ⟨e, _⟩ | ⟨g, off, c2, hv, hg, hc⟩
      ·rw [e] at hlt; simp at hlt
      ·injection hv with e1 _ _
       exact ⟨g, off, e1, hg, fun i u hu => hc k hlt i u hu⟩
     subst hA
     have hdr := drop_at hlt
     have htk := take_at hlt
     rw [hdr, dupL] at hdup
     have HTK := Lib.hid htk
     clear hdr htk
     have bv := b0.below hbr (by omega)
     generalize ls[k]! = y at *
     have e0 := hcg 0 _ rfl
     have e1 := hcg 1 _ rfl
     rw [Nat.add_zero] at e0
     have bl := Blk.new wr #[.string y.nm, .string y.zn] 57
     have bv := bv.alloc (.cells #[.string y.nm, .string y.zn] 57)
     have hbz : Below (w.heap.size + 1) W1 (wr.alloc (.cells #[.string y.nm, .string y.zn] 57)) := hbr.alloc (by have := hbr.size; omega) _
     have hbzw : Below w.heap.size w (wr.alloc (.cells #[.string y.nm, .string y.zn] 57)) := hbw.alloc hbw.size _
     have hS2 := hset.below (alloc_below' wr (.cells #[.string y.nm, .string y.zn] 57))
     have HCF := Lib.hid (cfZ_any (fun x => decide (x.z.nm = y.zn)) 100 _ (enters_of Tryz.func100 (by kernel_rfl) rfl) (.slice A zs.length c) zs _ (rgt1_any wr.heap.size y.nm y.zn _ bl) (by omega) (HGZ.out.on hbzw))
     have l0 := blk_cl bl 0 _ rfl
     have ll := bl.lt
     have v1 := blk_cl bv 1 _ rfl
     have vl := bv.lt
     clear hcg
     cases hn2 : Cv.nameZ y.nm
     ·rw [hn2] at hdup
      go_wp2_with (go_at_call 62; refine (HN.out _ _).mono ?_; rintro e w3 ⟨rfl, rfl⟩; rw [hn2])
      go_ret
      exact ⟨ret1 (vbool (by rw [HD.out, hdup]; rfl)), hbzw⟩
     have hsz := name_sz hn2
     have hlk := hS2.look (s := y.nm) (by omega)
     rw [hn2] at hdup
     cases hmb : memB y.nm ((zs.map fun y => y.z.nm) ++ (ls.take k).map fun y => y.nm)
     case true =>
      rw [hmb] at hlk hdup
      go_wp2_with (go_at_call 62; refine (HN.out _ _).mono ?_; rintro e w3 ⟨rfl, rfl⟩; rw [hn2])
      go_ret
      exact ⟨ret1 (vbool (by rw [HD.out, hdup]; rfl)), hbzw⟩
     rw [hmb] at hlk hdup
     generalize hw2 : wr.alloc (.cells #[.string y.nm, .string y.zn] 57) = w2 at *
     cases hcf : zs.any (fun x => decide (x.z.nm = y.zn))
     ·rw [hcf] at HCF hdup
      subst hw2
      go_wp2_with (first | (go_at_call 62; refine (HN.out _ _).mono ?_; rintro e w3 ⟨rfl, rfl⟩; rw [hn2]) | (go_at_call 18; refine HCF.out.mono ?_; rintro e w4 ⟨rfl, hb4⟩))
      go_ret
      exact ⟨ret1 (vbool (by rw [HD.out, hdup]; rfl)), hbzw.trans (hb4.mono hbzw.size)⟩
     rw [hcf] at HCF hdup
     subst hw2
     go_wp2_with (first | (go_at_call 62; refine (HN.out _ _).mono ?_; rintro e w3 ⟨rfl, rfl⟩; rw [hn2]) | (go_at_call 18; refine HCF.out.mono ?_; rintro e w4 ⟨rfl, hb4⟩; have hS4 := hS2.below hb4; have bl4 := bl.below hb4 bl.lt; have m0 := blk_cl bl4 0 _ rfl; have ml := bl4.lt) | (at_mapUpdate; refine wpList_put_set _ rfl _ _ _ rfl (w.heap.size + 1) (zs.length + k) _ rfl hS4 (by omega) y.nm rfl rfl (by omega) ?_; intro w5 hS5 hg5))
     go_roundw
     case rel =>
      have hb14 := hbz.trans (hb4.mono (by have := hbz.size; omega))
      refine ⟨k + 1, by omega, by go_num, ?_, ?_, ?_⟩
      ·exact hb14.grown hg5 (by have := hb14.size; omega) fun r er => by injection er with er; omega
      ·rw [HTK.out, List.map_append, ← List.append_assoc]; exact hS5
      ·rw [HTK.out, List.map_append, ← List.append_assoc, hdup]; rfl
     case measure => simp [intOf]; omega
    ·have hk' : k = ls.length := by omega
     subst hk'
     rw [List.drop_length, dupL] at hdup
     go_wp2
     go_ret
     exact ⟨ret1 (vbool (by rw [HD.out, hdup]; rfl)), hbw⟩
end Go.Proofs.YtdpbhjaicgkblaaGreatDoor
/- version.find. -/
namespace Go.Proofs.YtdpbhjaicgkblaaGreatDoor
set_option linter.unusedSimpArgs false
set_option linter.unusedVariables false
open Go.ChangeShapes Go.WideShapes Go.ChangeAt Go.RowKit Go.Sort Go.Lib
theorem ixF_lt {α : Type} [Inhabited α] {p : α → Bool} {l : List α} (h : 0 ≤ ixF p l) : ∃ k : Nat, ixF p l = k ∧ k < l.length ∧ p l[k]! = true := by
 rw [ixF_eq] at h ⊢
 cases hf : l.findIdx? p with
 | none => rw [hf] at h; exact absurd h (by decide)
 | some k =>
  obtain ⟨hk, h1, _⟩ := List.findIdx?_eq_some_iff_getElem.1 hf
  exact ⟨k, rfl, hk, by rw [getElem!_pos l k hk]; exact h1⟩
theorem ixF_neg {α : Type} [Inhabited α] {p : α → Bool} {l : List α} (h : ¬ 0 ≤ ixF p l) : ixF p l = -1 := by
 rw [ixF_eq] at h ⊢
 cases hf : l.findIdx? p with
 | none => rfl
 | some k => rw [hf] at h; exact absurd (Int.natCast_nonneg k) h
def lnkF (ls : List Lk) (nm : ByteArray) : ByteArray := if 0 ≤ ixF (fun k : Lk => decide (k.nm = nm)) ls then (ls[(ixF (fun k : Lk => decide (k.nm = nm)) ls).toNat]!).zn else nm
def fndI (zs : List ZV) (ls : List Lk) (nm : ByteArray) : Int := ixF (fun y : ZV => decide (y.z.nm = lnkF ls nm)) zs
def fndZ (zs : List ZV) (ls : List Lk) (nm : ByteArray) : Option ZV := if 0 ≤ fndI zs ls nm then some (zs[(fndI zs ls nm).toNat]!) else none
def optZ : Option ZV → Value
 | none => .agg (encZ default).toArray
 | some y => .agg (encZ y).toArray
theorem set9 {W : World} {B : Nat} {T : TypeId} {a0 a1 a2 a3 a4 a5 a6 a7 a8 : Value} (h : Blk W B #[a0, a1, a2, a3, a4, a5, a6, a7, a8] T) (v0 v1 v2 v3 v4 v5 v6 v7 v8 : Value) :
  Blk (((((((((W.setCell ⟨B, 0, none⟩ v0).setCell ⟨B, 1, none⟩ v1).setCell ⟨B, 2, none⟩ v2).setCell ⟨B, 3, none⟩ v3).setCell ⟨B, 4, none⟩ v4).setCell ⟨B, 5, none⟩ v5).setCell ⟨B, 6, none⟩ v6).setCell ⟨B, 7, none⟩ v7).setCell ⟨B, 8, none⟩ v8) B #[v0, v1, v2, v3, v4, v5, v6, v7, v8] T := by
 have := ((((((((h.setAt 0 v0).setAt 1 v1).setAt 2 v2).setAt 3 v3).setAt 4 v4).setAt 5 v5).setAt 6 v6).setAt 7 v7).setAt 8 v8
 simpa using this
theorem set9_below {w W : World} {n B : Nat} (h : Below n w W) (hB : n ≤ B) (v0 v1 v2 v3 v4 v5 v6 v7 v8 : Value) :
  Below n w (((((((((W.setCell ⟨B, 0, none⟩ v0).setCell ⟨B, 1, none⟩ v1).setCell ⟨B, 2, none⟩ v2).setCell ⟨B, 3, none⟩ v3).setCell ⟨B, 4, none⟩ v4).setCell ⟨B, 5, none⟩ v5).setCell ⟨B, 6, none⟩ v6).setCell ⟨B, 7, none⟩ v7).setCell ⟨B, 8, none⟩ v8) :=
 ((((((((h.setCell (p := ⟨B, 0, none⟩) hB v0).setCell (p := ⟨B, 1, none⟩) hB v1).setCell (p := ⟨B, 2, none⟩) hB v2).setCell (p := ⟨B, 3, none⟩) hB v3).setCell (p := ⟨B, 4, none⟩) hB v4).setCell (p := ⟨B, 5, none⟩) hB v5).setCell (p := ⟨B, 6, none⟩) hB v6).setCell (p := ⟨B, 7, none⟩) hB v7).setCell (p := ⟨B, 8, none⟩) hB v8
set_option maxRecDepth 100000 in
set_option maxHeartbeats 1500000 in
theorem find_any (x : VV) (nm : ByteArray) (w : World) (hz : Rd encZ 9 w x.vZ x.zs) (hl : Rd encK 2 w x.vL x.ls) (h1 : x.zs.length ≤ 1000) (h2 : x.ls.length ≤ 1000) : Calls Tryz.prog 119 #[.agg (encVV x).toArray, .string nm] w fun e w' => e = .returned (.tuple #[optZ (fndZ x.zs x.ls nm), .bool (fndZ x.zs x.ls nm).isSome]) ∧ Below w.heap.size w w' := by
 obtain ⟨xn, zs, ls, vZ, vL, ⟨A, c, rfl⟩, ⟨A', c', rfl⟩⟩ := x
 dsimp only at hz hl h1 h2
 have HGZ := Lib.hid hz
 have HGL := Lib.hid hl
 clear hz hl
 have b0 := ((Blk.new w #[.string xn, .slice A zs.length c, .slice A' ls.length c'] 54).alloc (.cells #[.string nm] 9)).alloc (.cells #[.string ⟨#[]⟩, .int .i64 0, .int .i64 0, .string ⟨#[]⟩, .slice none 0 0, .slice none 0 0, .int .i64 0, .string ⟨#[]⟩, .int .i64 0] 65)
 have b1 := (Blk.new (w.alloc (.cells #[.string xn, .slice A zs.length c, .slice A' ls.length c'] 54)) #[.string nm] 9).alloc (.cells #[.string ⟨#[]⟩, .int .i64 0, .int .i64 0, .string ⟨#[]⟩, .slice none 0 0, .slice none 0 0, .int .i64 0, .string ⟨#[]⟩, .int .i64 0] 65)
 have b2 := Blk.new ((w.alloc (.cells #[.string xn, .slice A zs.length c, .slice A' ls.length c'] 54)).alloc (.cells #[.string nm] 9)) #[.string ⟨#[]⟩, .int .i64 0, .int .i64 0, .string ⟨#[]⟩, .slice none 0 0, .slice none 0 0, .int .i64 0, .string ⟨#[]⟩, .int .i64 0] 65
 have hB2 : Below w.heap.size w (((w.alloc (.cells #[.string xn, .slice A zs.length c, .slice A' ls.length c'] 54)).alloc (.cells #[.string nm] 9)).alloc (.cells #[.string ⟨#[]⟩, .int .i64 0, .int .i64 0, .string ⟨#[]⟩, .slice none 0 0, .slice none 0 0, .int .i64 0, .string ⟨#[]⟩, .int .i64 0] 65)) := (((Below.refl _ _).alloc (Nat.le_refl _) _).alloc (by simp) _).alloc (by simp; omega) _
 have H1 := Lib.hid (ifK_any (fun k : Lk => decide (k.nm = nm)) 136 _ (enters_of Tryz.func136 (by kernel_rfl) rfl) (.slice A' ls.length c') ls _ (fnd1_any _ nm _ b1) (by omega) (HGL.out.on hB2))
 rw [World.size_alloc] at H1 b1
 simp only [World.size_alloc] at b2
 dsimp only
 show Calls Tryz.prog 119 #[.agg #[.string xn, .slice A zs.length c, .slice A' ls.length c'], .string nm] w _
 generalize hq : lnkF ls nm = nm2
 have HQ := Lib.hid hq
 clear hq
 have v1 := blk_cl b0 1 _ rfl
 have v2 := blk_cl b0 2 _ rfl
 have vl := b0.lt
 go_enter Tryz.func119, Tryz.ntmps119
 go_wp2_with fail
 generalize ((w.alloc (.cells #[.string xn, .slice A zs.length c, .slice A' ls.length c'] 54)).alloc (.cells #[.string nm] 9)).alloc (.cells #[.string ⟨#[]⟩, .int .i64 0, .int .i64 0, .string ⟨#[]⟩, .slice none 0 0, .slice none 0 0, .int .i64 0, .string ⟨#[]⟩, .int .i64 0] 65) = W at *
 clear v1 v2 vl
 refine H1.out.mono ?_
 rintro e w1 ⟨rfl, hb1⟩
 have hbw1 : Below w.heap.size w w1 := hB2.trans (hb1.mono hB2.size)
 have b0 := b0.below hb1 b0.lt
 have b1 := b1.below hb1 b1.lt
 have b2 := b2.below hb1 b2.lt
 have v1 := blk_cl b0 1 _ rfl
 have v2 := blk_cl b0 2 _ rfl
 have vl := b0.lt
 have nl := b1.lt
 have n0 := blk_cl b1 0 _ rfl
 have nf := b1.frozen 0
 clear H1
 by_cases hi : 0 ≤ ixF (fun k : Lk => decide (k.nm = nm)) ls
 ·have di : decide (0 ≤ ixF (fun k : Lk => decide (k.nm = nm)) ls) = true := decide_eq_true hi
  obtain ⟨k, hk, hkl, _⟩ := ixF_lt hi
  have hq2 : ls[k]!.zn = nm2 := by rw [← HQ.out]; unfold lnkF; rw [if_pos hi, hk, Int.toNat_natCast]
  rw [hk] at di ⊢
  obtain ⟨g, off, hA, hg, hcg⟩ : ∃ g off, A' = some ⟨g, off, none⟩ ∧ g < w1.heap.size ∧ ∀ i u, (encK ls[k]!)[i]? = some u → w1.cell? ⟨g, off + k * 2 + i, none⟩ = some u := by
   rcases HGL.out.on hbw1 with ⟨e, _⟩ | ⟨g, off, c2, hv, hg, hc⟩
   ·rw [e] at hkl; simp at hkl
   ·injection hv with e1 _ _
    exact ⟨g, off, e1, hg, fun i u hu => hc k hkl i u hu⟩
  subst hA
  have e1 := hcg 1 _ rfl
  generalize ls[k]! = y at *
  obtain ⟨ynm, yzn⟩ := y
  dsimp only at hq2 e1
  subst hq2
  clear hk hi hcg
  have hgz : g < w1.heap.size := hg
  go_wp2_with fail
  have c1 : Blk (w1.setCell ⟨w.heap.size + 1, 0, none⟩ (.string yzn)) (w.heap.size + 1) #[.string yzn] 9 := by simpa using b1.setAt 0 (.string yzn)
  have c0 := b0.other (B' := w.heap.size + 1) (i := 0) (by omega) (.string yzn)
  have c2 := b2.other (B' := w.heap.size + 1) (i := 0) (by omega) (.string yzn)
  have hbx : Below w.heap.size w (w1.setCell ⟨w.heap.size + 1, 0, none⟩ (.string yzn)) := hbw1.setCell (p := ⟨w.heap.size + 1, 0, none⟩) (by show w.heap.size ≤ w.heap.size + 1; omega) _
  generalize w1.setCell ⟨w.heap.size + 1, 0, none⟩ (.string yzn) = wx at *
  clear e1 v1 v2 vl nl n0 nf b0 b1 b2 hb1
  have H2 := Lib.hid (ifZ_any (fun y : ZV => decide (y.z.nm = yzn)) 137 _ (enters_of Tryz.func137 (by kernel_rfl) rfl) (.slice A zs.length c) zs wx (fnd2_any _ yzn _ c1) (by omega) (HGZ.out.on hbx))
  refine H2.out.mono ?_
  rintro e w3 ⟨rfl, hb3⟩
  clear H2
  have hbw3 : Below w.heap.size w w3 := hbx.trans (hb3.mono hbx.size)
  have c0 := c0.below hb3 c0.lt
  have c2 := c2.below hb3 c2.lt
  have v1 := blk_cl c0 1 _ rfl
  have v2 := blk_cl c0 2 _ rfl
  have vl := c0.lt
  have zl := c2.lt
  have r0 := blk_cl c2 0 _ rfl
  have r1 := blk_cl c2 1 _ rfl
  have r2 := blk_cl c2 2 _ rfl
  have r3 := blk_cl c2 3 _ rfl
  have r4 := blk_cl c2 4 _ rfl
  have r5 := blk_cl c2 5 _ rfl
  have r6 := blk_cl c2 6 _ rfl
  have r7 := blk_cl c2 7 _ rfl
  have r8 := blk_cl c2 8 _ rfl
  have rf := fun i => c2.frozen i
  by_cases hj : 0 ≤ ixF (fun y : ZV => decide (y.z.nm = yzn)) zs
  ·obtain ⟨k2, hk2, hkl2, _⟩ := ixF_lt hj
   have HX := Lib.hid (show fndZ zs ls nm = some zs[k2]! from by
    unfold fndZ fndI
    rw [HQ.out, if_pos hj, hk2, Int.toNat_natCast])
   rw [hk2]
   rw [hk2] at hj
   have dj : decide ((k2 : Int) < 0) = false := decide_eq_false (by omega)
   obtain ⟨g2, off2, hA2, hg2, hcg2⟩ : ∃ g off, A = some ⟨g, off, none⟩ ∧ g < w3.heap.size ∧ ∀ i u, (encZ zs[k2]!)[i]? = some u → w3.cell? ⟨g, off + k2 * 9 + i, none⟩ = some u := by
    rcases HGZ.out.on hbw3 with ⟨e, _⟩ | ⟨g, off, c3, hv, hg, hc⟩
    ·rw [e] at hkl2; simp at hkl2
    ·injection hv with e1 _ _
     exact ⟨g, off, e1, hg, fun i u hu => hc k2 hkl2 i u hu⟩
   subst hA2
   generalize zs[k2]! = y at *
   obtain ⟨z, vT, vR, ⟨AT, cT, rfl⟩, ⟨AR, cR, rfl⟩⟩ := y
   have d0 := hcg2 0 _ rfl
   have d1 := hcg2 1 _ rfl
   have d2 := hcg2 2 _ rfl
   have d3 := hcg2 3 _ rfl
   have d4 := hcg2 4 _ rfl
   have d5 := hcg2 5 _ rfl
   have d6 := hcg2 6 _ rfl
   have d7 := hcg2 7 _ rfl
   have d8 := hcg2 8 _ rfl
   rw [Nat.add_zero] at d0
   clear hcg2
   go_wp2
   have s9 := set9 c2 (.string z.nm) (.int .i64 z.first.off) (.int .i64 z.first.sv) (.string z.first.nm) (.slice AT z.table.length cT) (.slice AR z.tail.length cR) (.int .i64 z.off) (.string z.form) (.int .i64 z.year)
   have hB9 := set9_below (B := w.heap.size + 1 + 1) hbw3 (by omega) (.string z.nm) (.int .i64 z.first.off) (.int .i64 z.first.sv) (.string z.first.nm) (.slice AT z.table.length cT) (.slice AR z.tail.length cR) (.int .i64 z.off) (.string z.form) (.int .i64 z.year)
   have s0 := s9.cell 0 rfl
   have s1 := s9.cell 1 rfl
   have s2 := s9.cell 2 rfl
   have s3 := s9.cell 3 rfl
   have s4 := s9.cell 4 rfl
   have s5 := s9.cell 5 rfl
   have s6 := s9.cell 6 rfl
   have s7 := s9.cell 7 rfl
   have s8 := s9.cell 8 rfl
   clear s9 r0 r1 r2 r3 r4 r5 r6 r7 r8 rf c2 c0
   generalize (((((((((w3.setCell ⟨w.heap.size + 1 + 1, 0, none⟩ _).setCell ⟨w.heap.size + 1 + 1, 1, none⟩ _).setCell ⟨w.heap.size + 1 + 1, 2, none⟩ _).setCell ⟨w.heap.size + 1 + 1, 3, none⟩ _).setCell ⟨w.heap.size + 1 + 1, 4, none⟩ _).setCell ⟨w.heap.size + 1 + 1, 5, none⟩ _).setCell ⟨w.heap.size + 1 + 1, 6, none⟩ _).setCell ⟨w.heap.size + 1 + 1, 7, none⟩ _).setCell ⟨w.heap.size + 1 + 1, 8, none⟩ _) = w9 at *
   exact bodyPost_ret (v := .tuple #[.agg #[.string z.nm, .int .i64 z.first.off, .int .i64 z.first.sv, .string z.first.nm, .slice AT z.table.length cT, .slice AR z.tail.length cR, .int .i64 z.off, .string z.form, .int .i64 z.year], .bool true]) (by simp [results, Tryz.results119, go_sem, s0, s1, s2, s3, s4, s5, s6, s7, s8]) rfl ⟨by rw [HX.out]; rfl, hB9⟩
  ·have hk2 := ixF_neg hj
   have HX := Lib.hid (show fndZ zs ls nm = none from by
    unfold fndZ fndI
    rw [HQ.out, if_neg hj])
   rw [hk2]
   go_wp2
   have s9 := set9 c2 (.string ⟨#[]⟩) (.int .i64 0) (.int .i64 0) (.string ⟨#[]⟩) (.slice none 0 0) (.slice none 0 0) (.int .i64 0) (.string ⟨#[]⟩) (.int .i64 0)
   have hB9 := set9_below (B := w.heap.size + 1 + 1) hbw3 (by omega) (.string ⟨#[]⟩) (.int .i64 0) (.int .i64 0) (.string ⟨#[]⟩) (.slice none 0 0) (.slice none 0 0) (.int .i64 0) (.string ⟨#[]⟩) (.int .i64 0)
   have s0 := s9.cell 0 rfl
   have s1 := s9.cell 1 rfl
   have s2 := s9.cell 2 rfl
   have s3 := s9.cell 3 rfl
   have s4 := s9.cell 4 rfl
   have s5 := s9.cell 5 rfl
   have s6 := s9.cell 6 rfl
   have s7 := s9.cell 7 rfl
   have s8 := s9.cell 8 rfl
   clear s9 r0 r1 r2 r3 r4 r5 r6 r7 r8 rf c2 c0
   generalize (((((((((w3.setCell ⟨w.heap.size + 1 + 1, 0, none⟩ _).setCell ⟨w.heap.size + 1 + 1, 1, none⟩ _).setCell ⟨w.heap.size + 1 + 1, 2, none⟩ _).setCell ⟨w.heap.size + 1 + 1, 3, none⟩ _).setCell ⟨w.heap.size + 1 + 1, 4, none⟩ _).setCell ⟨w.heap.size + 1 + 1, 5, none⟩ _).setCell ⟨w.heap.size + 1 + 1, 6, none⟩ _).setCell ⟨w.heap.size + 1 + 1, 7, none⟩ _).setCell ⟨w.heap.size + 1 + 1, 8, none⟩ _) = w9 at *
   exact bodyPost_ret (v := .tuple #[.agg #[.string ⟨#[]⟩, .int .i64 0, .int .i64 0, .string ⟨#[]⟩, .slice none 0 0, .slice none 0 0, .int .i64 0, .string ⟨#[]⟩, .int .i64 0], .bool false]) (by simp [results, Tryz.results119, go_sem, s0, s1, s2, s3, s4, s5, s6, s7, s8]) rfl ⟨by rw [HX.out]; rfl, hB9⟩
 ·have di : decide (0 ≤ ixF (fun k : Lk => decide (k.nm = nm)) ls) = false := decide_eq_false hi
  have hq2 : nm = nm2 := by rw [← HQ.out]; exact (if_neg hi).symm
  subst hq2
  go_wp2_with fail
  have c0 := b0
  have c1 := b1
  have c2 := b2
  have hbx := hbw1
  generalize w1 = wx at *
  clear v1 v2 vl nl n0 nf b0 b1 b2 hb1
  have H2 := Lib.hid (ifZ_any (fun y : ZV => decide (y.z.nm = nm)) 137 _ (enters_of Tryz.func137 (by kernel_rfl) rfl) (.slice A zs.length c) zs wx (fnd2_any _ nm _ c1) (by omega) (HGZ.out.on hbx))
  refine H2.out.mono ?_
  rintro e w3 ⟨rfl, hb3⟩
  clear H2
  have hbw3 : Below w.heap.size w w3 := hbx.trans (hb3.mono hbx.size)
  have c0 := c0.below hb3 c0.lt
  have c2 := c2.below hb3 c2.lt
  have v1 := blk_cl c0 1 _ rfl
  have v2 := blk_cl c0 2 _ rfl
  have vl := c0.lt
  have zl := c2.lt
  have r0 := blk_cl c2 0 _ rfl
  have r1 := blk_cl c2 1 _ rfl
  have r2 := blk_cl c2 2 _ rfl
  have r3 := blk_cl c2 3 _ rfl
  have r4 := blk_cl c2 4 _ rfl
  have r5 := blk_cl c2 5 _ rfl
  have r6 := blk_cl c2 6 _ rfl
  have r7 := blk_cl c2 7 _ rfl
  have r8 := blk_cl c2 8 _ rfl
  have rf := fun i => c2.frozen i
  by_cases hj : 0 ≤ ixF (fun y : ZV => decide (y.z.nm = nm)) zs
  ·obtain ⟨k2, hk2, hkl2, _⟩ := ixF_lt hj
   have HX := Lib.hid (show fndZ zs ls nm = some zs[k2]! from by
    unfold fndZ fndI
    rw [HQ.out, if_pos hj, hk2, Int.toNat_natCast])
   rw [hk2]
   rw [hk2] at hj
   have dj : decide ((k2 : Int) < 0) = false := decide_eq_false (by omega)
   obtain ⟨g2, off2, hA2, hg2, hcg2⟩ : ∃ g off, A = some ⟨g, off, none⟩ ∧ g < w3.heap.size ∧ ∀ i u, (encZ zs[k2]!)[i]? = some u → w3.cell? ⟨g, off + k2 * 9 + i, none⟩ = some u := by
    rcases HGZ.out.on hbw3 with ⟨e, _⟩ | ⟨g, off, c3, hv, hg, hc⟩
    ·rw [e] at hkl2; simp at hkl2
    ·injection hv with e1 _ _
     exact ⟨g, off, e1, hg, fun i u hu => hc k2 hkl2 i u hu⟩
   subst hA2
   generalize zs[k2]! = y at *
   obtain ⟨z, vT, vR, ⟨AT, cT, rfl⟩, ⟨AR, cR, rfl⟩⟩ := y
   have d0 := hcg2 0 _ rfl
   have d1 := hcg2 1 _ rfl
   have d2 := hcg2 2 _ rfl
   have d3 := hcg2 3 _ rfl
   have d4 := hcg2 4 _ rfl
   have d5 := hcg2 5 _ rfl
   have d6 := hcg2 6 _ rfl
   have d7 := hcg2 7 _ rfl
   have d8 := hcg2 8 _ rfl
   rw [Nat.add_zero] at d0
   clear hcg2
   go_wp2
   have s9 := set9 c2 (.string z.nm) (.int .i64 z.first.off) (.int .i64 z.first.sv) (.string z.first.nm) (.slice AT z.table.length cT) (.slice AR z.tail.length cR) (.int .i64 z.off) (.string z.form) (.int .i64 z.year)
   have hB9 := set9_below (B := w.heap.size + 1 + 1) hbw3 (by omega) (.string z.nm) (.int .i64 z.first.off) (.int .i64 z.first.sv) (.string z.first.nm) (.slice AT z.table.length cT) (.slice AR z.tail.length cR) (.int .i64 z.off) (.string z.form) (.int .i64 z.year)
   have s0 := s9.cell 0 rfl
   have s1 := s9.cell 1 rfl
   have s2 := s9.cell 2 rfl
   have s3 := s9.cell 3 rfl
   have s4 := s9.cell 4 rfl
   have s5 := s9.cell 5 rfl
   have s6 := s9.cell 6 rfl
   have s7 := s9.cell 7 rfl
   have s8 := s9.cell 8 rfl
   clear s9 r0 r1 r2 r3 r4 r5 r6 r7 r8 rf c2 c0
   generalize (((((((((w3.setCell ⟨w.heap.size + 1 + 1, 0, none⟩ _).setCell ⟨w.heap.size + 1 + 1, 1, none⟩ _).setCell ⟨w.heap.size + 1 + 1, 2, none⟩ _).setCell ⟨w.heap.size + 1 + 1, 3, none⟩ _).setCell ⟨w.heap.size + 1 + 1, 4, none⟩ _).setCell ⟨w.heap.size + 1 + 1, 5, none⟩ _).setCell ⟨w.heap.size + 1 + 1, 6, none⟩ _).setCell ⟨w.heap.size + 1 + 1, 7, none⟩ _).setCell ⟨w.heap.size + 1 + 1, 8, none⟩ _) = w9 at *
   exact bodyPost_ret (v := .tuple #[.agg #[.string z.nm, .int .i64 z.first.off, .int .i64 z.first.sv, .string z.first.nm, .slice AT z.table.length cT, .slice AR z.tail.length cR, .int .i64 z.off, .string z.form, .int .i64 z.year], .bool true]) (by simp [results, Tryz.results119, go_sem, s0, s1, s2, s3, s4, s5, s6, s7, s8]) rfl ⟨by rw [HX.out]; rfl, hB9⟩
  ·have hk2 := ixF_neg hj
   have HX := Lib.hid (show fndZ zs ls nm = none from by
    unfold fndZ fndI
    rw [HQ.out, if_neg hj])
   rw [hk2]
   go_wp2
   have s9 := set9 c2 (.string ⟨#[]⟩) (.int .i64 0) (.int .i64 0) (.string ⟨#[]⟩) (.slice none 0 0) (.slice none 0 0) (.int .i64 0) (.string ⟨#[]⟩) (.int .i64 0)
   have hB9 := set9_below (B := w.heap.size + 1 + 1) hbw3 (by omega) (.string ⟨#[]⟩) (.int .i64 0) (.int .i64 0) (.string ⟨#[]⟩) (.slice none 0 0) (.slice none 0 0) (.int .i64 0) (.string ⟨#[]⟩) (.int .i64 0)
   have s0 := s9.cell 0 rfl
   have s1 := s9.cell 1 rfl
   have s2 := s9.cell 2 rfl
   have s3 := s9.cell 3 rfl
   have s4 := s9.cell 4 rfl
   have s5 := s9.cell 5 rfl
   have s6 := s9.cell 6 rfl
   have s7 := s9.cell 7 rfl
   have s8 := s9.cell 8 rfl
   clear s9 r0 r1 r2 r3 r4 r5 r6 r7 r8 rf c2 c0
   generalize (((((((((w3.setCell ⟨w.heap.size + 1 + 1, 0, none⟩ _).setCell ⟨w.heap.size + 1 + 1, 1, none⟩ _).setCell ⟨w.heap.size + 1 + 1, 2, none⟩ _).setCell ⟨w.heap.size + 1 + 1, 3, none⟩ _).setCell ⟨w.heap.size + 1 + 1, 4, none⟩ _).setCell ⟨w.heap.size + 1 + 1, 5, none⟩ _).setCell ⟨w.heap.size + 1 + 1, 6, none⟩ _).setCell ⟨w.heap.size + 1 + 1, 7, none⟩ _).setCell ⟨w.heap.size + 1 + 1, 8, none⟩ _) = w9 at *
   exact bodyPost_ret (v := .tuple #[.agg #[.string ⟨#[]⟩, .int .i64 0, .int .i64 0, .string ⟨#[]⟩, .slice none 0 0, .slice none 0 0, .int .i64 0, .string ⟨#[]⟩, .int .i64 0], .bool false]) (by simp [results, Tryz.results119, go_sem, s0, s1, s2, s3, s4, s5, s6, s7, s8]) rfl ⟨by rw [HX.out]; rfl, hB9⟩
end Go.Proofs.YtdpbhjaicgkblaaGreatDoor
/- version.Valid: a history is valid. -/
namespace Go.Proofs.YtdpbhjaicgkblaaGreatDoor
set_option linter.unusedSimpArgs false
set_option linter.unusedVariables false
open Go.ChangeShapes Go.WideShapes Go.ChangeAt Go.RowKit Go.Sort Go.Lib
def hisB (L : List VV) : Nat → List VV → Bool
 | _, [] => true
 | i, x :: r => rightB x && (decide (numF L x.nm = (i : Int)) && hisB L (i + 1) r)
def validH (L : List VV) : Bool := decide (L.length ≤ 100) && hisB L 0 L
set_option maxRecDepth 100000 in
set_option maxHeartbeats 1500000 in
theorem Valid_his (L : List VV) (vH : Value) (w : World) (hm : HasMax w) (hg : GoodH w vH L) (hk : OkH L) : Calls Tryz.prog 55 #[.agg #[vH]] w fun e w' => e = .returned (.bool (validH L)) ∧ Below w.heap.size w w' := by
 have HR := Lib.hid hg.r
 have HRI := Lib.hid (fun (x : VV) (hx : x ∈ L) W (hb : Below w.heap.size w W) => right_any x W (hm.on hb) ((hg.g x hx).on hb) (hk.g x hx))
 have HNU := Lib.hid (fun nm W (hb : Below w.heap.size w W) => number_any L vH nm W (by have := hk.n; omega) (hg.r.on hb))
 have hn := hk.n
 obtain ⟨A, c, rfl⟩ := rd_vf hg.r
 clear hg hk hm
 have b0 := Blk.new w #[.slice A L.length c] 28
 have hB1 : Below w.heap.size w (w.alloc (.cells #[.slice A L.length c] 28)) := (Below.refl _ _).alloc (Nat.le_refl _) _
 have h0 := blk_cl b0 0 _ rfl
 have hl := b0.lt
 unfold validH
 by_cases hs : L.length ≤ 100
 case neg =>
  have ds : decide (L.length ≤ 100) = false := decide_eq_false hs
  rw [ds]
  have ds2 : decide (100 < (L.length : Int)) = true := decide_eq_true (by omega)
  go_enter Tryz.func55, Tryz.ntmps55
  go_wp2
  go_ret
  exact ⟨rfl, hB1⟩
 have ds : decide (L.length ≤ 100) = true := decide_eq_true hs
 rw [ds, Bool.true_and]
 have ds2 : decide (100 < (L.length : Int)) = false := decide_eq_false (by omega)
 go_enter Tryz.func55, Tryz.ntmps55
 go_wp2
 have hsW : (w.alloc (.cells #[.slice A L.length c] 28)).heap.size = w.heap.size + 1 := by simp
 clear h0 hl
 generalize w.alloc (.cells #[.slice A L.length c] 28) = W1 at *
 go_loopw [12] (fun v12 wr => ∃ k : Nat, k ≤ L.length ∧ v12 = .int .i64 k ∧ Below W1.heap.size W1 wr ∧ hisB L 0 L = hisB L k (L.drop k)) (fun v12 _ => L.length - (intOf v12).toNat)
 case atStart => exact ⟨0, Nat.zero_le _, rfl, Below.refl _ _, by simp⟩
 case round =>
  obtain ⟨k, hkl, rfl, hbr, hdup⟩ := hrel
  have hbw : Below w.heap.size w wr := hB1.trans (hbr.mono (by omega))
  by_cases hlt : k < L.length
  ·have hmem : L[k]! ∈ L := by rw [getElem!_pos L k hlt]; exact List.getElem_mem hlt
   obtain ⟨g, off, hA, hg, hcg⟩ : ∃ g off, A = some ⟨g, off, none⟩ ∧ g < wr.heap.size ∧ ∀ i u, (encVV L[k]!)[i]? = some u → wr.cell? ⟨g, off + k * 3 + i, none⟩ = some u := by
    rcases HR.out.on hbw with ⟨e, _⟩ | ⟨g, off, c2, hv, hg, hc⟩
    ·rw [e] at hlt; simp at hlt
    ·injection hv with e1 _ _
     exact ⟨g, off, e1, hg, fun i u hu => hc k hlt i u hu⟩
   subst hA
   have HRY := Lib.hid (HRI.out L[k]! hmem)
   have HNY := Lib.hid (fun W hb => HNU.out (L[k]!).nm W hb)
   rw [drop_at hlt, hisB] at hdup
   have bh := (b0.below hbr b0.lt)
   clear hmem
   generalize L[k]! = y at *
   obtain ⟨xn, zs, ls, vZ, vL, ⟨Az, cz, rfl⟩, ⟨Al, cl, rfl⟩⟩ := y
   unfold encVV at HRY hcg
   dsimp only at hdup HRY HNY hcg
   have e0 := hcg 0 _ rfl
   have e1 := hcg 1 _ rfl
   have e2 := hcg 2 _ rfl
   rw [Nat.add_zero] at e0
   have bv := Blk.new wr #[.string xn, .slice Az zs.length cz, .slice Al ls.length cl] 54
   have bh := bh.alloc (.cells #[.string xn, .slice Az zs.length cz, .slice Al ls.length cl] 54)
   have hbz : Below W1.heap.size W1 (wr.alloc (.cells #[.string xn, .slice Az zs.length cz, .slice Al ls.length cl] 54)) := hbr.alloc hbr.size _
   have hbzw : Below w.heap.size w (wr.alloc (.cells #[.string xn, .slice Az zs.length cz, .slice Al ls.length cl] 54)) := hbw.alloc hbw.size _
   clear hcg
   go_wp2_with fail
   generalize wr.alloc (.cells #[.string xn, .slice Az zs.length cz, .slice Al ls.length cl] 54) = w2 at *
   clear e0 e1 e2
   refine (HRY.out w2 hbzw).mono ?_
   rintro e w3 ⟨rfl, hb3⟩
   have hb13 : Below W1.heap.size W1 w3 := hbz.trans (hb3.mono hbz.size)
   have hbw3 : Below w.heap.size w w3 := hbzw.trans (hb3.mono hbzw.size)
   generalize hrb : rightB _ = rb at hdup ⊢
   clear hrb
   cases rb
   ·go_wp2
    go_ret
    exact ⟨ret1 (vbool (by rw [hdup]; rfl)), hbw3⟩
   have bv := bv.below hb3 bv.lt
   have bh := bh.below hb3 bh.lt
   have v0 := blk_cl bv 0 _ rfl
   have vl := bv.lt
   have h0 := blk_cl bh 0 _ rfl
   have hl := bh.lt
   go_wp2_with fail
   refine (HNY.out w3 hbw3).mono ?_
   rintro e w4 ⟨rfl, hb4⟩
   have hb14 : Below W1.heap.size W1 w4 := hb13.trans (hb4.mono hb13.size)
   have hbw4 : Below w.heap.size w w4 := hbw3.trans (hb4.mono hbw3.size)
   clear v0 vl h0 hl
   by_cases hnk : numF L xn = (k : Int)
   ·have dn : (numF L xn == (k : Int)) = true := by rw [beq_iff_eq]; exact hnk
    rw [decide_eq_true hnk] at hdup
    clear hnk
    go_wp2
    go_roundw
    case rel => exact ⟨k + 1, by omega, by go_num, hb14, by rw [hdup]; rfl⟩
    case measure => simp [intOf]; omega
   ·have dn : (numF L xn == (k : Int)) = false := by rw [beq_eq_false_iff_ne]; exact hnk
    rw [decide_eq_false hnk] at hdup
    go_wp2
    go_ret
    exact ⟨ret1 (vbool (by rw [hdup]; rfl)), hbw4⟩
  ·have hk' : k = L.length := by omega
   subst hk'
   rw [List.drop_length, hisB] at hdup
   go_wp2
   go_ret
   exact ⟨ret1 (vbool hdup.symm), hbw⟩
end Go.Proofs.YtdpbhjaicgkblaaGreatDoor
/- version.Find. -/
namespace Go.Proofs.YtdpbhjaicgkblaaGreatDoor
set_option linter.unusedSimpArgs false
set_option linter.unusedVariables false
open Go.ChangeShapes Go.WideShapes Go.ChangeAt Go.RowKit Go.Sort Go.Lib
def retZ : Option ZV → Option ZV × Int
 | some y => (some y, 0)
 | none => (none, 7)
def findF (L : List VV) (v zn : ByteArray) : Option ZV × Int :=
 if validH L = true then
  if 0 ≤ numF L v then
   retZ (fndZ (L[(numF L v).toNat]!).zs (L[(numF L v).toNat]!).ls zn)
  else (none, 7)
 else (none, 1)
set_option maxRecDepth 100000 in
set_option maxHeartbeats 1500000 in
theorem Find_his (L : List VV) (vH : Value) (vn zn : ByteArray) (w : World) (hm : HasMax w) (hg : GoodH w vH L) (hk : OkH L) : Calls Tryz.prog 108 #[.agg #[vH], .string vn, .string zn] w fun e w' => e = .returned (.tuple #[optZ (findF L vn zn).1, .int .i64 (findF L vn zn).2]) ∧ Below w.heap.size w w' := by
 have HV := Lib.hid (fun W (hb : Below w.heap.size w W) => Valid_his L vH W (hm.on hb) (hg.on hb) hk)
 have HNU := Lib.hid (fun W (hb : Below w.heap.size w W) => number_any L vH vn W (by have := hk.n; omega) (hg.r.on hb))
 have HR := Lib.hid hg.r
 have HF := Lib.hid (fun (x : VV) (hx : x ∈ L) W (hb : Below w.heap.size w W) => find_any x zn W ((hg.g x hx).z.on hb) ((hg.g x hx).l.on hb) (hk.g x hx).z (hk.g x hx).l)
 have hn := hk.n
 obtain ⟨A, c, rfl⟩ := rd_vf hg.r
 clear hg hk hm
 have b0 := (Blk.new w #[.slice A L.length c] 28).alloc (.cells #[.string ⟨#[]⟩, .int .i64 0, .int .i64 0, .string ⟨#[]⟩, .slice none 0 0, .slice none 0 0, .int .i64 0, .string ⟨#[]⟩, .int .i64 0] 65)
 have b2 := Blk.new (w.alloc (.cells #[.slice A L.length c] 28)) #[.string ⟨#[]⟩, .int .i64 0, .int .i64 0, .string ⟨#[]⟩, .slice none 0 0, .slice none 0 0, .int .i64 0, .string ⟨#[]⟩, .int .i64 0] 65
 rw [World.size_alloc] at b2
 have hB2 : Below w.heap.size w ((w.alloc (.cells #[.slice A L.length c] 28)).alloc (.cells #[.string ⟨#[]⟩, .int .i64 0, .int .i64 0, .string ⟨#[]⟩, .slice none 0 0, .slice none 0 0, .int .i64 0, .string ⟨#[]⟩, .int .i64 0] 65)) := ((Below.refl _ _).alloc (Nat.le_refl _) _).alloc (by simp) _
 have h0 := blk_cl b0 0 _ rfl
 have hl := b0.lt
 cases hval : validH L
 ·have HX := Lib.hid (show findF L vn zn = (none, 1) from if_neg (by rw [hval]; decide))
  rw [hval] at HV
  clear hval
  rw [HX.out]
  go_enter Tryz.func108, Tryz.ntmps108
  go_wp2_with fail
  generalize (w.alloc (.cells #[.slice A L.length c] 28)).alloc (.cells #[.string ⟨#[]⟩, .int .i64 0, .int .i64 0, .string ⟨#[]⟩, .slice none 0 0, .slice none 0 0, .int .i64 0, .string ⟨#[]⟩, .int .i64 0] 65) = W at *
  clear h0 hl
  refine (HV.out W hB2).mono ?_
  rintro e w1 ⟨rfl, hb1⟩
  have hbw3 : Below w.heap.size w w1 := hB2.trans (hb1.mono hB2.size)
  have c2 := b2.below hb1 b2.lt
  have zl := c2.lt
  have r0 := blk_cl c2 0 _ rfl
  have r1 := blk_cl c2 1 _ rfl
  have r2 := blk_cl c2 2 _ rfl
  have r3 := blk_cl c2 3 _ rfl
  have r4 := blk_cl c2 4 _ rfl
  have r5 := blk_cl c2 5 _ rfl
  have r6 := blk_cl c2 6 _ rfl
  have r7 := blk_cl c2 7 _ rfl
  have r8 := blk_cl c2 8 _ rfl
  have rf := fun i => c2.frozen i
  go_wp2
  have s9 := set9 c2 (.string ⟨#[]⟩) (.int .i64 0) (.int .i64 0) (.string ⟨#[]⟩) (.slice none 0 0) (.slice none 0 0) (.int .i64 0) (.string ⟨#[]⟩) (.int .i64 0)
  have hB9 := set9_below (B := w.heap.size + 1) hbw3 (by omega) (.string ⟨#[]⟩) (.int .i64 0) (.int .i64 0) (.string ⟨#[]⟩) (.slice none 0 0) (.slice none 0 0) (.int .i64 0) (.string ⟨#[]⟩) (.int .i64 0)
  have s0 := s9.cell 0 rfl
  have s1 := s9.cell 1 rfl
  have s2 := s9.cell 2 rfl
  have s3 := s9.cell 3 rfl
  have s4 := s9.cell 4 rfl
  have s5 := s9.cell 5 rfl
  have s6 := s9.cell 6 rfl
  have s7 := s9.cell 7 rfl
  have s8 := s9.cell 8 rfl
  clear s9 r0 r1 r2 r3 r4 r5 r6 r7 r8 rf c2
  generalize ((((((((w1.setCell ⟨w.heap.size + 1, 0, none⟩ _).setCell ⟨w.heap.size + 1, 1, none⟩ _).setCell ⟨w.heap.size + 1, 2, none⟩ _).setCell ⟨w.heap.size + 1, 3, none⟩ _).setCell ⟨w.heap.size + 1, 4, none⟩ _).setCell ⟨w.heap.size + 1, 5, none⟩ _).setCell ⟨w.heap.size + 1, 6, none⟩ _).setCell ⟨w.heap.size + 1, 7, none⟩ _).setCell ⟨w.heap.size + 1, 8, none⟩ _ = w9 at *
  exact bodyPost_ret (v := .tuple #[.agg #[.string ⟨#[]⟩, .int .i64 0, .int .i64 0, .string ⟨#[]⟩, .slice none 0 0, .slice none 0 0, .int .i64 0, .string ⟨#[]⟩, .int .i64 0], .int .i64 1]) (by simp [results, Tryz.results108, go_sem, s0, s1, s2, s3, s4, s5, s6, s7, s8]) rfl ⟨rfl, hB9⟩
 ·rw [hval] at HV
  have HVAL := Lib.hid hval
  clear hval
  have HFV := Lib.hid (show findF L vn zn = if 0 ≤ numF L vn then retZ (fndZ (L[(numF L vn).toNat]!).zs (L[(numF L vn).toNat]!).ls zn) else (none, 7) from if_pos HVAL.out)
  rw [HFV.out]
  by_cases hj : 0 ≤ numF L vn
  case neg =>
   rw [if_neg hj]
   have hk2 : numF L vn = -1 := ixF_neg hj
   rw [hk2] at HNU
   go_enter Tryz.func108, Tryz.ntmps108
   go_wp2_with fail
   generalize (w.alloc (.cells #[.slice A L.length c] 28)).alloc (.cells #[.string ⟨#[]⟩, .int .i64 0, .int .i64 0, .string ⟨#[]⟩, .slice none 0 0, .slice none 0 0, .int .i64 0, .string ⟨#[]⟩, .int .i64 0] 65) = W at *
   clear h0 hl
   refine (HV.out W hB2).mono ?_
   rintro e w1 ⟨rfl, hb1⟩
   have hbw1 : Below w.heap.size w w1 := hB2.trans (hb1.mono hB2.size)
   have c0 := b0.below hb1 b0.lt
   have c2 := b2.below hb1 b2.lt
   have h0 := blk_cl c0 0 _ rfl
   have hl := c0.lt
   go_wp2_with fail
   clear h0 hl
   refine (HNU.out w1 hbw1).mono ?_
   rintro e w2 ⟨rfl, hb2⟩
   have hbw3 : Below w.heap.size w w2 := hbw1.trans (hb2.mono hbw1.size)
   have c2 := c2.below hb2 c2.lt
   have r0 := blk_cl c2 0 _ rfl
   have r1 := blk_cl c2 1 _ rfl
   have r2 := blk_cl c2 2 _ rfl
   have r3 := blk_cl c2 3 _ rfl
   have r4 := blk_cl c2 4 _ rfl
   have r5 := blk_cl c2 5 _ rfl
   have r6 := blk_cl c2 6 _ rfl
   have r7 := blk_cl c2 7 _ rfl
   have r8 := blk_cl c2 8 _ rfl
   have zl := c2.lt
   have rf := fun i => c2.frozen i
   go_wp2
   have s9 := set9 c2 (.string ⟨#[]⟩) (.int .i64 0) (.int .i64 0) (.string ⟨#[]⟩) (.slice none 0 0) (.slice none 0 0) (.int .i64 0) (.string ⟨#[]⟩) (.int .i64 0)
   have hB9 := set9_below (B := w.heap.size + 1) hbw3 (by omega) (.string ⟨#[]⟩) (.int .i64 0) (.int .i64 0) (.string ⟨#[]⟩) (.slice none 0 0) (.slice none 0 0) (.int .i64 0) (.string ⟨#[]⟩) (.int .i64 0)
   have s0 := s9.cell 0 rfl
   have s1 := s9.cell 1 rfl
   have s2 := s9.cell 2 rfl
   have s3 := s9.cell 3 rfl
   have s4 := s9.cell 4 rfl
   have s5 := s9.cell 5 rfl
   have s6 := s9.cell 6 rfl
   have s7 := s9.cell 7 rfl
   have s8 := s9.cell 8 rfl
   clear s9 r0 r1 r2 r3 r4 r5 r6 r7 r8 rf c2
   generalize ((((((((w2.setCell ⟨w.heap.size + 1, 0, none⟩ _).setCell ⟨w.heap.size + 1, 1, none⟩ _).setCell ⟨w.heap.size + 1, 2, none⟩ _).setCell ⟨w.heap.size + 1, 3, none⟩ _).setCell ⟨w.heap.size + 1, 4, none⟩ _).setCell ⟨w.heap.size + 1, 5, none⟩ _).setCell ⟨w.heap.size + 1, 6, none⟩ _).setCell ⟨w.heap.size + 1, 7, none⟩ _).setCell ⟨w.heap.size + 1, 8, none⟩ _ = w9 at *
   exact bodyPost_ret (v := .tuple #[.agg #[.string ⟨#[]⟩, .int .i64 0, .int .i64 0, .string ⟨#[]⟩, .slice none 0 0, .slice none 0 0, .int .i64 0, .string ⟨#[]⟩, .int .i64 0], .int .i64 7]) (by simp [results, Tryz.results108, go_sem, s0, s1, s2, s3, s4, s5, s6, s7, s8]) rfl ⟨rfl, hB9⟩
  obtain ⟨k, hk2, hkl, _⟩ := ixF_lt hj
  have hk2 : numF L vn = k := hk2
  rw [if_pos hj, hk2, Int.toNat_natCast]
  rw [hk2] at HNU
  have hmem : L[k]! ∈ L := by rw [getElem!_pos L k hkl]; exact List.getElem_mem hkl
  have HFX := Lib.hid (HF.out L[k]! hmem)
  have HRK := Lib.hid (fun W (hb : Below w.heap.size w W) => show ∃ g off, A = some ⟨g, off, none⟩ ∧ g < W.heap.size ∧ ∀ i u, (encVV L[k]!)[i]? = some u → W.cell? ⟨g, off + k * 3 + i, none⟩ = some u from by
   rcases HR.out.on hb with ⟨e, _⟩ | ⟨g, off, c2, hv, hg, hc⟩
   ·rw [e] at hkl; simp at hkl
   ·injection hv with e1 _ _
    exact ⟨g, off, e1, hg, fun i u hu => hc k hkl i u hu⟩)
  have dj : decide ((k : Int) < 0) = false := decide_eq_false (by omega)
  clear hj hk2 hmem HFV
  generalize L[k]! = x at *
  obtain ⟨xn, zs, ls, vZ, vL, ⟨Az, cz, rfl⟩, ⟨Al, cl, rfl⟩⟩ := x
  unfold encVV at HRK HFX
  dsimp only at HRK HFX ⊢
  generalize fndZ zs ls zn = r at *
  go_enter Tryz.func108, Tryz.ntmps108
  go_wp2_with fail
  generalize (w.alloc (.cells #[.slice A L.length c] 28)).alloc (.cells #[.string ⟨#[]⟩, .int .i64 0, .int .i64 0, .string ⟨#[]⟩, .slice none 0 0, .slice none 0 0, .int .i64 0, .string ⟨#[]⟩, .int .i64 0] 65) = W at *
  clear h0 hl
  refine (HV.out W hB2).mono ?_
  rintro e w1 ⟨rfl, hb1⟩
  have hbw1 : Below w.heap.size w w1 := hB2.trans (hb1.mono hB2.size)
  have c0 := b0.below hb1 b0.lt
  have c2 := b2.below hb1 b2.lt
  have h0 := blk_cl c0 0 _ rfl
  have hl := c0.lt
  go_wp2_with fail
  clear h0 hl
  refine (HNU.out w1 hbw1).mono ?_
  rintro e w2 ⟨rfl, hb2⟩
  have hbw2 : Below w.heap.size w w2 := hbw1.trans (hb2.mono hbw1.size)
  have c0 := c0.below hb2 c0.lt
  have c2 := c2.below hb2 c2.lt
  have h0 := blk_cl c0 0 _ rfl
  have hl := c0.lt
  obtain ⟨g, off, hA, hg, hcg⟩ := HRK.out w2 hbw2
  subst hA
  have e0 := hcg 0 _ rfl
  have e1 := hcg 1 _ rfl
  have e2 := hcg 2 _ rfl
  rw [Nat.add_zero] at e0
  clear hcg
  go_wp2_with fail
  clear h0 hl e0 e1 e2
  refine (HFX.out w2 hbw2).mono ?_
  rintro e w3 ⟨rfl, hb3⟩
  have hbw4 : Below w.heap.size w w3 := hbw2.trans (hb3.mono hbw2.size)
  have c2 := c2.below hb3 c2.lt
  cases r with
  | none =>
   have c2 := c2.alloc (.cells #[.string ⟨#[]⟩, .int .i64 0, .int .i64 0, .string ⟨#[]⟩, .slice none 0 0, .slice none 0 0, .int .i64 0, .string ⟨#[]⟩, .int .i64 0] 65)
   have hbw3 : Below w.heap.size w (w3.alloc (.cells #[.string ⟨#[]⟩, .int .i64 0, .int .i64 0, .string ⟨#[]⟩, .slice none 0 0, .slice none 0 0, .int .i64 0, .string ⟨#[]⟩, .int .i64 0] 65)) := hbw4.alloc hbw4.size _
   rw [show optZ none = .agg #[.string ⟨#[]⟩, .int .i64 0, .int .i64 0, .string ⟨#[]⟩, .slice none 0 0, .slice none 0 0, .int .i64 0, .string ⟨#[]⟩, .int .i64 0] from rfl, show (none : Option ZV).isSome = false from rfl]
   have r0 := blk_cl c2 0 _ rfl
   have r1 := blk_cl c2 1 _ rfl
   have r2 := blk_cl c2 2 _ rfl
   have r3 := blk_cl c2 3 _ rfl
   have r4 := blk_cl c2 4 _ rfl
   have r5 := blk_cl c2 5 _ rfl
   have r6 := blk_cl c2 6 _ rfl
   have r7 := blk_cl c2 7 _ rfl
   have r8 := blk_cl c2 8 _ rfl
   have zl := c2.lt
   have rf := fun i => c2.frozen i
   go_wp2
   have s9 := set9 c2 (.string ⟨#[]⟩) (.int .i64 0) (.int .i64 0) (.string ⟨#[]⟩) (.slice none 0 0) (.slice none 0 0) (.int .i64 0) (.string ⟨#[]⟩) (.int .i64 0)
   have hB9 := set9_below (B := w.heap.size + 1) hbw3 (by omega) (.string ⟨#[]⟩) (.int .i64 0) (.int .i64 0) (.string ⟨#[]⟩) (.slice none 0 0) (.slice none 0 0) (.int .i64 0) (.string ⟨#[]⟩) (.int .i64 0)
   have s0 := s9.cell 0 rfl
   have s1 := s9.cell 1 rfl
   have s2 := s9.cell 2 rfl
   have s3 := s9.cell 3 rfl
   have s4 := s9.cell 4 rfl
   have s5 := s9.cell 5 rfl
   have s6 := s9.cell 6 rfl
   have s7 := s9.cell 7 rfl
   have s8 := s9.cell 8 rfl
   clear s9 r0 r1 r2 r3 r4 r5 r6 r7 r8 rf c2
   generalize (((((((((w3.alloc (.cells #[.string ⟨#[]⟩, .int .i64 0, .int .i64 0, .string ⟨#[]⟩, .slice none 0 0, .slice none 0 0, .int .i64 0, .string ⟨#[]⟩, .int .i64 0] 65)).setCell ⟨w.heap.size + 1, 0, none⟩ _).setCell ⟨w.heap.size + 1, 1, none⟩ _).setCell ⟨w.heap.size + 1, 2, none⟩ _).setCell ⟨w.heap.size + 1, 3, none⟩ _).setCell ⟨w.heap.size + 1, 4, none⟩ _).setCell ⟨w.heap.size + 1, 5, none⟩ _).setCell ⟨w.heap.size + 1, 6, none⟩ _).setCell ⟨w.heap.size + 1, 7, none⟩ _).setCell ⟨w.heap.size + 1, 8, none⟩ _ = w9 at *
   exact bodyPost_ret (v := .tuple #[.agg #[.string ⟨#[]⟩, .int .i64 0, .int .i64 0, .string ⟨#[]⟩, .slice none 0 0, .slice none 0 0, .int .i64 0, .string ⟨#[]⟩, .int .i64 0], .int .i64 7]) (by simp [results, Tryz.results108, go_sem, s0, s1, s2, s3, s4, s5, s6, s7, s8]) rfl ⟨rfl, hB9⟩
  | some y =>
   obtain ⟨z, vT, vR, ⟨AT, cT, rfl⟩, ⟨AR, cR, rfl⟩⟩ := y
   rw [show optZ (some ⟨z, .slice AT z.table.length cT, .slice AR z.tail.length cR, ⟨AT, cT, rfl⟩, ⟨AR, cR, rfl⟩⟩) = .agg #[.string z.nm, .int .i64 z.first.off, .int .i64 z.first.sv, .string z.first.nm, .slice AT z.table.length cT, .slice AR z.tail.length cR, .int .i64 z.off, .string z.form, .int .i64 z.year] from rfl, show (some (⟨z, .slice AT z.table.length cT, .slice AR z.tail.length cR, ⟨AT, cT, rfl⟩, ⟨AR, cR, rfl⟩⟩ : ZV)).isSome = true from rfl]
   have bz := Blk.new w3 #[.string z.nm, .int .i64 z.first.off, .int .i64 z.first.sv, .string z.first.nm, .slice AT z.table.length cT, .slice AR z.tail.length cR, .int .i64 z.off, .string z.form, .int .i64 z.year] 65
   have c2 := c2.alloc (.cells #[.string z.nm, .int .i64 z.first.off, .int .i64 z.first.sv, .string z.first.nm, .slice AT z.table.length cT, .slice AR z.tail.length cR, .int .i64 z.off, .string z.form, .int .i64 z.year] 65)
   have hbw3 : Below w.heap.size w (w3.alloc (.cells #[.string z.nm, .int .i64 z.first.off, .int .i64 z.first.sv, .string z.first.nm, .slice AT z.table.length cT, .slice AR z.tail.length cR, .int .i64 z.off, .string z.form, .int .i64 z.year] 65)) := hbw4.alloc hbw4.size _
   have r0 := blk_cl c2 0 _ rfl
   have r1 := blk_cl c2 1 _ rfl
   have r2 := blk_cl c2 2 _ rfl
   have r3 := blk_cl c2 3 _ rfl
   have r4 := blk_cl c2 4 _ rfl
   have r5 := blk_cl c2 5 _ rfl
   have r6 := blk_cl c2 6 _ rfl
   have r7 := blk_cl c2 7 _ rfl
   have r8 := blk_cl c2 8 _ rfl
   have zl := c2.lt
   have rf := fun i => c2.frozen i
   have y0 := blk_cl bz 0 _ rfl
   have y1 := blk_cl bz 1 _ rfl
   have y2 := blk_cl bz 2 _ rfl
   have y3 := blk_cl bz 3 _ rfl
   have y4 := blk_cl bz 4 _ rfl
   have y5 := blk_cl bz 5 _ rfl
   have y6 := blk_cl bz 6 _ rfl
   have y7 := blk_cl bz 7 _ rfl
   have y8 := blk_cl bz 8 _ rfl
   have yl := bz.lt
   go_wp2
   have s9 := set9 c2 (.string z.nm) (.int .i64 z.first.off) (.int .i64 z.first.sv) (.string z.first.nm) (.slice AT z.table.length cT) (.slice AR z.tail.length cR) (.int .i64 z.off) (.string z.form) (.int .i64 z.year)
   have hB9 := set9_below (B := w.heap.size + 1) hbw3 (by omega) (.string z.nm) (.int .i64 z.first.off) (.int .i64 z.first.sv) (.string z.first.nm) (.slice AT z.table.length cT) (.slice AR z.tail.length cR) (.int .i64 z.off) (.string z.form) (.int .i64 z.year)
   have s0 := s9.cell 0 rfl
   have s1 := s9.cell 1 rfl
   have s2 := s9.cell 2 rfl
   have s3 := s9.cell 3 rfl
   have s4 := s9.cell 4 rfl
   have s5 := s9.cell 5 rfl
   have s6 := s9.cell 6 rfl
   have s7 := s9.cell 7 rfl
   have s8 := s9.cell 8 rfl
   clear s9 r0 r1 r2 r3 r4 r5 r6 r7 r8 rf c2
   generalize (((((((((w3.alloc (.cells #[.string z.nm, .int .i64 z.first.off, .int .i64 z.first.sv, .string z.first.nm, .slice AT z.table.length cT, .slice AR z.tail.length cR, .int .i64 z.off, .string z.form, .int .i64 z.year] 65)).setCell ⟨w.heap.size + 1, 0, none⟩ _).setCell ⟨w.heap.size + 1, 1, none⟩ _).setCell ⟨w.heap.size + 1, 2, none⟩ _).setCell ⟨w.heap.size + 1, 3, none⟩ _).setCell ⟨w.heap.size + 1, 4, none⟩ _).setCell ⟨w.heap.size + 1, 5, none⟩ _).setCell ⟨w.heap.size + 1, 6, none⟩ _).setCell ⟨w.heap.size + 1, 7, none⟩ _).setCell ⟨w.heap.size + 1, 8, none⟩ _ = w9 at *
   exact bodyPost_ret (v := .tuple #[.agg #[.string z.nm, .int .i64 z.first.off, .int .i64 z.first.sv, .string z.first.nm, .slice AT z.table.length cT, .slice AR z.tail.length cR, .int .i64 z.off, .string z.form, .int .i64 z.year], .int .i64 0]) (by simp [results, Tryz.results108, go_sem, s0, s1, s2, s3, s4, s5, s6, s7, s8]) rfl ⟨rfl, hB9⟩
end Go.Proofs.YtdpbhjaicgkblaaGreatDoor

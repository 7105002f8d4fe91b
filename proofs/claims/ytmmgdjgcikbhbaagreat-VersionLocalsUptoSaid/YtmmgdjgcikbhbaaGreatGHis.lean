/- Joined by merge.py: ZVd. -/
import Derived.Test.YtmmgdjgcikbhbaaGreatGZn
/- Zones with their slices' values; blocks known whole. -/
namespace Go.Proofs.YtmmgdjgcikbhbaaGreat
set_option linter.unusedSimpArgs false
set_option linter.unusedVariables false
open Go.ChangeShapes Go.WideShapes Go.ChangeAt Go.RowKit
def Zn.cellsZ (z:Zn) (vT vR:Value):List Value:=[.string z.nm,.int .i64 z.first.off,.int .i64 z.first.sv,.string z.first.nm,vT,vR,.int .i64 z.off,.string z.form,.int .i64 z.year]
theorem Zz0 {W:World} {B:Nat} {l:List Value} {T:TypeId} (h:Blk W B l.toArray T) (i:Nat) (u:Value) (hu:l[i]? = some u):W.cell? ⟨B,i,none⟩=some u:=h.cell i (by simpa using hu)
structure ZV where
 z:Zn
 vT:Value
 vR:Value
 hT:∃ A c,vT=.slice A z.table.length c
 hR:∃ A c,vR=.slice A z.tail.length c
instance : Inhabited ZV := ⟨⟨⟨⟨#[]⟩, ⟨0, 0, ⟨#[]⟩⟩, [], [], 0, ⟨#[]⟩, 0⟩, .slice none 0 0, .slice none 0 0, ⟨_, _, rfl⟩, ⟨_, _, rfl⟩⟩⟩
def encZ (x:ZV):List Value:=x.z.cellsZ x.vT x.vR
theorem Zz32 (x:ZV):(encZ x).length=9:=rfl
theorem isAggZ (w:World):(isAgg 27).run Tryz.prog w=.ok true w:=by kernel_rfl
theorem sizeOfZ (w:World):(Go.sizeOf 27).run Tryz.prog w=.ok 9 w:=by kernel_rfl
theorem Blk.setAt {W:World} {B:Nat} {cs:Array Value} {T:TypeId} (h:Blk W B cs T) (i:Nat) (v:Value):Blk (W.setCell ⟨B,i,none⟩ v) B (cs.setIfInBounds i v) T:=by
 obtain ⟨hlt,hk⟩:=Array.getElem?_eq_some_iff.1 h
 show (W.heap.modify B _)[B]? = _
 rw [Array.getElem?_eq_getElem (by rw [Array.size_modify];exact hlt),Array.getElem_modify_self,hk]
 rfl
theorem Zzd {w w':World} {row:Option Nat} (h:Below w.heap.size w w'):w.grownBy w' row:=⟨h.os,h.tape,h.output,h.size,fun k hk _=>h.block k hk⟩
end Go.Proofs.YtmmgdjgcikbhbaaGreat

/- Joined by merge.py: Union. -/
import Derived.Test.YtmmgdjgcikbhbaaGreatGRn
/- local.union: spans are sorted and joined. -/
namespace Go.Proofs.YtmmgdjgcikbhbaaGreat
set_option linter.unusedSimpArgs false
set_option linter.unusedVariables false
open Go.ChangeShapes Go.WideShapes Go.ChangeAt Go.RowKit Go.Sort Go.Lib
structure BSpn where
 s:Spn
 lo : -4398046511104≤s.fr
 hi:s.fr≤4398046511104
instance : Inhabited BSpn := ⟨⟨⟨0, 0⟩, by decide, by decide⟩⟩
def encG (s:BSpn):List Value:=encN s.s
theorem Zz5x (s:BSpn):(encG s).length=2:=rfl
theorem encG_one (s:BSpn):∀ v∈encG s,v.oneCell'=true:=Zzz s.s
def cmpB (x y:BSpn):Int:=x.s.fr-y.s.fr
theorem ltB_iff (x y:BSpn):ltOf cmpB x y=true↔x.s.fr<y.s.fr:=by unfold ltOf cmpB;rw [decide_eq_true_iff];omega
theorem Zz4L (x y:BSpn):ltOf cmpB x y=false↔y.s.fr≤x.s.fr:=by unfold ltOf cmpB;rw [decide_eq_false_iff_not];omega
theorem swoB:Sort.SWO (ltOf cmpB) where
 irrefl x:=(Zz4L x x).2 (Int.le_refl _)
 trans x y z h1 h2:=(ltB_iff x z).2 (by have:=(ltB_iff x y).1 h1;have:=(ltB_iff y z).1 h2;omega)
 ntrans x y z h1 h2:=(Zz4L x z).2 (by have:=(Zz4L x y).1 h1;have:=(Zz4L y z).1 h2;omega)
theorem isAggS (w:World):(isAgg 29).run Tryz.prog w=.ok true w:=by kernel_rfl
theorem sizeOfS (w:World):(Go.sizeOf 29).run Tryz.prog w=.ok 2 w:=by kernel_rfl
theorem Zz5M {α:Type} [Inhabited α] {enc:α→List Value} {k:Nat} {w:World} {g off n j:Nat} {d:Array α} {os:Array Obj} (hg:j≠g) (hj:j<w.heap.size):(sortWorldK enc k w g off n d os).heap[j]? = w.heap[j]? := by
 have e:(sortWorldK enc k w g off n d os).heap=(mapBlock (Sort.ahead w n) g (putCells id off (flatK enc k d))).heap++os:=rfl
 rw [e,Array.getElem?_append_left (by simpa [mapBlock,Sort.ahead] using hj)]
 simp [mapBlock,Sort.ahead,Array.getElem?_modify,show g≠j from fun e=>hg e.symm]
def SortEnd (l:List BSpn) (g cap:Nat) (w:World) (e:Ending) (w':World):Prop:=e=.returned (.tuple #[])∧∃ L:List BSpn,L.length=l.length∧L.Perm l∧L.Pairwise (fun x y=>x.s.fr≤y.s.fr)∧Rd encG 2 w' (.slice (some ⟨g,0,none⟩) l.length cap) L∧(∀ B w0,Below B w0 w→B≤g→B≤w.heap.size→Below B w0 w')∧∀ j,j≠g→j<w.heap.size→w'.heap[j]? = w.heap[j]?
theorem sort_of {l:List BSpn} {d':Array BSpn} (hp:Sort.PermIn 0 l.toArray.size l.toArray d') (hs:Sort.SortedIn (ltOf cmpB) 0 l.toArray.size d'):d'.toList.length=l.length∧d'.toList.Perm l∧d'.toList.Pairwise (fun x y=>x.s.fr≤y.s.fr):=by
 obtain ⟨h1,_,h2⟩:=hp
 have h1:d'.size=l.length:=by simpa using h1
 refine ⟨by simpa using h1,?_,?_⟩
 ·have e1:d'.extract 0 l.toArray.size=d':=by
   rw [show l.toArray.size=d'.size by rw [h1];simp]
   simp
  rw [e1] at h2
  simpa using h2
 refine List.pairwise_iff_getElem.2 fun i j hi hj hij=>?_
 have hi':i<d'.size:=by simpa using hi
 have hj':j<d'.size:=by simpa using hj
 have:=(Zz4L _ _).1 (hs i j (Nat.zero_le _) hij (by simp;omega))
 rw [getElem!_pos d' i hi',getElem!_pos d' j hj'] at this
 simpa using this
def toB (l:List Spn) (h:∀ s∈l,s.ok=true):List BSpn:=l.attach.map fun s=>⟨s.1,by have:=Spn.ok_iff.1 (h s.1 s.2);omega,by have:=Spn.ok_iff.1 (h s.1 s.2);omega⟩
theorem toB_val (l:List Spn) (h:∀ s∈l,s.ok=true):(toB l h).map BSpn.s=l:=by
 unfold toB
 rw [List.map_map]
 exact List.attach_map_subtype_val l
theorem toB_len (l:List Spn) (h:∀ s∈l,s.ok=true):(toB l h).length=l.length:=by unfold toB;simp
theorem flatG (L:List BSpn):L.flatMap encG=(L.map BSpn.s).flatMap encN:=by
 rw [List.flatMap_map];rfl
theorem rd_val {w:World} {v:Value} {L:List BSpn} (h:Rd encG 2 w v L):Rd encN 2 w v (L.map BSpn.s):=by
 rcases h with ⟨e,A,c,hv⟩|⟨g,o,c,hv,hg,hc⟩
 ·exact .inl ⟨by rw [e];rfl,A,c,hv⟩
 refine .inr ⟨g,o,c,by rw [List.length_map];exact hv,hg,fun j hj i u hu=>hc j (by simpa using hj) i u ?_⟩
 rw [List.length_map] at hj
 have e:(L.map BSpn.s)[j]! = (L[j]!).s:=by
  rw [getElem!_pos _ j (by simpa using hj),getElem!_pos L j hj,List.getElem_map]
 rw [e] at hu
 exact hu
theorem Zz5Z:∀ (o:List Spn) (m:Nat) (t:Int),m<o.length→(o.flatMap encN).set (m*2+1) (.int .i64 t)=(o.set m ⟨(o[m]!).fr,t⟩).flatMap encN
 | [],m,t,h=>absurd h (Nat.not_lt_zero _)
 | s :: o,0,t,h=>by simp [encN]
 | s :: o,m+1,t,h=>by
  have ih:=Zz5Z o m t (by simpa using h)
  rw [List.flatMap_cons,List.set_cons_succ,List.flatMap_cons,show ((s :: o)[m+1]!)=o[m]! by simp,←ih]
  rw [List.set_append_right _ _ (by rw [Zzy];omega),Zzy,show (m+1)*2+1-2=m*2+1 by omega]
end Go.Proofs.YtmmgdjgcikbhbaaGreat

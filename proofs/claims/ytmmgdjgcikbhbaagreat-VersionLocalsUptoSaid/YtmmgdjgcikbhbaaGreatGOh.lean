/- Joined by merge.py: BulkZ, OpenPl. -/
import Derived.Test.YtmmgdjgcikbhbaaGreatGOpen
import Derived.Test.YtmmgdjgcikbhbaaGreatRows
/- A zone of bounded bulk has a short format. -/
namespace Go.Proofs.YtmmgdjgcikbhbaaGreat
set_option linter.unusedSimpArgs false
set_option linter.unusedVariables false
open Go.ChangeShapes Go.WideShapes Go.ChangeAt Go.RowKit Go.Deep
theorem Zz72 {H:Type} {d:DataW H} {l:List (DataW H)} (h:d∈l):Rows.uptoBulk d≤Rows.uptoBulkAll l:=by
 induction l with
 | nil=>cases h
 | cons x r ih =>
  rw [Rows.uptoBulkAll]
  rcases List.mem_cons.1 h with e|e
  ·subst e;omega
  have:=ih e;omega
theorem Zz75 {H:Type} {enc:TypeId × Value→H} {w:World} {base:Nat} {spare:Nat→Bool} {held:Bool} {z:Zn} {vT vR:Value} {d:DataW H} {ps:List MemPlace} (h:DataW.Trod enc Tryz.prog w base spare held 27 (z.v vT vR) d ps):z.form.size≤Rows.uptoBulk d:=by
 obtain ⟨fuel,hf⟩:=h
 obtain ⟨xs,n,_,hx,_,hn,hi⟩:=DataW.trod_struct Tryz.underlying27 hf
 have h5:=hi 5 _ rfl
 have hn5:5<xs.length:=by rw [hn];decide
 rw [List.getElem?_eq_getElem hn5] at h5
 have e:(((z.v vT vR).cells.toList.drop 7).take (Tryz.prog.cellsOf 9))=[.string z.form]:=by rw [cellsString];rfl
 obtain ⟨s,e1,e2,_⟩:=DataW.trod_string Tryz.underlying9 (h5:DataW.trod enc Tryz.prog w base spare held n 9 _=some xs[5])
 have e3:s=z.form:=by
  have:[Value.string z.form]=[.string s]:=e.symm.trans e1
  simpa using this.symm
 rw [e3] at e2
 obtain ⟨rfl,_⟩:=Prod.ext_iff.1 hx
 have hm:DataW.lit (.string z.form.data.toList)∈xs.map (·.1):=List.mem_map.2 ⟨xs[5],List.getElem_mem hn5,by rw [e2]⟩
 have h1:=Zz72 hm
 have h2:Rows.uptoBulk (.agg (xs.map (·.1)):DataW H)=Rows.uptoBulkAll (xs.map (·.1))+1:=by rw [Rows.uptoBulk]
 rw [show Rows.uptoBulk (DataW.lit (.string z.form.data.toList):DataW H)=z.form.data.toList.length+1 by rw [Rows.uptoBulk]] at h1
 have h3:z.form.data.toList.length=z.form.size:=by rw [Array.length_toList];rfl
 show z.form.size≤Rows.uptoBulk (.agg (xs.map (·.1)):DataW H)
 omega
theorem bulk_le {H:Type} {l:List (DataW H)} (hk:Rows.uptoSmall H l=true) {d:DataW H} (hd:d∈l):Rows.uptoBulk d≤1048576:=by
 have h:Rows.uptoBulkAll l≤1048576:=of_decide_eq_true hk
 exact nLt (Zz72 hd) h
/- A policy read as data. -/
open Go.ChangeShapes Go.WideShapes Go.ChangeAt Go.RowKit
theorem cellsPol:Tryz.prog.cellsOf 44=2:=by kernel_rfl
set_option maxRecDepth 100000 in
theorem tr_policy {w:World} {cs:List Value} (h:Tr Tryz.prog w 44 cs):∃ a b:Int,cs=[.int .i64 a,.int .i64 b]:=by
 obtain ⟨hl,hf⟩:=h.struct Tryz.underlying44
 rw [cellsPol] at hl
 match cs,hl with
 | [c0,c1],_ =>
  have f0:Tr Tryz.prog w 3 (([c0,c1].drop 0).take (Tryz.prog.cellsOf 3)):=hf 0 _ rfl
  rw [cellsInt] at f0
  have f1:Tr Tryz.prog w 3 (([c0,c1].drop 1).take (Tryz.prog.cellsOf 3)):=hf 1 _ rfl
  rw [cellsInt] at f1
  obtain ⟨a,e0,_⟩:=f0.int Tryz.underlying3
  obtain ⟨b,e1,_⟩:=f1.int Tryz.underlying3
  simp at e0 e1
  exact ⟨a,b,by rw [e0,e1]⟩
end Go.Proofs.YtmmgdjgcikbhbaaGreat

/- Joined by merge.py: Open, OpenZ. -/
import Derived.Test.YtmmgdjgcikbhbaaGreatChecked
import Derived.HandedShaped
import Derived.ProofKit
import Derived.OpenShut
import Derived.Deep.Slices
import Derived.WalkSmall
import Derived.Lib.SmallJoins
import Derived.Test.YtmmgdjgcikbhbaaGreatGZa
/- Arguments opened to plain data: rules, lists of rules. -/
namespace Go.Proofs.YtmmgdjgcikbhbaaGreat
set_option linter.unusedSimpArgs false
set_option linter.unusedVariables false
open Go.ChangeShapes Go.WideShapes Go.ChangeAt Go.RowKit Go.Deep
def CellsAt (w:World) (a:Addr) (n:Nat) (c:List Value):Prop:=c.length=n∧∀ j,j<n→w.cell? (a.add j)=c[j]?
def Tr (P:Program) (w:World) (t:TypeId) (cs:List Value):Prop :=
 ∃ (H:Type) (enc:TypeId × Value→H) (base:Nat) (spare:Nat→Bool) (held:Bool) (fuel:Nat) (x:DataW H × List MemPlace),DataW.trod enc P w base spare held fuel t cs=some x
section
variable {P:Program} {w:World} {t:TypeId} {cs:List Value}
theorem Tr.of {H:Type} {enc:TypeId × Value→H} {base:Nat} {spare:Nat→Bool} {held:Bool} {v:Value} {d:DataW H} {ps:List MemPlace} (h:DataW.Trod enc P w base spare held t v d ps):Tr P w t v.cells.toList:=by
 obtain ⟨fuel,hf⟩:=h
 exact ⟨H,enc,base,spare,held,fuel,_,hf⟩
theorem Tr.int {k:IntKind} (ht:P.underlying t=some (.int k)) (h:Tr P w t cs):∃ n,cs=[.int k n]∧(Lit.int k n).wf=true:=by
 obtain ⟨H,enc,base,spare,held,fuel,x,hx⟩:=h
 obtain ⟨n,h1,_,h2⟩:=DataW.trod_int ht hx
 exact ⟨n,h1,h2⟩
theorem Tr.string (ht:P.underlying t=some .string) (h:Tr P w t cs):∃ s,cs=[.string s]∧s.size≤maxLen:=by
 obtain ⟨H,enc,base,spare,held,fuel,x,hx⟩:=h
 obtain ⟨n,h1,_,h2⟩:=DataW.trod_string ht hx
 exact ⟨n,h1,h2⟩
theorem Tr.struct {fs:Array Field} (ht:P.underlying t=some (.struct fs)) (h:Tr P w t cs):cs.length=P.cellsOf t∧∀ (i:Nat) (f:Field),fs[i]? = some f→Tr P w f.type ((cs.drop f.offset).take (P.cellsOf f.type)):=by
 obtain ⟨H,enc,base,spare,held,fuel,x,hx⟩:=h
 obtain ⟨xs,n,_,_,hl,hn,hf⟩:=DataW.trod_struct ht hx
 refine ⟨hl,fun i f hif=>?_⟩
 have hi:i<xs.length:=by rw [hn];exact (Array.getElem?_eq_some_iff.1 hif).1
 exact ⟨H,enc,base,spare,held,n,xs[i],(hf i f hif).trans (List.getElem?_eq_getElem hi)⟩
theorem Tr.slice {e:TypeId} (ht:P.underlying t=some (.slice e)) (h:Tr P w t cs) :
  cs=[.slice none 0 0]∨∃ (a:Addr) (len cap:Nat),cs=[.slice (some a) len cap]∧len≤cap∧cap≤maxLen∧∀ i,i<len→∃ c,CellsAt w (a.add (i*P.cellsOf e)) (P.cellsOf e) c∧Tr P w e c:=by
 obtain ⟨H,enc,base,spare,held,fuel,x,hx⟩:=h
 rcases open_slice ht hx with ⟨h0,_⟩|⟨a,len,cap,m,n,D,Pl,hcs,_,hl,hm,hmm,_,hi⟩
 ·exact .inl h0
 refine .inr ⟨a,len,cap,hcs,hl,hm,fun i hi'=>?_⟩
 have:i<m:=by rw [hmm];split <;> omega
 obtain ⟨c,h1,h2⟩:=hi i this
 exact ⟨c,(World.cells?_some h1).2,H,enc,base,spare,held,_,_,h2⟩
theorem Tr.rd {α:Type} [Inhabited α] {enc:α→List Value} {k:Nat} {e:TypeId} {v:Value} (ht:P.underlying t=some (.slice e)) (hk:P.cellsOf e=k) (hk0:0<k) (hel:∀ c,Tr P w e c→∃ x,c=enc x) (h:Tr P w t [v]) :
  ∃ es,Rd enc k w v es∧es.length≤maxLen:=by
 rcases h.slice ht with h0|⟨a,len,cap,hcs,hl,hm,hi⟩
 ·obtain rfl:v=.slice none 0 0:=by simpa using h0
  exact ⟨[],.inl ⟨rfl,none,0,rfl⟩,by simp⟩
 obtain rfl:v=.slice (some a) len cap:=by simpa using hcs
 by_cases h0:len=0
 ·subst h0;exact ⟨[],.inl ⟨rfl,_,_,rfl⟩,by simp⟩
 have hex:∀ i,i<len→∃ x,CellsAt w (a.add (i*k)) k (enc x):=fun i hi'=>by
  obtain ⟨c,h1,h2⟩:=hi i hi'
  obtain ⟨x,rfl⟩:=hel c h2
  rw [hk] at h1
  exact ⟨x,h1⟩
 have hch:∃ f:Nat→α,∀ i,i<len→CellsAt w (a.add (i*k)) k (enc (f i)) :=
  ⟨fun i=>if h:i<len then (hex i h).choose else default,fun i hi'=>by simp only [hi',dif_pos];exact (hex i hi').choose_spec⟩
 obtain ⟨f,hf⟩:=hch
 obtain ⟨b,off,spot⟩:=a
 have hlen:∀ i,i<len→(enc (f i)).length=k:=fun i hi'=>(hf i hi').1
 have hcell0:=(hf 0 (by omega)).2 0 hk0
 have hl0:=hlen 0 (by omega)
 rw [List.getElem?_eq_getElem (by omega)] at hcell0
 have hspot:spot=none:=by simpa [Addr.add] using World.cell?_spot hcell0
 subst hspot
 have hadd:∀ x y:Nat,((⟨b,off,none⟩:Addr).add x).add y=⟨b,off+x+y,none⟩:=fun x y=>by
  unfold Addr.add
  by_cases hx:x=0 <;> by_cases hy:y=0 <;> simp [hx,hy]
 refine ⟨(List.range len).map f,.inr ⟨b,off,cap,by simp,?_,fun j hj i u hu=>?_⟩,by simp;omega⟩
 ·rw [hadd] at hcell0
  rcases Nat.lt_or_ge b w.heap.size with h|h
  ·exact h
  rw [World.cell?] at hcell0;simp [Array.getElem?_eq_none h] at hcell0
 have hj':j<len:=by simpa using hj
 have e1:((List.range len).map f)[j]! = f j:=by rw [getElem!_pos _ j hj];simp
 rw [e1] at hu
 have hik:i<k:=by rw [←hlen j hj'];exact (List.getElem?_eq_some_iff.1 hu).1
 have:=(hf j hj').2 i hik
 rw [hadd,hu] at this
 exact this
end
theorem cellsOn:Tryz.prog.cellsOf 91=3:=by kernel_rfl
theorem cellsInt:Tryz.prog.cellsOf 3=1:=by kernel_rfl
theorem cellsString:Tryz.prog.cellsOf 9=1:=by kernel_rfl
set_option maxRecDepth 100000 in
theorem tr_on {w:World} {cs:List Value} (h:Tr Tryz.prog w 91 cs):∃ a b c:Int,cs=[.int .i64 a,.int .i64 b,.int .i64 c]:=by
 obtain ⟨hl,hf⟩:=h.struct Tryz.underlying91
 rw [cellsOn] at hl
 match cs,hl with
 | [c0,c1,c2],_ =>
  have f0:Tr Tryz.prog w 3 (([c0,c1,c2].drop 0).take (Tryz.prog.cellsOf 3)):=hf 0 _ rfl
  rw [cellsInt] at f0
  have f1:Tr Tryz.prog w 3 (([c0,c1,c2].drop 1).take (Tryz.prog.cellsOf 3)):=hf 1 _ rfl
  rw [cellsInt] at f1
  have f2:Tr Tryz.prog w 3 (([c0,c1,c2].drop 2).take (Tryz.prog.cellsOf 3)):=hf 2 _ rfl
  rw [cellsInt] at f2
  obtain ⟨a,e0,_⟩:=f0.int Tryz.underlying3
  obtain ⟨b,e1,_⟩:=f1.int Tryz.underlying3
  obtain ⟨c,e2,_⟩:=f2.int Tryz.underlying3
  simp at e0 e1 e2
  exact ⟨a,b,c,by rw [e0,e1,e2]⟩
theorem cellsRule:Tryz.prog.cellsOf 93=11:=by kernel_rfl
set_option maxRecDepth 100000 in
theorem tr_rule {w:World} {cs:List Value} (h:Tr Tryz.prog w 93 cs):∃ r:Rule,cs=r.cells:=by
 obtain ⟨hl,hf⟩:=h.struct Tryz.underlying93
 rw [cellsRule] at hl
 match cs,hl with
 | [c0,c1,c2,c3,c4,c5,c6,c7,c8,c9,c10],_ =>
  have f0:Tr Tryz.prog w 9 (([c0,c1,c2,c3,c4,c5,c6,c7,c8,c9,c10].drop 0).take (Tryz.prog.cellsOf 9)):=hf 0 _ rfl
  rw [cellsString] at f0
  have f1:Tr Tryz.prog w 3 (([c0,c1,c2,c3,c4,c5,c6,c7,c8,c9,c10].drop 1).take (Tryz.prog.cellsOf 3)):=hf 1 _ rfl
  rw [cellsInt] at f1
  have f2:Tr Tryz.prog w 3 (([c0,c1,c2,c3,c4,c5,c6,c7,c8,c9,c10].drop 2).take (Tryz.prog.cellsOf 3)):=hf 2 _ rfl
  rw [cellsInt] at f2
  have f3:Tr Tryz.prog w 3 (([c0,c1,c2,c3,c4,c5,c6,c7,c8,c9,c10].drop 3).take (Tryz.prog.cellsOf 3)):=hf 3 _ rfl
  rw [cellsInt] at f3
  have f4:Tr Tryz.prog w 91 (([c0,c1,c2,c3,c4,c5,c6,c7,c8,c9,c10].drop 4).take (Tryz.prog.cellsOf 91)):=hf 4 _ rfl
  rw [cellsOn] at f4
  have f5:Tr Tryz.prog w 3 (([c0,c1,c2,c3,c4,c5,c6,c7,c8,c9,c10].drop 7).take (Tryz.prog.cellsOf 3)):=hf 5 _ rfl
  rw [cellsInt] at f5
  have f6:Tr Tryz.prog w 3 (([c0,c1,c2,c3,c4,c5,c6,c7,c8,c9,c10].drop 8).take (Tryz.prog.cellsOf 3)):=hf 6 _ rfl
  rw [cellsInt] at f6
  have f7:Tr Tryz.prog w 3 (([c0,c1,c2,c3,c4,c5,c6,c7,c8,c9,c10].drop 9).take (Tryz.prog.cellsOf 3)):=hf 7 _ rfl
  rw [cellsInt] at f7
  have f8:Tr Tryz.prog w 9 (([c0,c1,c2,c3,c4,c5,c6,c7,c8,c9,c10].drop 10).take (Tryz.prog.cellsOf 9)):=hf 8 _ rfl
  rw [cellsString] at f8
  obtain ⟨a0,e0,_⟩:=f0.string Tryz.underlying9
  obtain ⟨a1,e1,_⟩:=f1.int Tryz.underlying3
  obtain ⟨a2,e2,_⟩:=f2.int Tryz.underlying3
  obtain ⟨a3,e3,_⟩:=f3.int Tryz.underlying3
  obtain ⟨x,y,z,e4⟩:=tr_on f4
  obtain ⟨a5,e5,_⟩:=f5.int Tryz.underlying3
  obtain ⟨a6,e6,_⟩:=f6.int Tryz.underlying3
  obtain ⟨a7,e7,_⟩:=f7.int Tryz.underlying3
  obtain ⟨a8,e8,_⟩:=f8.string Tryz.underlying9
  simp at e0 e1 e2 e3 e4 e5 e6 e7 e8
  obtain ⟨e4,e4',e4''⟩:=e4
  exact ⟨⟨a0,a1,a2,a3,x,y,z,a5,a6,a7,a8⟩,by rw [e0,e1,e2,e3,e4,e4',e4'',e5,e6,e7,e8];rfl⟩
theorem rd_rules {w:World} {v:Value} (h:Tr Tryz.prog w 25 [v]):∃ rs,Rd Rule.cells 11 w v rs∧rs.length≤maxLen :=
 h.rd Tryz.underlying25 cellsRule (by decide) (fun _ hc=>tr_rule hc)
theorem own:ownKnob Tryz.prog.godebug=none:=by kernel_rfl
theorem laidOut:laidOutB Tryz.prog=true:=by kernel_rfl
/- A zone that comes in, opened to plain data. -/
theorem cellsTyp:Tryz.prog.cellsOf 23=3:=by kernel_rfl
theorem cellsTrn:Tryz.prog.cellsOf 57=4:=by kernel_rfl
theorem cellsZone:Tryz.prog.cellsOf 27=9:=by kernel_rfl
theorem cellsTs:Tryz.prog.cellsOf 24=1:=by kernel_rfl
theorem cellsRs:Tryz.prog.cellsOf 25=1:=by kernel_rfl
set_option maxRecDepth 100000 in
theorem tr_typ {w:World} {cs:List Value} (h:Tr Tryz.prog w 23 cs):∃ t:Typ,cs=t.cells:=by
 obtain ⟨hl,hf⟩:=h.struct Tryz.underlying23
 rw [cellsTyp] at hl
 match cs,hl with
 | [c0,c1,c2],_ =>
  have f0:Tr Tryz.prog w 3 (([c0,c1,c2].drop 0).take (Tryz.prog.cellsOf 3)):=hf 0 _ rfl
  rw [cellsInt] at f0
  have f1:Tr Tryz.prog w 3 (([c0,c1,c2].drop 1).take (Tryz.prog.cellsOf 3)):=hf 1 _ rfl
  rw [cellsInt] at f1
  have f2:Tr Tryz.prog w 9 (([c0,c1,c2].drop 2).take (Tryz.prog.cellsOf 9)):=hf 2 _ rfl
  rw [cellsString] at f2
  obtain ⟨a,e0,_⟩:=f0.int Tryz.underlying3
  obtain ⟨b,e1,_⟩:=f1.int Tryz.underlying3
  obtain ⟨c,e2,_⟩:=f2.string Tryz.underlying9
  simp at e0 e1 e2
  exact ⟨⟨a,b,c⟩,by rw [e0,e1,e2];rfl⟩
set_option maxRecDepth 100000 in
theorem tr_trn {w:World} {cs:List Value} (h:Tr Tryz.prog w 57 cs):∃ t:Trn,cs=t.cells:=by
 obtain ⟨hl,hf⟩:=h.struct Tryz.underlying57
 rw [cellsTrn] at hl
 match cs,hl with
 | [c0,c1,c2,c3],_ =>
  have f0:Tr Tryz.prog w 3 (([c0,c1,c2,c3].drop 0).take (Tryz.prog.cellsOf 3)):=hf 0 _ rfl
  rw [cellsInt] at f0
  have f1:Tr Tryz.prog w 23 (([c0,c1,c2,c3].drop 1).take (Tryz.prog.cellsOf 23)):=hf 1 _ rfl
  rw [cellsTyp] at f1
  obtain ⟨a,e0,_⟩:=f0.int Tryz.underlying3
  obtain ⟨ty,e1⟩:=tr_typ f1
  simp [Typ.cells] at e0 e1
  obtain ⟨e1,e2,e3⟩:=e1
  exact ⟨⟨a,ty⟩,by rw [e0,e1,e2,e3];rfl⟩
theorem rd_trns {w:World} {v:Value} (h:Tr Tryz.prog w 24 [v]):∃ ts,Rd Trn.cells 4 w v ts∧ts.length≤maxLen :=
 h.rd Tryz.underlying24 cellsTrn (by decide) (fun _ hc=>tr_trn hc)
set_option maxRecDepth 100000 in
theorem tr_zone {w:World} {cs:List Value} (h:Tr Tryz.prog w 27 cs):∃ (z:Zn) (vT vR:Value),.agg cs.toArray=z.v vT vR∧Rd Trn.cells 4 w vT z.table∧Rd Rule.cells 11 w vR z.tail:=by
 obtain ⟨hl,hf⟩:=h.struct Tryz.underlying27
 rw [cellsZone] at hl
 match cs,hl with
 | [c0,c1,c2,c3,c4,c5,c6,c7,c8],_ =>
  have f0:Tr Tryz.prog w 9 (([c0,c1,c2,c3,c4,c5,c6,c7,c8].drop 0).take (Tryz.prog.cellsOf 9)):=hf 0 _ rfl
  rw [cellsString] at f0
  have f1:Tr Tryz.prog w 23 (([c0,c1,c2,c3,c4,c5,c6,c7,c8].drop 1).take (Tryz.prog.cellsOf 23)):=hf 1 _ rfl
  rw [cellsTyp] at f1
  have f2:Tr Tryz.prog w 24 (([c0,c1,c2,c3,c4,c5,c6,c7,c8].drop 4).take (Tryz.prog.cellsOf 24)):=hf 2 _ rfl
  rw [cellsTs] at f2
  have f3:Tr Tryz.prog w 25 (([c0,c1,c2,c3,c4,c5,c6,c7,c8].drop 5).take (Tryz.prog.cellsOf 25)):=hf 3 _ rfl
  rw [cellsRs] at f3
  have f4:Tr Tryz.prog w 3 (([c0,c1,c2,c3,c4,c5,c6,c7,c8].drop 6).take (Tryz.prog.cellsOf 3)):=hf 4 _ rfl
  rw [cellsInt] at f4
  have f5:Tr Tryz.prog w 9 (([c0,c1,c2,c3,c4,c5,c6,c7,c8].drop 7).take (Tryz.prog.cellsOf 9)):=hf 5 _ rfl
  rw [cellsString] at f5
  have f6:Tr Tryz.prog w 3 (([c0,c1,c2,c3,c4,c5,c6,c7,c8].drop 8).take (Tryz.prog.cellsOf 3)):=hf 6 _ rfl
  rw [cellsInt] at f6
  obtain ⟨a0,e0,_⟩:=f0.string Tryz.underlying9
  obtain ⟨ty,e1⟩:=tr_typ f1
  obtain ⟨ts,hts,_⟩:=rd_trns f2
  obtain ⟨rs,hrs,_⟩:=rd_rules f3
  obtain ⟨a4,e4,_⟩:=f4.int Tryz.underlying3
  obtain ⟨a5,e5,_⟩:=f5.string Tryz.underlying9
  obtain ⟨a6,e6,_⟩:=f6.int Tryz.underlying3
  simp [Typ.cells] at e0 e1 e4 e5 e6
  obtain ⟨e1,e2,e3⟩:=e1
  exact ⟨⟨a0,ty,ts,rs,a4,a5,a6⟩,c4,c5,by rw [e0,e1,e2,e3,e4,e5,e6];rfl,hts,hrs⟩
end Go.Proofs.YtmmgdjgcikbhbaaGreat

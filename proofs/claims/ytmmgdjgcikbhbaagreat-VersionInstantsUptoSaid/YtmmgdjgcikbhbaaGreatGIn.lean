/- Joined by merge.py: InsR, Ref12s, Ref12e, Ref12a, Ref24i. -/
import Derived.Test.YtmmgdjgcikbhbaaGreatGIi
/- The runs in which two zones differ, as the reference of layer 24 gathers them. No program in sight. -/
namespace Go.Proofs.YtmmgdjgcikbhbaaGreat
set_option linter.unusedSimpArgs false
set_option linter.unusedVariables false
def insI (l:List Int) (x:Int):List Int:=if x∈l then l else l.filter (fun y=>decide (y<x))++x :: l.filter (fun y=>decide (x<y))
theorem insI_mem {l:List Int} {x y:Int}:y∈insI l x↔y∈l∨y=x:=by
 unfold insI
 split
 ·rename_i h
  constructor
  ·exact .inl
  ·rintro (h1|rfl)
   ·exact h1
   ·exact h
 ·rw [List.mem_append,List.mem_cons,List.mem_filter,List.mem_filter]
  simp only [decide_eq_true_eq]
  constructor
  ·rintro (⟨h1,_⟩|rfl|⟨h1,_⟩)
   ·exact .inl h1
   ·exact .inr rfl
   ·exact .inl h1
  ·rintro (h1|rfl)
   ·rcases Int.lt_trichotomy y x with h2|h2|h2
    ·exact .inl ⟨h1,h2⟩
    ·exact .inr (.inl h2)
    ·exact .inr (.inr ⟨h1,h2⟩)
   ·exact .inr (.inl rfl)
theorem Zz5h {l:List Int} {x:Int} (h:l.Pairwise (· < ·)):(insI l x).Pairwise (· < ·):=by
 unfold insI
 split
 ·exact h
 ·refine List.pairwise_append.2 ⟨h.filter _,List.pairwise_cons.2 ⟨fun y hy=>?_,h.filter _⟩,fun a ha b hb=>?_⟩
  ·simpa using (List.mem_filter.1 hy).2
  ·have h1:a<x:=by simpa using (List.mem_filter.1 ha).2
   rcases List.mem_cons.1 hb with rfl|hb
   ·exact h1
   ·have h2:x<b:=by simpa using (List.mem_filter.1 hb).2
    omega
theorem Zz5U (l:List Int) (x:Int):(insI l x).length≤l.length+1:=by
 unfold insI
 split
 ·omega
 ·have h1:(l.filter fun y=>decide (y<x)).length+(l.filter fun y=>decide (x<y)).length≤l.length:=by
   induction l with
   | nil=>simp
   | cons a l ih =>
    have ih:=ih (by rename_i h;exact fun hc=>h (List.mem_cons_of_mem _ hc))
    simp only [List.filter_cons,List.length_cons]
    by_cases h1:a<x
    ·have h2:¬ x<a:=by omega
     simp [h1,h2]
     omega
    ·by_cases h2:x<a
     ·simp [h1,h2]
      omega
     ·simp [h1,h2]
      omega
  simp only [List.length_append,List.length_cons]
  omega
def endsI:List Spn→List Int→List Int
 | [],l=>l
 | s :: S,l=>endsI S (insI (insI l s.fr) s.to)
theorem Zz6j:∀ {S:List Spn} {l:List Int} {y:Int},y∈endsI S l↔y∈l∨∃ s∈S,y=s.fr∨y=s.to
 | [],l,y=>by simp [endsI]
 | s :: S,l,y=>by
  rw [endsI,Zz6j,insI_mem,insI_mem]
  constructor
  ·rintro (((h|h)|h)|⟨u,hu,h⟩)
   ·exact .inl h
   ·exact .inr ⟨s,List.mem_cons_self,.inl h⟩
   ·exact .inr ⟨s,List.mem_cons_self,.inr h⟩
   ·exact .inr ⟨u,List.mem_cons_of_mem _ hu,h⟩
  ·rintro (h|⟨u,hu,h⟩)
   ·exact .inl (.inl (.inl h))
   ·rcases List.mem_cons.1 hu with rfl|hu
    ·rcases h with h|h
     ·exact .inl (.inl (.inr h))
     ·exact .inl (.inr h)
    ·exact .inr ⟨u,hu,h⟩
theorem Zz2I:∀ {S:List Spn} {l:List Int},l.Pairwise (· < ·)→(endsI S l).Pairwise (· < ·)
 | [],_,h=>h
 | s :: S,l,h=>by rw [endsI];exact Zz2I (Zz5h (Zz5h h))
def addS (out:List Spn) (s:Spn):List Spn:=if 0<out.length∧(out[out.length-1]!).to=s.fr then out.set (out.length-1) ⟨(out[out.length-1]!).fr,s.to⟩ else out++[s]
theorem addS_nil (s:Spn):addS [] s=[s]:=by unfold addS;rw [if_neg (by simp)];rfl
theorem addS_snoc (o:List Spn) (r s:Spn):addS (o++[r]) s=if r.to=s.fr then o++[⟨r.fr,s.to⟩] else o++[r]++[s]:=by
 have e1:(o++[r]).length-1=o.length:=by simp
 have e2:(o++[r])[(o++[r]).length-1]! = r:=by
  rw [e1,getElem!_pos (o++[r]) o.length (by simp)]
  simp
 unfold addS
 rw [e2,e1]
 by_cases h:r.to=s.fr
 ·rw [if_pos ⟨by simp,h⟩,if_pos h,List.set_append_right _ _ nlR]
  simp
 ·rw [if_neg (by simp [h]),if_neg h]
theorem addS_ok {out:List Spn} {x y:Int} (hc:Canon out) (hl:∀ s∈out,s.to≤x) (hxy:x<y):Canon (addS out ⟨x,y⟩)∧(∀ t,hasL (addS out ⟨x,y⟩) t↔hasL out t∨(x≤t∧t<y))∧∀ s∈addS out ⟨x,y⟩,s.to≤y:=by
 by_cases h0:out=[]
 ·subst h0
  rw [addS_nil]
  refine ⟨Zz6k hxy,fun t=>?_,fun s hs=>by rw [List.mem_singleton] at hs;subst hs;exact Int.le_refl _⟩
  rw [ZzX]
  exact ⟨.inr,fun h=>h.resolve_left (Zz1x t)⟩
 ·obtain ⟨o,r,rfl⟩:∃ o r,out=o++[r]:=⟨out.dropLast,out.getLast h0,(List.dropLast_concat_getLast h0).symm⟩
  have hr:=hl r (by simp)
  have hrn:=hc.ne r (by simp)
  have hp:=List.pairwise_append.1 hc.asc
  rw [addS_snoc]
  by_cases he:r.to=x
  ·rw [if_pos he]
   refine ⟨⟨List.pairwise_append.2 ⟨hp.1,List.pairwise_singleton _ _,fun a ha b hb=>?_⟩,fun s hs=>?_⟩,fun t=>?_,fun s hs=>?_⟩
   ·rw [List.mem_singleton] at hb;subst hb
    exact hp.2.2 a ha r (List.mem_singleton.2 rfl)
   ·rcases List.mem_append.1 hs with hs|hs
    ·exact hc.ne s (List.mem_append_left _ hs)
    ·rw [List.mem_singleton] at hs;subst hs
     show r.fr<y
     omega
   ·rw [Zzt,Zzt,ZzX,ZzX,or_assoc]
    unfold Spn.has
    dsimp only
    constructor
    ·rintro (h|h)
     ·exact .inl h
     ·rcases Int.lt_or_le t x with h1|h1
      ·exact .inr (.inl ⟨h.1,by omega⟩)
      ·exact .inr (.inr ⟨h1,h.2⟩)
    ·rintro (h|h|h)
     ·exact .inl h
     ·exact .inr ⟨h.1,by omega⟩
     ·exact .inr ⟨by omega,h.2⟩
   ·rcases List.mem_append.1 hs with hs|hs
    ·have:=hl s (List.mem_append_left _ hs);omega
    ·rw [List.mem_singleton] at hs;subst hs;exact Int.le_refl _
  ·rw [if_neg he]
   refine ⟨⟨List.pairwise_append.2 ⟨hc.asc,List.pairwise_singleton _ _,fun a ha b hb=>?_⟩,fun s hs=>?_⟩,fun t=>?_,fun s hs=>?_⟩
   ·rw [List.mem_singleton] at hb;subst hb
    show a.to<x
    have h1:=hl a ha
    rcases List.mem_append.1 ha with h2|h2
    ·have h3:=hp.2.2 a h2 r (List.mem_singleton.2 rfl)
     omega
    ·rw [List.mem_singleton] at h2;subst h2
     omega
   ·rcases List.mem_append.1 hs with hs|hs
    ·exact hc.ne s hs
    ·rw [List.mem_singleton] at hs;subst hs;exact hxy
   ·rw [Zzt,ZzX];exact Iff.rfl
   ·rcases List.mem_append.1 hs with hs|hs
    ·have:=hl s hs;omega
    ·rw [List.mem_singleton] at hs;subst hs;exact Int.le_refl _
def runsI (p:Int→Bool):List Int→List Spn→List Spn
 | x :: y :: r,out=>runsI p (y :: r) (if p x=true then addS out ⟨x,y⟩ else out)
 | [_],out=>out
 | [],out=>out
def inI (p:Int→Bool):List Int→Int→Prop
 | x :: y :: r,t=>(p x=true∧x≤t∧t<y)∨inI p (y :: r) t
 | [_],_=>False
 | [],_=>False
theorem Zz5o (p:Int→Bool):∀ (x:Int) (l:List Int) (out:List Spn),(x :: l).Pairwise (· < ·)→Canon out→(∀ s∈out,s.to≤x)→Canon (runsI p (x :: l) out)∧∀ t,hasL (runsI p (x :: l) out) t↔hasL out t∨inI p (x :: l) t
 | x,[],out,_,hc,_=>by
  have e:runsI p [x] out=out:=by rw [runsI]
  rw [e]
  exact ⟨hc,fun t=>⟨.inl,fun h=>h.resolve_right (fun h=>by rw [inI] at h;exact h)⟩⟩
 | x,y :: l,out,ha,hc,hl=>by
  obtain ⟨h1,h2⟩:=List.pairwise_cons.1 ha
  have hxy:=h1 y List.mem_cons_self
  rw [runsI]
  by_cases hp:p x=true
  ·rw [if_pos hp]
   obtain ⟨g1,g2,g3⟩:=addS_ok hc hl hxy
   obtain ⟨k1,k2⟩:=Zz5o p y l (addS out ⟨x,y⟩) h2 g1 g3
   refine ⟨k1,fun t=>?_⟩
   rw [k2,g2,inI]
   constructor
   ·rintro ((h|h)|h)
    ·exact .inl h
    ·exact .inr (.inl ⟨hp,h⟩)
    ·exact .inr (.inr h)
   ·rintro (h|h|h)
    ·exact .inl (.inl h)
    ·exact .inl (.inr h.2)
    ·exact .inr h
  ·rw [if_neg hp]
   obtain ⟨k1,k2⟩:=Zz5o p y l out h2 hc (fun s hs=>by have:=hl s hs;omega)
   refine ⟨k1,fun t=>?_⟩
   rw [k2,inI]
   constructor
   ·rintro (h|h)
    ·exact .inl h
    ·exact .inr (.inr h)
   ·rintro (h|h|h)
    ·exact .inl h
    ·exact absurd h.1 hp
    ·exact .inr h
theorem inI_iff (p:Int→Bool):∀ (x:Int) (l:List Int),(x :: l).Pairwise (· < ·)→(∀ t,x≤t→∀ u∈x :: l,u≤t→(∀ v∈x :: l,¬ (u<v∧v≤t))→(∃ v∈x :: l,t<v)→p t=p u)→∀ t,inI p (x :: l) t↔(x≤t∧∃ v∈x :: l,t<v)∧p t=true
 | x,[],_,_,t=>by
  rw [show inI p [x] t=False by rw [inI]]
  constructor
  ·exact fun h=>h.elim
  ·rintro ⟨⟨h1,v,hv,h2⟩,_⟩
   rw [List.mem_singleton] at hv
   omega
 | x,y :: l,ha,hs,t=>by
  obtain ⟨h1,h2⟩:=List.pairwise_cons.1 ha
  have hxy:=h1 y List.mem_cons_self
  have hy:∀ v∈y :: l,y≤v:=fun v hv=>by
   rcases List.mem_cons.1 hv with rfl|hv
   ·exact Int.le_refl _
   ·exact Int.le_of_lt ((List.pairwise_cons.1 h2).1 v hv)
  have ih:=inI_iff p y l h2 (fun t ht u hu hut hno hex=>hs t (by omega) u (List.mem_cons_of_mem _ hu) hut (fun v hv hc=>by
   rcases List.mem_cons.1 hv with rfl|hv
   ·have:=hy u hu;omega
   ·exact hno v hv hc) (by obtain ⟨v,hv,h⟩:=hex;exact ⟨v,List.mem_cons_of_mem _ hv,h⟩)) t
  rw [inI,ih]
  constructor
  ·rintro (⟨g1,g2,g3⟩|⟨⟨g1,v,hv,g2⟩,g3⟩)
   ·have hex:∃ v∈x :: y :: l,t<v:=⟨y,by simp,g3⟩
    refine ⟨⟨g2,hex⟩,?_⟩
    rw [hs t g2 x List.mem_cons_self g2 (fun v hv hc=>by
     rcases List.mem_cons.1 hv with rfl|hv
     ·omega
     ·have:=hy v hv;omega) hex]
    exact g1
   ·exact ⟨⟨by omega,v,List.mem_cons_of_mem _ hv,g2⟩,g3⟩
  ·rintro ⟨⟨g1,v,hv,g2⟩,g3⟩
   rcases Int.lt_or_le t y with h3|h3
   ·refine .inl ⟨?_,g1,h3⟩
    rw [←hs t g1 x List.mem_cons_self g1 (fun v hv hc=>by
     rcases List.mem_cons.1 hv with rfl|hv
     ·omega
     ·have:=hy v hv;omega) ⟨v,hv,g2⟩]
    exact g3
   ·refine .inr ⟨⟨h3,?_⟩,g3⟩
    rcases List.mem_cons.1 hv with rfl|hv
    ·omega
    ·exact ⟨v,hv,g2⟩
def endsS (za zb:Zn) (a b:Int):List Spn:=⟨a,b⟩ :: ((za.betF a b).map (fun x=>(⟨x.at_,b⟩:Spn))++(zb.betF a b).map (fun x=>(⟨x.at_,b⟩:Spn)))
def difP (za zb:Zn) (t:Int):Bool:=decide (za.typF t≠zb.typF t)
theorem Zz4F {z:Zn} {a b:Int} {x:Trn} (h:x∈z.betF a b):x∈z.T∧a≤x.at_∧x.at_<b:=by
 unfold Zn.betF at h
 have:=List.mem_filter.1 h
 exact ⟨this.1,by simpa using this.2⟩
theorem ref_ins {za zb:Zn} (ha:za.valid=true) (hb:zb.valid=true) {a b:Int} (hab:a<b):Canon (runsI (difP za zb) (endsI (endsS za zb a b) []) [])∧∀ t,hasL (runsI (difP za zb) (endsI (endsS za zb a b) []) []) t↔(a≤t∧t<b)∧za.typF t≠zb.typF t:=by
 have hasc:=Zz2I (S:=endsS za zb a b) (l:=[]) List.Pairwise.nil
 have hmem:∀ y,y∈endsI (endsS za zb a b) []↔y=a∨y=b∨(∃ x∈za.betF a b,y=x.at_)∨(∃ x∈zb.betF a b,y=x.at_):=fun y=>by
  rw [Zz6j]
  unfold endsS
  constructor
  ·rintro (h|⟨s,hs,h⟩)
   ·cases h
   ·rcases List.mem_cons.1 hs with rfl|hs
    ·rcases h with h|h
     ·exact .inl h
     ·exact .inr (.inl h)
    ·rcases List.mem_append.1 hs with hs|hs
     ·obtain ⟨x,hx,rfl⟩:=List.mem_map.1 hs
      rcases h with h|h
      ·exact .inr (.inr (.inl ⟨x,hx,h⟩))
      ·exact .inr (.inl h)
     ·obtain ⟨x,hx,rfl⟩:=List.mem_map.1 hs
      rcases h with h|h
      ·exact .inr (.inr (.inr ⟨x,hx,h⟩))
      ·exact .inr (.inl h)
  ·rintro (rfl|rfl|⟨x,hx,rfl⟩|⟨x,hx,rfl⟩)
   ·exact .inr ⟨_,List.mem_cons_self,.inl rfl⟩
   ·exact .inr ⟨_,List.mem_cons_self,.inr rfl⟩
   ·exact .inr ⟨_,List.mem_cons_of_mem _ (List.mem_append_left _ (List.mem_map.2 ⟨x,hx,rfl⟩)),.inl rfl⟩
   ·exact .inr ⟨_,List.mem_cons_of_mem _ (List.mem_append_right _ (List.mem_map.2 ⟨x,hx,rfl⟩)),.inl rfl⟩
 have hbd:∀ y∈endsI (endsS za zb a b) [],a≤y∧y≤b:=fun y hy=>by
  rcases (hmem y).1 hy with rfl|rfl|⟨x,hx,rfl⟩|⟨x,hx,rfl⟩
  ·omega
  ·omega
  ·have:=(Zz4F hx).2;omega
  ·have:=(Zz4F hx).2;omega
 have hma:=(hmem a).2 (.inl rfl)
 have hmb:=(hmem b).2 (.inr (.inl rfl))
 generalize endsI (endsS za zb a b) []=L at *
 match L,hma with
 | x :: l,hma =>
  have hx:x=a:=by
   have h1:=(hbd x List.mem_cons_self).1
   rcases List.mem_cons.1 hma with h|h
   ·exact h.symm
   ·have:=(List.pairwise_cons.1 hasc).1 a h
    omega
  subst hx
  obtain ⟨g1,g2⟩:=Zz5o (difP za zb) x l [] hasc Zz1Y (fun s hs=>by cases hs)
  refine ⟨g1,fun t=>?_⟩
  rw [g2,inI_iff (difP za zb) x l hasc (fun t ht u hu hut hno hex=>?_) t]
  ·constructor
   ·rintro (h|⟨⟨h1,v,hv,h2⟩,h3⟩)
    ·exact absurd h (Zz1x t)
    ·have:=(hbd v hv).2
     exact ⟨⟨h1,by omega⟩,of_decide_eq_true h3⟩
   ·rintro ⟨⟨h1,h2⟩,h3⟩
    exact .inr ⟨⟨h1,b,hmb,h2⟩,dTt h3⟩
  ·obtain ⟨v,hv,htv⟩:=hex
   have hvb:=(hbd v hv).2
   have hub:=(hbd u hu).1
   have key:∀ z:Zn,z.valid=true→(∀ x'∈z.betF x b,x'.at_∈x :: l)→z.typF t=z.typF u:=fun z hz hin=>by
    refine Zz4h hz hut fun x' hx'=>?_
    obtain ⟨k1,k2,k3⟩:=Zz4F hx'
    have k4:x'∈z.betF x b:=by
     unfold Zn.betF
     exact List.mem_filter.2 ⟨k1,by simp;omega⟩
    have k5:=hno x'.at_ (hin x' k4)
    omega
   unfold difP
   rw [key za ha fun x' hx'=>(hmem _).2 (.inr (.inr (.inl ⟨x',hx',rfl⟩))),key zb hb fun x' hx'=>(hmem _).2 (.inr (.inr (.inr ⟨x',hx',rfl⟩)))]
/- The reference's ends of spans: insert, Ends, Add. Printed by gen_ref12s.py. -/
open Go.ChangeShapes Go.WideShapes Go.ChangeAt Go.RowKit
def encW1 (t:Int):List Value:=[.int .i64 t]
theorem ZzF (t:Int):(encW1 t).length=1:=rfl
theorem ZzH (t:Int):∀ v∈encW1 t,v.oneCell'=true:=fun v h=>by rw [List.mem_singleton.1 h];rfl
theorem Zz18 {w:World} {base n:Nat} {e:TypeId} {v:Value} {xs:List Value} (h:w.ownsRow base e 1 v n xs):∃ A c,v=.slice A n c:=by
 rcases h.2 with ⟨rfl,rfl⟩|⟨g,cap,cur,rfl,_⟩
 ·exact ⟨none,0,rfl⟩
 ·exact ⟨_,_,rfl⟩
theorem Zz5W (l:List Int) (x:Int):0<(insI l x).length:=by
 unfold insI
 split
 ·rename_i h;exact List.length_pos_of_mem h
 ·rw [List.length_append,List.length_cons];omega
theorem Zz4U {l:List Int} {x:Int} {i:Nat} (hi:i<l.length) (h:l[i]! = x):insI l x=l:=by
 unfold insI
 rw [if_pos (by rw [←h,getElem!_pos l i hi];exact List.getElem_mem hi)]
theorem ins_put {l:List Int} {x:Int} {i:Nat} (hs:l.Pairwise (· < ·)) (hi:i≤l.length) (h1:∀ j,i≤j→j<l.length→x≤l[j]!) (h2:i=0∨l[i-1]! < x) (h3:i=l.length∨l[i]! ≠ x) :
  l.take i++x :: l.drop i=insI l x:=by
 have ht:∀ a∈l.take i,a<x:=fun a ha=>by
  obtain ⟨j,hj,rfl⟩:=List.getElem_of_mem ha
  rw [List.length_take] at hj
  rw [List.getElem_take]
  rcases h2 with h2|h2
  ·omega
  ·rw [getElem!_pos l (i-1) (by omega)] at h2
   rcases Nat.lt_or_eq_of_le (show j≤i-1 by omega) with h4|h4
   ·have:=(List.pairwise_iff_getElem.1 hs) j (i-1) (by omega) (by omega) h4
    omega
   ·simp only [h4];exact h2
 have hd:∀ a∈l.drop i,x<a:=fun a ha=>by
  obtain ⟨j,hj,rfl⟩:=List.getElem_of_mem ha
  rw [List.length_drop] at hj
  rw [List.getElem_drop]
  have h4:=h1 (i+j) (by omega) (by omega)
  rw [getElem!_pos l (i+j) (by omega)] at h4
  have h5:=h1 i nlR (by omega)
  rw [getElem!_pos l i (by omega)] at h5
  have h6:l[i]'(by omega)≠x:=by
   rcases h3 with h3|h3
   ·omega
   ·rwa [getElem!_pos l i (by omega)] at h3
  rcases Nat.eq_zero_or_pos j with h7|h7
  ·subst h7
   simp only [Nat.add_zero] at *
   omega
  ·have:=(List.pairwise_iff_getElem.1 hs) i (i+j) (by omega) (by omega) (by omega)
   omega
 have hno:x∉l:=fun h=>by
  rw [←List.take_append_drop i l] at h
  rcases List.mem_append.1 h with h|h
  ·have:=ht x h;omega
  ·have:=hd x h;omega
 unfold insI
 rw [if_neg hno]
 have e1:l.filter (fun y=>decide (y<x))=l.take i:=by
  conv=>lhs;rw [←List.take_append_drop i l]
  rw [List.filter_append,List.filter_eq_self.2 (fun a ha=>dTt (ht a ha)),List.filter_eq_nil_iff.2 (fun a ha hc=>by have:=hd a ha;have:=of_decide_eq_true hc;omega),List.append_nil]
 have e2:l.filter (fun y=>decide (x<y))=l.drop i:=by
  conv=>lhs;rw [←List.take_append_drop i l]
  rw [List.filter_append,List.filter_eq_nil_iff.2 (fun a ha hc=>by have:=ht a ha;have:=of_decide_eq_true hc;omega),List.nil_append,List.filter_eq_self.2 (fun a ha=>dTt (hd a ha))]
 rw [e1,e2]
theorem Zz5T {l:List Int} {i g off c:Nat} {w W:World} (hi:i≤l.length) (hg:g<w.heap.size) (hz:w.heap.size≤W.heap.size) (h:∀ j,j<l.length→∀ q u,(encW1 l[j]!)[q]? = some u→W.cell? ⟨g,off+j*1+q,none⟩=some u):Rd encW1 1 W (.slice (some ⟨g,off,none⟩) i c) (l.take i):=by
 have hl:(l.take i).length=i:=by rw [List.length_take];omega
 refine .inr ⟨g,off,c,by rw [hl],by omega,fun j hj q u hu=>?_⟩
 rw [hl] at hj
 have e:(l.take i)[j]! = l[j]! := by rw [getElem!_pos _ j (by omega),getElem!_pos l j (by omega)];simp
 rw [e] at hu
 exact h j (by omega) q u hu
theorem rd_dropI {l:List Int} {i g off c:Nat} {w W:World} (hcap:l.length≤c) (hi:i≤l.length) (hg:g<w.heap.size) (hz:w.heap.size≤W.heap.size) (h:∀ j,j<l.length→∀ q u,(encW1 l[j]!)[q]? = some u→W.cell? ⟨g,off+j*1+q,none⟩=some u) (cc:Nat):Rd encW1 1 W (.slice (if c=i then some ⟨g,off,none⟩ else some ⟨g,off+i,none⟩) (l.length-i) cc) (l.drop i):=by
 have hl:(l.drop i).length=l.length-i:=by rw [List.length_drop]
 by_cases hci:c=i
 ·have h0:l.length-i=0:=by omega
  rw [if_pos hci,h0]
  exact .inl ⟨List.eq_nil_of_length_eq_zero (hl.trans h0),_,_,rfl⟩
 rw [if_neg hci]
 refine .inr ⟨g,off+i,cc,by rw [hl],by omega,fun j hj q u hu=>?_⟩
 rw [hl] at hj
 have e:(l.drop i)[j]! = l[i+j]! := by rw [getElem!_pos _ j (by omega),getElem!_pos l (i+j) (by omega)];simp
 rw [e] at hu
 rw [show off+i+j*1+q=off+(i+j)*1+q by omega]
 exact h (i+j) (by omega) q u hu
theorem rd_drop2I {l:List Int} {i g off:Nat} {w W:World} (hi:i≤l.length) (hg:g<w.heap.size) (hz:w.heap.size≤W.heap.size) (h:∀ j,j<l.length→∀ q u,(encW1 l[j]!)[q]? = some u→W.cell? ⟨g,off+j*1+q,none⟩=some u) (cc:Nat):Rd encW1 1 W (.slice (some ⟨g,off+i,none⟩) (l.length-i) cc) (l.drop i):=by
 have hl:(l.drop i).length=l.length-i:=by rw [List.length_drop]
 refine .inr ⟨g,off+i,cc,by rw [hl],by omega,fun j hj q u hu=>?_⟩
 rw [hl] at hj
 have e:(l.drop i)[j]! = l[i+j]! := by rw [getElem!_pos _ j (by omega),getElem!_pos l (i+j) (by omega)];simp
 rw [e] at hu
 rw [show off+i+j*1+q=off+(i+j)*1+q by omega]
 exact h (i+j) (by omega) q u hu
theorem rd_drop0I {l:List Int} {g off:Nat} {w W:World} (hg:g<w.heap.size) (hz:w.heap.size≤W.heap.size) (h:∀ j,j<l.length→∀ q u,(encW1 l[j]!)[q]? = some u→W.cell? ⟨g,off+j*1+q,none⟩=some u) (cc:Nat):Rd encW1 1 W (.slice (some ⟨g,off,none⟩) l.length cc) (l.drop 0) :=
 .inr ⟨g,off,cc,rfl,by omega,h⟩
theorem Zz26 (w:World) (base:Nat) (hb:base≤w.heap.size):(w.alloc (.cells #[] 3)).ownsRow base 3 1 (.slice (some ⟨w.heap.size,0,none⟩) 0 0) 0 [] :=
 ⟨rfl,.inr ⟨w.heap.size,0,#[],rfl,hb,heap_alloc_new _ _,Nat.le_refl _,by simp [maxLen],rfl,rfl⟩⟩
def InsN (w:World) (v:Value) (l:List Int):Prop:=(v=.slice none 0 0∧l=[])∨(0<l.length∧Rd encW1 1 w v l∧Cap v)
theorem InsN.on {w w':World} {v:Value} {l:List Int} (h:InsN w v l) (hb:Below w.heap.size w w'):InsN w' v l:=by
 rcases h with h|⟨h1,h2,h3⟩
 ·exact .inl h
 ·exact .inr ⟨h1,h2.on hb,h3⟩
theorem InsN.rd {w:World} {v:Value} {l:List Int} (h:InsN w v l):Rd encW1 1 w v l:=by
 rcases h with ⟨rfl,rfl⟩|⟨_,h2,_⟩
 ·exact .inl ⟨rfl,none,0,rfl⟩
 ·exact h2
set_option maxRecDepth 100000 in
set_option maxHeartbeats 4000000 in
theorem Zz3g (l:List Int) (x:Int) (g off c:Nat) (w:World) (hs:l.Pairwise (· < ·)) (hl:l.length≤1000000) (hcap:l.length≤c) (h0:0<l.length) (hg:g<w.heap.size)
  (hc:∀ j,j<l.length→∀ i u,(encW1 l[j]!)[i]? = some u→w.cell? ⟨g,off+j*1+i,none⟩=some u) :
  Calls Tryz.prog 68 #[.slice (some ⟨g,off,none⟩) l.length c,.int .i64 x] w fun e w'=>∃ v,e=.returned v∧InsN w' v (insI l x)∧Below w.heap.size w w':=by
 obtain ⟨i0,hi0,hz0,hz1,hz2⟩:=info_parts infoI
 have HS:=Hh hs
 have HC:=Hh hc
 have IN:=Hh (show InsN w (.slice (some ⟨g,off,none⟩) l.length c) l from .inr ⟨h0,.inr ⟨g,off,c,rfl,hg,hc⟩,fun A n c' hv=>by cases hv;exact hcap⟩)
 clear hs hc
 go_enter Tryz.func68,Tryz.ntmps68
 go_wp2
 go_loopw [5] (fun v5 wr=>∃ i:Nat,i≤l.length∧v5=.int .i64 i∧Hid (∀ j,i≤j→j<l.length→x≤l[j]!)∧Below w.heap.size w wr) (fun v5 _=>(intOf v5).toNat)
 case atStart=>exact ⟨l.length,Nat.le_refl _,rfl,fun j h1 h2=>absurd h2 (by omega),Below.refl _ _⟩
 case round =>
  obtain ⟨i,hi,rfl,HJ,hbw⟩:=hrel
  by_cases hi0':i=0
  ·subst hi0'
   have LO:=Hh (show (0:Nat)=0∨l[0-1]! < x from .inl rfl)
   by_cases hin:0<l.length
   ·have cx:wr.cell? ⟨g,off+0*1,none⟩=some (.int .i64 l[0]!):=(hbw.cell (p:=⟨g,off+0*1,none⟩) hg).trans (HC.out (0) hin 0 _ rfl)
    rw [Nat.mul_one,Nat.add_zero] at cx
    have hni:(0:Int)≤(0:Int):=by omega
    have hnl:(0:Int)<(l.length:Int):=by omega
    by_cases he:l[0]! = x
    ·have HE:=Hh (Zz4U hin he)
     rw [he] at cx
     go_wp2_with fail
     go_ret
     exact ⟨_,rfl,by rw [HE.out];exact IN.out.on hbw,hbw⟩
    ·have HP:=Hh (ins_put HS.out (i:=0) (by omega) HJ.out LO.out (.inr he))
     have z1:(l[0]! == x)=false:=by simpa using he
     generalize l[0]! = E at cx z1
     clear he
     have hcells:=fun (W:World) (hW:Below w.heap.size w W) (j:Nat) (hj:j<l.length) (q:Nat) (u:Value) (hu:(encW1 l[j]!)[q]? = some u)=>(hW.cell (p:=⟨g,off+j*1+q,none⟩) hg).trans (HC.out j hj q u hu)
     have HRT:=Hh (fun W hW=>Zz5T (c:=c) (i:=0) (by omega) hg hW.size (hcells W hW))
     have HRD:=Hh (fun W hW cc=>rd_drop0I hg hW.size (hcells W hW) cc)
     clear hcells
     have HLT:=Hh (show (l.take (0)).length=0 by rw [List.length_take];omega)
     have HB0:=Hh hbw
     have OW:=Hh (Zz26 wr w.heap.size hbw.size)
     clear hbw
     go_wp2_with (first
      | (at_builtin;refine Zz4 rfl (.tmp 35) (.tmp 38) _ rfl w.heap.size 3 i0 _ 1 8 Tryz.underlying53 hi0 hz0 hz1 hz2 rfl (by decide) _ _ _ rfl OW.out encW1 ZzF ZzH _ rfl (l.take (0)) (HRT.out _ (HB0.out.alloc HB0.out.size _)) (by first|omega|(simp only [List.length_take,List.length_drop,maxLen];omega)|(simp [maxLen];omega)) (by first|omega|(simp only [List.length_take,List.length_drop,maxLen];omega)|(simp [maxLen];omega)) (by have:=HB0.out.size;simp;omega) ?_;intro v2 w2 hown2 hg2;rw [HLT.out,Nat.zero_add] at hown2;obtain ⟨A2,c2,rfl⟩:=Zz18 hown2;have hb2:=Zz5 OW.out nlR (HB0.out.alloc HB0.out.size _) hg2;have HO2:=Hh hown2;have HB2:=Hh hb2;clear hown2 hg2 hb2)
      | (at_builtin;refine wpList_append_own _ rfl _ _ _ rfl w.heap.size 3 i0 _ 1 8 Tryz.underlying53 hi0 hz0 hz1 hz2 rfl (by decide) _ _ _ rfl (HO2.out.alloc _) ⟨w2.heap.size,0,none⟩ 1 1 (encW1 x) rfl rfl (ZzS w2 _ _) (ZzH _) (by first|omega|(simp only [List.length_take,List.length_drop,maxLen];omega)|(simp [maxLen];omega)) (by first|omega|(simp only [List.length_take,List.length_drop,maxLen];omega)|(simp [maxLen];omega)) (by have:=HB2.out.size;simp;omega) ?_;intro v3 w3 hown3 hg3 _;obtain ⟨A3,c3,rfl⟩:=Zz18 hown3;have hb3:=Zz5 HO2.out nlR (HB2.out.alloc HB2.out.size _) hg3;have HO3:=Hh hown3;have HB3:=Hh hb3;clear hown3 hg3 hb3)
      | (at_builtin;refine Zz4 rfl (.tmp 44) (.tmp 47) _ rfl w.heap.size 3 i0 _ 1 8 Tryz.underlying53 hi0 hz0 hz1 hz2 rfl (by decide) _ _ _ rfl HO3.out encW1 ZzF ZzH _ rfl (l.drop (0)) (HRD.out _ HB3.out _) (by first|omega|(simp only [List.length_take,List.length_drop,maxLen];omega)|(simp [maxLen];omega)) (by first|omega|(simp only [List.length_take,List.length_drop,maxLen];omega)|(simp [maxLen];omega)) HB3.out.size ?_;intro v4 w4 hown4 hg4;have hb4:=Zz5 HO3.out nlR HB3.out hg4;have HO4:=Hh hown4;have HB4:=Hh hb4;clear hown4 hg4 hb4))
     all_goals (
      go_ret
      have hfin:=HO4.out
      refine ⟨_,rfl,.inr ⟨Zz5W _ _,?_,Zz2r HO4.out⟩,HB4.out⟩
      rw [←HP.out]
      refine Zz8 ZzF (n:=0+1+(l.drop (0)).length) (base:=w.heap.size) (e:=3) ?_ (by simp;omega)
      simpa using hfin)
   ·exact absurd h0 hin
  ·obtain ⟨i,rfl⟩:∃ q,i=q+1:=⟨i-1,by omega⟩
   have c0:wr.cell? ⟨g,off+i*1,none⟩=some (.int .i64 l[i]!):=(hbw.cell (p:=⟨g,off+i*1,none⟩) hg).trans (HC.out i (by omega) 0 _ rfl)
   rw [Nat.mul_one] at c0
   have hzz:(0:Int)<(i:Int)+1:=by omega
   have hw1:IntKind.i64.wrap (i:Int)=(i:Int):=by rw [IntKind.wrap_i64];omega
   have hw2:(0:Int)≤(i:Int):=by omega
   have hw3:(i:Int)<(l.length:Int):=by omega
   by_cases g1:x≤l[i]!
   ·have HL:=Hh g1
    generalize l[i]! = E at c0 g1
    have d1:decide (x≤E)=true:=dTt g1
    go_wp2_with fail
    go_roundw
    case rel=>exact ⟨i,by omega,by go_num,fun j h1 h2=>by
     rcases Nat.lt_or_eq_of_le h1 with h3|h3
     ·exact HJ.out j h3 h2
     ·subst h3;exact HL.out,hbw⟩
    case measure=>first|(simp [intOf];done)|(simp [intOf];omega)
   ·have LO:=Hh (show i+1=0∨l[i+1-1]! < x from .inr (by rw [Nat.add_sub_cancel];omega))
    have HK:=Hh (show ¬ x≤l[i]! from g1)
    generalize l[i]! = E at c0 g1
    have d1:decide (x≤E)=false:=dFf g1
    clear g1
    by_cases hin:(i+1)<l.length
    ·have cx:wr.cell? ⟨g,off+(i+1)*1,none⟩=some (.int .i64 l[(i+1)]!):=(hbw.cell (p:=⟨g,off+(i+1)*1,none⟩) hg).trans (HC.out ((i+1)) hin 0 _ rfl)
     rw [Nat.mul_one] at cx
     have hni:(0:Int)≤(i:Int)+1:=by omega
     have hnl:(i:Int)+1<(l.length:Int):=by omega
     by_cases he:l[(i+1)]! = x
     ·have HE:=Hh (Zz4U hin he)
      rw [he] at cx
      go_wp2_with fail
      go_ret
      exact ⟨_,rfl,by rw [HE.out];exact IN.out.on hbw,hbw⟩
     ·have HP:=Hh (ins_put HS.out (i:=(i+1)) (by omega) HJ.out LO.out (.inr he))
      have z1:(l[(i+1)]! == x)=false:=by simpa using he
      generalize l[(i+1)]! = E at cx z1
      clear he
      have hcells:=fun (W:World) (hW:Below w.heap.size w W) (j:Nat) (hj:j<l.length) (q:Nat) (u:Value) (hu:(encW1 l[j]!)[q]? = some u)=>(hW.cell (p:=⟨g,off+j*1+q,none⟩) hg).trans (HC.out j hj q u hu)
      have HRT:=Hh (fun W hW=>Zz5T (c:=c) (i:=(i+1)) (by omega) hg hW.size (hcells W hW))
      have HRD:=Hh (fun W hW cc=>rd_drop2I (i:=(i+1)) (by omega) hg hW.size (hcells W hW) cc)
      clear hcells
      have HLT:=Hh (show (l.take ((i+1))).length=(i+1) by rw [List.length_take];omega)
      have HB0:=Hh hbw
      have OW:=Hh (Zz26 wr w.heap.size hbw.size)
      clear hbw
      go_wp2_with (first
       | (at_builtin;refine Zz4 rfl (.tmp 35) (.tmp 38) _ rfl w.heap.size 3 i0 _ 1 8 Tryz.underlying53 hi0 hz0 hz1 hz2 rfl (by decide) _ _ _ rfl OW.out encW1 ZzF ZzH _ rfl (l.take ((i+1))) (HRT.out _ (HB0.out.alloc HB0.out.size _)) (by first|omega|(simp only [List.length_take,List.length_drop,maxLen];omega)|(simp [maxLen];omega)) (by first|omega|(simp only [List.length_take,List.length_drop,maxLen];omega)|(simp [maxLen];omega)) (by have:=HB0.out.size;simp;omega) ?_;intro v2 w2 hown2 hg2;rw [HLT.out,Nat.zero_add] at hown2;obtain ⟨A2,c2,rfl⟩:=Zz18 hown2;have hb2:=Zz5 OW.out nlR (HB0.out.alloc HB0.out.size _) hg2;have HO2:=Hh hown2;have HB2:=Hh hb2;clear hown2 hg2 hb2)
       | (at_builtin;refine wpList_append_own _ rfl _ _ _ rfl w.heap.size 3 i0 _ 1 8 Tryz.underlying53 hi0 hz0 hz1 hz2 rfl (by decide) _ _ _ rfl (HO2.out.alloc _) ⟨w2.heap.size,0,none⟩ 1 1 (encW1 x) rfl rfl (ZzS w2 _ _) (ZzH _) (by first|omega|(simp only [List.length_take,List.length_drop,maxLen];omega)|(simp [maxLen];omega)) (by first|omega|(simp only [List.length_take,List.length_drop,maxLen];omega)|(simp [maxLen];omega)) (by have:=HB2.out.size;simp;omega) ?_;intro v3 w3 hown3 hg3 _;obtain ⟨A3,c3,rfl⟩:=Zz18 hown3;have hb3:=Zz5 HO2.out nlR (HB2.out.alloc HB2.out.size _) hg3;have HO3:=Hh hown3;have HB3:=Hh hb3;clear hown3 hg3 hb3)
       | (at_builtin;refine Zz4 rfl (.tmp 44) (.tmp 47) _ rfl w.heap.size 3 i0 _ 1 8 Tryz.underlying53 hi0 hz0 hz1 hz2 rfl (by decide) _ _ _ rfl HO3.out encW1 ZzF ZzH _ rfl (l.drop ((i+1))) (HRD.out _ HB3.out _) (by first|omega|(simp only [List.length_take,List.length_drop,maxLen];omega)|(simp [maxLen];omega)) (by first|omega|(simp only [List.length_take,List.length_drop,maxLen];omega)|(simp [maxLen];omega)) HB3.out.size ?_;intro v4 w4 hown4 hg4;have hb4:=Zz5 HO3.out nlR HB3.out hg4;have HO4:=Hh hown4;have HB4:=Hh hb4;clear hown4 hg4 hb4))
      all_goals (
       go_ret
       have hfin:=HO4.out
       refine ⟨_,rfl,.inr ⟨Zz5W _ _,?_,Zz2r HO4.out⟩,HB4.out⟩
       rw [←HP.out]
       refine Zz8 ZzF (n:=(i+1)+1+(l.drop ((i+1))).length) (base:=w.heap.size) (e:=3) ?_ (by simp;omega)
       simpa using hfin)
    ·have HP:=Hh (ins_put HS.out (i:=(i+1)) (by omega) HJ.out LO.out (.inl (by omega)))
     have hnl:¬ (i:Int)+1<(l.length:Int):=by omega
     have hnd:decide ((i:Int)+1<(l.length:Int))=false:=dFf hnl
     have hcells:=fun (W:World) (hW:Below w.heap.size w W) (j:Nat) (hj:j<l.length) (q:Nat) (u:Value) (hu:(encW1 l[j]!)[q]? = some u)=>(hW.cell (p:=⟨g,off+j*1+q,none⟩) hg).trans (HC.out j hj q u hu)
     have HRT:=Hh (fun W hW=>Zz5T (c:=c) (i:=(i+1)) (by omega) hg hW.size (hcells W hW))
     have HRD:=Hh (fun W hW cc=>rd_dropI (c:=c) (i:=(i+1)) hcap (by omega) hg hW.size (hcells W hW) cc)
     clear hcells
     have HLT:=Hh (show (l.take ((i+1))).length=(i+1) by rw [List.length_take];omega)
     have HB0:=Hh hbw
     have OW:=Hh (Zz26 wr w.heap.size hbw.size)
     clear hbw
     go_wp2_with (first
      | (at_builtin;refine Zz4 rfl (.tmp 35) (.tmp 38) _ rfl w.heap.size 3 i0 _ 1 8 Tryz.underlying53 hi0 hz0 hz1 hz2 rfl (by decide) _ _ _ rfl OW.out encW1 ZzF ZzH _ rfl (l.take ((i+1))) (HRT.out _ (HB0.out.alloc HB0.out.size _)) (by first|omega|(simp only [List.length_take,List.length_drop,maxLen];omega)|(simp [maxLen];omega)) (by first|omega|(simp only [List.length_take,List.length_drop,maxLen];omega)|(simp [maxLen];omega)) (by have:=HB0.out.size;simp;omega) ?_;intro v2 w2 hown2 hg2;rw [HLT.out,Nat.zero_add] at hown2;obtain ⟨A2,c2,rfl⟩:=Zz18 hown2;have hb2:=Zz5 OW.out nlR (HB0.out.alloc HB0.out.size _) hg2;have HO2:=Hh hown2;have HB2:=Hh hb2;clear hown2 hg2 hb2)
      | (at_builtin;refine wpList_append_own _ rfl _ _ _ rfl w.heap.size 3 i0 _ 1 8 Tryz.underlying53 hi0 hz0 hz1 hz2 rfl (by decide) _ _ _ rfl (HO2.out.alloc _) ⟨w2.heap.size,0,none⟩ 1 1 (encW1 x) rfl rfl (ZzS w2 _ _) (ZzH _) (by first|omega|(simp only [List.length_take,List.length_drop,maxLen];omega)|(simp [maxLen];omega)) (by first|omega|(simp only [List.length_take,List.length_drop,maxLen];omega)|(simp [maxLen];omega)) (by have:=HB2.out.size;simp;omega) ?_;intro v3 w3 hown3 hg3 _;obtain ⟨A3,c3,rfl⟩:=Zz18 hown3;have hb3:=Zz5 HO2.out nlR (HB2.out.alloc HB2.out.size _) hg3;have HO3:=Hh hown3;have HB3:=Hh hb3;clear hown3 hg3 hb3)
      | (at_builtin;refine Zz4 rfl (.tmp 44) (.tmp 47) _ rfl w.heap.size 3 i0 _ 1 8 Tryz.underlying53 hi0 hz0 hz1 hz2 rfl (by decide) _ _ _ rfl HO3.out encW1 ZzF ZzH _ rfl (l.drop ((i+1))) (HRD.out _ HB3.out _) (by first|omega|(simp only [List.length_take,List.length_drop,maxLen];omega)|(simp [maxLen];omega)) (by first|omega|(simp only [List.length_take,List.length_drop,maxLen];omega)|(simp [maxLen];omega)) HB3.out.size ?_;intro v4 w4 hown4 hg4;have hb4:=Zz5 HO3.out nlR HB3.out hg4;have HO4:=Hh hown4;have HB4:=Hh hb4;clear hown4 hg4 hb4))
     all_goals (
      go_ret
      have hfin:=HO4.out
      refine ⟨_,rfl,.inr ⟨Zz5W _ _,?_,Zz2r HO4.out⟩,HB4.out⟩
      rw [←HP.out]
      refine Zz8 ZzF (n:=(i+1)+1+(l.drop ((i+1))).length) (base:=w.heap.size) (e:=3) ?_ (by simp;omega)
      simpa using hfin)
/- The reference's ends of spans: insert at any list, Ends. -/
theorem Zz2R:∀ (A B:List Spn) (l:List Int),endsI (A++B) l=endsI B (endsI A l)
 | [],_,_=>rfl
 | s :: A,B,l=>by rw [List.cons_append,endsI,endsI];exact Zz2R A B _
theorem endsI_step {S:List Spn} {k:Nat} (hk:k<S.length) (l:List Int):endsI (S.take (k+1)) l=insI (insI (endsI (S.take k) l) (S[k]!).fr) (S[k]!).to:=by
 rw [List.take_succ_eq_append_getElem hk,Zz2R,getElem!_pos S k hk];rfl
theorem Zz3S:∀ (S:List Spn) (l:List Int),(endsI S l).length≤l.length+2*S.length
 | [],l=>by rw [endsI];simp
 | s :: S,l=>by
  rw [endsI]
  have h1:=Zz3S S (insI (insI l s.fr) s.to)
  have h2:=Zz5U (insI l s.fr) s.to
  have h3:=Zz5U l s.fr
  simp only [List.length_cons]
  omega
set_option maxRecDepth 100000 in
set_option maxHeartbeats 1000000 in
theorem Zz3Z (x:Int) (w:World):Calls Tryz.prog 68 #[.slice none 0 0,.int .i64 x] w fun e w'=>∃ v,e=.returned v∧InsN w' v (insI [] x)∧Below w.heap.size w w':=by
 obtain ⟨i0,hi0,hz0,hz1,hz2⟩:=info_parts infoI
 have hI:insI [] x=[x]:=by unfold insI;simp
 rw [hI]
 have OW:=Hh (Zz26 w w.heap.size nlR)
 have HB0:=Hh (Below.refl w.heap.size w)
 go_enter Tryz.func68,Tryz.ntmps68
 go_wp2
 refine wp_loop_rounds 1 ?_
 rw [rounds_succ]
 go_wp2_with (first
  | (at_builtin;refine Zz4 rfl (.tmp 35) (.tmp 38) _ rfl w.heap.size 3 i0 _ 1 8 Tryz.underlying53 hi0 hz0 hz1 hz2 rfl (by decide) _ _ _ rfl OW.out encW1 ZzF ZzH _ rfl [] (.inl ⟨rfl,_,_,rfl⟩) (by simp [maxLen]) (by simp) (by have:=HB0.out.size;simp) ?_;intro v2 w2 hown2 hg2;obtain ⟨A2,c2,rfl⟩:=Zz18 hown2;have hb2:=Zz5 OW.out nlR (HB0.out.alloc HB0.out.size _) hg2;have HO2:=Hh hown2;have HB2:=Hh hb2;clear hown2 hg2 hb2)
  | (at_builtin;refine wpList_append_own _ rfl _ _ _ rfl w.heap.size 3 i0 _ 1 8 Tryz.underlying53 hi0 hz0 hz1 hz2 rfl (by decide) _ _ _ rfl (HO2.out.alloc _) ⟨w2.heap.size,0,none⟩ 1 1 (encW1 x) rfl rfl (ZzS w2 _ _) (ZzH _) (by simp [maxLen]) (by simp) (by have:=HB2.out.size;simp;omega) ?_;intro v3 w3 hown3 hg3 _;obtain ⟨A3,c3,rfl⟩:=Zz18 hown3;have hb3:=Zz5 HO2.out nlR (HB2.out.alloc HB2.out.size _) hg3;have HO3:=Hh hown3;have HB3:=Hh hb3;clear hown3 hg3 hb3)
  | (at_builtin;refine Zz4 rfl (.tmp 44) (.tmp 47) _ rfl w.heap.size 3 i0 _ 1 8 Tryz.underlying53 hi0 hz0 hz1 hz2 rfl (by decide) _ _ _ rfl HO3.out encW1 ZzF ZzH _ rfl [] (.inl ⟨rfl,_,_,rfl⟩) (by simp [maxLen]) (by simp) HB3.out.size ?_;intro v4 w4 hown4 hg4;have hb4:=Zz5 HO3.out nlR HB3.out hg4;have HO4:=Hh hown4;have HB4:=Hh hb4;clear hown4 hg4 hb4))
 all_goals (
  go_ret
  have hfin:=HO4.out
  refine ⟨_,rfl,.inr ⟨by simp,?_,Zz2r HO4.out⟩,HB4.out⟩
  refine Zz8 ZzF (n:=1) (base:=w.heap.size) (e:=3) ?_ (by simp)
  simpa using hfin)
theorem Zz4D (l:List Int) (x:Int) (v:Value) (w:World) (hs:l.Pairwise (· < ·)) (hl:l.length≤1000000) (h:InsN w v l) :
  Calls Tryz.prog 68 #[v,.int .i64 x] w fun e w'=>∃ v',e=.returned v'∧InsN w' v' (insI l x)∧Below w.heap.size w w':=by
 rcases h with ⟨rfl,rfl⟩|⟨h1,h2,h3⟩
 ·exact Zz3Z x w
 ·rcases h2 with ⟨h4,_⟩|⟨g,off,c,rfl,hg,hc⟩
  ·rw [h4] at h1;cases h1
  ·exact Zz3g l x g off c w hs hl (h3 _ _ _ rfl) h1 hg hc
set_option maxRecDepth 100000 in
set_option maxHeartbeats 1000000 in
theorem r12_Ends (S:List Spn) (v:Value) (w:World) (hS:Rd encN 2 w v S) (hl:S.length≤10000) :
  Calls Tryz.prog 30 #[v] w fun e w'=>∃ v',e=.returned v'∧InsN w' v' (endsI S [])∧Below w.heap.size w w':=by
 have HR:=Hh hS
 obtain ⟨A,c,rfl⟩:=Zzh hS
 clear hS
 go_enter Tryz.func30,Tryz.ntmps30
 go_wp2
 go_loopw [3,4] (fun v3 i wr=>∃ k:Nat,k≤S.length∧i=.int .i64 k∧Hid (InsN wr v3 (endsI (S.take k) []))∧Below w.heap.size w wr) (fun _ i _=>S.length-(intOf i).toNat)
 case atStart=>exact ⟨0,Nat.zero_le _,rfl,.inl ⟨rfl,by simp [endsI]⟩,Below.refl _ _⟩
 case round =>
  obtain ⟨k,hk,rfl,HI,hbr⟩:=hrel
  by_cases hlt:k<S.length
  ·obtain ⟨_,hP0|⟨g,o,rfl,hg,hcs⟩⟩:=rd_at (HR.out.on hbr)
   ·rw [hP0] at hlt;exact absurd hlt (Nat.not_lt_zero _)
   ·obtain ⟨e1,e2⟩:=hcs k hlt
    have HST:=Hh (endsI_step hlt [])
    have hln:=Zz3S (S.take k) []
    rw [List.length_take,List.length_nil] at hln
    have HAS:=Hh (Zz2I (S:=S.take k) (l:=[]) List.Pairwise.nil)
    obtain ⟨s,hs⟩:∃ s,S[k]! = s:=⟨_,rfl⟩
    rw [hs] at e1 e2 HST
    generalize endsI (S.take k) []=E at *
    have hl2:=Zz5U E s.fr
    clear hcs hs
    go_wp2_with fail
    refine (Zz4D E s.fr _ _ HAS.out (by omega) HI.out).mono ?_
    rintro e w1 ⟨v1,rfl,i1,hb1⟩
    have I1:=Hh i1
    have e2':=(hb1.cell (p:=⟨g,o+k*2+1,none⟩) hg).trans e2
    clear i1 e1 e2
    go_wp2_with fail
    refine (Zz4D (insI E s.fr) s.to _ _ (Zz5h HAS.out) (by omega) I1.out).mono ?_
    rintro e w2 ⟨v2,rfl,i2,hb2⟩
    have I2:=Hh i2
    have hB2:Below w.heap.size w w2:=(hbr.trans (hb1.mono hbr.size)).trans (hb2.mono (nLt hbr.size hb1.size))
    clear i2
    go_wp2
    go_roundw
    case rel=>exact ⟨k+1,by omega,by go_num,by rw [HST.out];exact I2.out,hB2⟩
    case measure=>simp [intOf];omega
  ·have hke:k=S.length:=by omega
   subst hke
   rw [List.take_length] at HI
   go_wp2
   go_ret
   exact ⟨_,rfl,HI.out,hbr⟩
/- The reference's runs: Add, a span put behind the last. -/
theorem Zz71 (W:World) (b i:Nat) (v:Value):W.grownBy (W.setCell ⟨b,i,none⟩ v) (some b) :=
 ⟨rfl,rfl,rfl,(KeepsWalks.setCell W _ v).size,fun k _ hk=>Below.heap_setCell _ _ _ k (fun e=>hk (by rw [e]))⟩
theorem Zz1r {w W w':World} {row:Option Nat} (hb:RowKit.Below w.heap.size w W) (hg:W.grownBy w' row):w.grownBy w' row :=
 ⟨hg.os.trans hb.os,hg.tape.trans hb.tape,hg.output.trans hb.output,nLt hb.size hg.size,fun k hk hne=>(hg.block k (nLl hk hb.size) hne).trans (hb.block k hk)⟩
set_option maxRecDepth 100000 in
set_option maxHeartbeats 4000000 in
theorem r12_Add (O:List Spn) (x:Spn) (v:Value) (base:Nat) (w:World) (hl:O.length≤100000) (hbw:base≤w.heap.size) (hown:w.ownsRow base 29 2 v O.length (O.flatMap encN)) :
  Calls Tryz.prog 33 #[v,.agg #[.int .i64 x.fr,.int .i64 x.to]] w fun e w'=>∃ v',e=.returned v'∧w'.ownsRow base 29 2 v' (addS O x).length ((addS O x).flatMap encN)∧RowKit.Below base w w'∧w.grownBy w' v.ownBlock:=by
 obtain ⟨i0,hi0,hz0,hz1,hz2⟩:=info_parts Zz1M
 obtain ⟨A6,c6,rfl⟩:=ZzA hown
 have hBA:RowKit.Below base w (w.alloc (.cells #[.int .i64 x.fr,.int .i64 x.to] 29)):=bLR.alloc hbw _
 have HOA:=Hh (Zzb hown (Zz7 w (.cells #[.int .i64 x.fr,.int .i64 x.to] 29)))
 have bx:=Blk.new w #[.int .i64 x.fr,.int .i64 x.to] 29
 have hWB:RowKit.Below w.heap.size w (w.alloc (.cells #[.int .i64 x.fr,.int .i64 x.to] 29)):=Zz7 w _
 have hszA:base≤(w.alloc (.cells #[.int .i64 x.fr,.int .i64 x.to] 29)).heap.size:=by simp;omega
 clear hown
 go_enter Tryz.func33,Tryz.ntmps33
 go_wp2_with fail
 generalize hWA:w.alloc (.cells #[.int .i64 x.fr,.int .i64 x.to] 29)=WA at *
 have y0:=bx.cl 0 _ rfl
 have y1:=bx.cl 1 _ rfl
 by_cases h0:O.length=0
 ·have HADD:=Hh (show addS O x=O++[x] by unfold addS;rw [if_neg (by omega)])
  have dk:¬ 0<O.length:=by omega
  have dk1:decide ((0:Int)<(O.length:Int))=false:=dFf (by omega)
  clear h0
  go_wp2_with fail
  go_quiet (fail)
  have hd3:RowKit.Below WA.heap.size WA (WA.drewN nq):=Zz2 bLR nq
  have hBW:=hBA.trans (hd3.mono hszA)
  have hW4:=Hh (hWB.trans (hd3.mono hWB.size))
  have HO4:=Hh (Zzb HOA.out hd3)
  have b3:Blk (WA.drewN nq) w.heap.size #[.int .i64 x.fr,.int .i64 x.to] 29:=bx.below hd3 bx.lt
  have hszB:base≤(WA.drewN nq).heap.size:=nLt hszA hd3.size
  clear y0 y1 bx
  generalize WA.drewN nq=W4 at *
  have y0:=b3.cl 0 _ rfl
  have y1:=b3.cl 1 _ rfl
  go_wp2_with (at_builtin;refine wpList_append_own _ rfl _ _ _ rfl base 29 i0 _ 2 16 Tryz.underlying33 hi0 hz0 hz1 hz2 rfl (by decide) _ _ _ rfl (HO4.out.alloc _) ⟨_,0,none⟩ 1 1 (encN x) rfl rfl (Zz9 (by simp) _) (Zzx x) (by simp only [maxLen];omega) (by omega) (by simp;omega) ?_;intro v' w5 hown5 hg5 _)
  have hB8:RowKit.Below base w (W4.alloc (.cells (encN x).toArray 29)):=hBW.alloc hszB _
  have hB5:RowKit.Below base w w5:=hB8.grown hg5 (by simp;omega) fun g e=>(HO4.out.lt g e).1
  go_ret
  exact ⟨_,rfl,by rw [HADD.out];exact Zzs (es:=O) (x:=x) hown5,hB5,Zz1r (hW4.out.alloc hW4.out.size _) hg5⟩
 ·obtain ⟨q,hq⟩:∃ q,O.length=q+1:=⟨O.length-1,by omega⟩
  have dk:0<O.length:=by omega
  have dk1:decide ((0:Int)<(O.length:Int))=true:=dTt (by omega)
  have hwi:(O.length:Int)-1=(q:Int):=by omega
  have hql:q<O.length:=by omega
  obtain ⟨g6,hA6⟩:∃ g6,A6=some ⟨g6,0,none⟩:=by
   rcases HOA.out.2 with ⟨e0,_⟩|⟨g',cap',cur,e0,_⟩
   ·injection e0 with _ e1 _;omega
   ·injection e0 with e1 _ _;exact ⟨g',e1⟩
  subst hA6
  have HLT:=Hh (fun (W:World) (h:W.ownsRow base 29 2 (.slice (some ⟨g6,0,none⟩) O.length c6) O.length (O.flatMap encN))=>show W.cell? ⟨g6,q*2+1,none⟩=some (.int .i64 (O[q]!).to) from (h.cellAt (q*2+1) (by omega)).trans (Zz1w Zzz O q 1 hql (by omega)))
  clear h0
  have l1:=HLT.out WA HOA.out
  by_cases hle:(O[q]!).to=x.fr
  ·have HSE:=Hh (show addS O x=O.set q ⟨(O[q]!).fr,x.to⟩ by unfold addS;rw [show O.length-1=q by omega,if_pos ⟨dk,hle⟩])
   have HSF:=Hh (Zz5v O q x.to hql)
   have HSL:=Hh (show (O.set q ⟨(O[q]!).fr,x.to⟩).length=O.length from List.length_set)
   rw [hle] at l1 HLT
   go_wp2_with fail
   go_quiet (fail)
   have hd3:RowKit.Below WA.heap.size WA (WA.drewN nq):=Zz2 bLR nq
   have hBW:=hBA.trans (hd3.mono hszA)
   have hW4:=Hh (hWB.trans (hd3.mono hWB.size))
   have hO3:=Zzb HOA.out hd3
   have b3:Blk (WA.drewN nq) w.heap.size #[.int .i64 x.fr,.int .i64 x.to] 29:=bx.below hd3 bx.lt
   clear y0 y1 l1 bx
   generalize WA.drewN nq=W4 at *
   have y0:=b3.cl 0 _ rfl
   have y1:=b3.cl 1 _ rfl
   have l1:W4.cell? ⟨g6,q*2+1,none⟩=some (.int .i64 x.fr):=HLT.out W4 hO3
   have lf:=hO3.frozenAt (q*2+1)
   have HO4:=Hh hO3
   clear hO3
   have hst:=(HO4.out.stored (q*2+1) (.int .i64 x.to)).1
   have hfin:(W4.setCell ⟨g6,q*2+1,none⟩ (.int .i64 x.to)).ownsRow base 29 2 (.slice (some ⟨g6,0,none⟩) O.length c6) (addS O x).length ((addS O x).flatMap encN):=by
    rw [HSE.out,HSL.out,←HSF.out]
    exact hst
   have hg6:base≤g6:=by
    rcases HO4.out.2 with ⟨e0,_⟩|⟨g',cap',cur,e0,h6,_⟩
    ·cases e0
    ·injection e0 with e1 _ _
     injection e1 with e1
     injection e1 with e1 _ _
     rw [e1];exact h6
   have hB5:RowKit.Below base w (W4.setCell ⟨g6,q*2+1,none⟩ (.int .i64 x.to)):=hBW.setCell (p:=⟨g6,q*2+1,none⟩) hg6 _
   have HF:=Hh hfin
   clear hst hfin
   go_wp2
   go_ret
   exact ⟨_,rfl,HF.out,hB5,Zz1r hW4.out (Zz71 _ _ _ _)⟩
  ·have HADD:=Hh (show addS O x=O++[x] by unfold addS;rw [show O.length-1=q by omega,if_neg (fun h=>hle h.2)])
   have d1:((O[q]!).to == x.fr)=false:=beq_eq_false_iff_ne.2 hle
   generalize (O[q]!).to=lt at *
   clear hq
   go_wp2_with fail
   go_quiet (fail)
   have hd3:RowKit.Below WA.heap.size WA (WA.drewN nq):=Zz2 bLR nq
   have hBW:=hBA.trans (hd3.mono hszA)
   have hW4:=Hh (hWB.trans (hd3.mono hWB.size))
   have HO4:=Hh (Zzb HOA.out hd3)
   have b3:Blk (WA.drewN nq) w.heap.size #[.int .i64 x.fr,.int .i64 x.to] 29:=bx.below hd3 bx.lt
   have hszB:base≤(WA.drewN nq).heap.size:=nLt hszA hd3.size
   clear y0 y1 bx
   generalize WA.drewN nq=W4 at *
   have y0:=b3.cl 0 _ rfl
   have y1:=b3.cl 1 _ rfl
   go_wp2_with (at_builtin;refine wpList_append_own _ rfl _ _ _ rfl base 29 i0 _ 2 16 Tryz.underlying33 hi0 hz0 hz1 hz2 rfl (by decide) _ _ _ rfl (HO4.out.alloc _) ⟨_,0,none⟩ 1 1 (encN x) rfl rfl (Zz9 (by simp) _) (Zzx x) (by simp only [maxLen];omega) (by omega) (by simp;omega) ?_;intro v' w5 hown5 hg5 _)
   have hB8:RowKit.Below base w (W4.alloc (.cells (encN x).toArray 29)):=hBW.alloc hszB _
   have hB5:RowKit.Below base w w5:=hB8.grown hg5 (by simp;omega) fun g e=>(HO4.out.lt g e).1
   go_ret
   exact ⟨_,rfl,by rw [HADD.out];exact Zzs (es:=O) (x:=x) hown5,hB5,Zz1r (hW4.out.alloc hW4.out.size _) hg5⟩
/- The reference of layer 24: Instants. Printed by gen_ref24i.py. -/
theorem runsI_drop (p:Int→Bool) {L:List Int} {k:Nat} (hk:k+1<L.length) (O:List Spn):runsI p (L.drop k) O=runsI p (L.drop (k+1)) (if p L[k]! = true then addS O ⟨L[k]!,L[k+1]!⟩ else O):=by
 rw [List.drop_eq_getElem_cons (show k<L.length by omega),List.drop_eq_getElem_cons hk,runsI,getElem!_pos L k (by omega),getElem!_pos L (k+1) hk]
theorem runsI_end (p:Int→Bool) {L:List Int} {k:Nat} (hk:L.length≤k+1) (O:List Spn):runsI p (L.drop k) O=O:=by
 have h:(L.drop k).length≤1:=by rw [List.length_drop];omega
 match L.drop k,h with
 | [],_=>rfl
 | [_],_=>rfl
def atS (S:List Spn) (b:Int) (X:List Trn):List Spn:=S++X.map fun x=>⟨x.at_,b⟩
theorem atS_step {S:List Spn} {b:Int} {X:List Trn} {k:Nat} (hk:k<X.length):atS S b (X.take (k+1))=atS S b (X.take k)++[⟨(X[k]!).at_,b⟩]:=by
 unfold atS
 rw [List.take_succ_eq_append_getElem hk,List.map_append,←List.append_assoc,getElem!_pos X k hk]
 rfl
theorem atS_len (S:List Spn) (b:Int) (X:List Trn) (k:Nat):(atS S b (X.take k)).length≤S.length+k:=by
 unfold atS
 rw [List.length_append,List.length_map,List.length_take]
 omega
theorem atS_all (S:List Spn) (b:Int) (X:List Trn):(atS S b X).length=S.length+X.length:=by
 unfold atS
 rw [List.length_append,List.length_map]
theorem ends_bd {za zb:Zn} {a b:Int} (hab:a<b):∀ y∈endsI (endsS za zb a b) [],a≤y∧y≤b:=fun y hy=>by
 rcases Zz6j.1 hy with h|⟨s,hs,h⟩
 ·cases h
 ·unfold endsS at hs
  rcases List.mem_cons.1 hs with rfl|hs
  ·dsimp only at h;omega
  ·rcases List.mem_append.1 hs with hs|hs
   ·obtain ⟨x,hx,rfl⟩:=List.mem_map.1 hs
    have:=(Zz4F hx).2
    dsimp only at h
    omega
   ·obtain ⟨x,hx,rfl⟩:=List.mem_map.1 hs
    have:=(Zz4F hx).2
    dsimp only at h
    omega
theorem asc_next {L:List Int} (h:L.Pairwise (· < ·)) {k:Nat} (hk:k+1<L.length):L[k]! < L[k+1]! := by
 rw [getElem!_pos L k (by omega),getElem!_pos L (k+1) hk]
 exact List.pairwise_iff_getElem.1 h k (k+1) (by omega) hk (by omega)
theorem addS_len2 (out:List Spn) (s:Spn):(addS out s).length≤out.length+1:=by
 unfold addS
 split
 ·rw [List.length_set];omega
 ·simp
def TwoOf (A B X Y arg v:Value):Prop:=(arg=A∧v=X)∨(arg=B∧v=Y)
theorem twoAt_of {f:FuncId} {t A B X Y:Value} {W0:World} (h1:∀ W,Below W0.heap.size W0 W→Calls Tryz.prog f #[A,t] W fun e w'=>e=.returned X∧Below W.heap.size W w') (h2:∀ W,Below W0.heap.size W0 W→Calls Tryz.prog f #[B,t] W fun e w'=>e=.returned Y∧Below W.heap.size W w') {arg v:Value} (h:TwoOf A B X Y arg v) {W:World} (hb:Below W0.heap.size W0 W) :
  Calls Tryz.prog f #[arg,t] W fun e w'=>e=.returned v∧Below W.heap.size W w':=by
 rcases h with ⟨rfl,rfl⟩|⟨rfl,rfl⟩
 ·exact h1 W hb
 ·exact h2 W hb
set_option maxRecDepth 100000 in
set_option maxHeartbeats 2000000 in
theorem Zz5y (za:Zn) (vTa vRa:Value) (zb:Zn) (vTb vRb:Value) (a b:Int) (w:World) (hTa:Rd Trn.cells 4 w vTa za.table) (hRa:Rd Rule.cells 11 w vRa za.tail) (hTb:Rd Trn.cells 4 w vTb zb.table) (hRb:Rd Rule.cells 11 w vRb zb.tail) (hfa:za.form.size≤2000000) (hfb:zb.form.size≤2000000) (hla:za.tail.length≤12) (hlb:zb.tail.length≤12) (hta:za.table.length≤1000) (htb:zb.table.length≤1000) (hva:za.valid=true) (hvb:zb.valid=true) (hsp:spanV a b=true) (hab:b-a≤3200000000) (hca:(za.betF a b).length≤400) (hcb:(zb.betF a b).length≤400) :
  Calls Tryz.prog 11 #[za.v vTa vRa,zb.v vTb vRb,.agg #[.int .i64 a,.int .i64 b]] w fun e w'=>∃ v,e=.returned (.tuple #[v,.int .i64 0])∧Rd encN 2 w' v (runsI (difP za zb) (endsI (endsS za zb a b) []) [])∧Below w.heap.size w w':=by
 have hsb : -62135596800≤a∧a<b∧b≤253402300800:=by
  unfold spanV at hsp
  simp at hsp
  omega
 have HBA:=Hh (fun W (hb:Below w.heap.size w W)=>Zz3w za vTa vRa a b W (hTa.on hb) (hRa.on hb) hfa hla hta hva hsp hab (by omega))
 have HBB:=Hh (fun W (hb:Below w.heap.size w W)=>Zz3w zb vTb vRb a b W (hTb.on hb) (hRb.on hb) hfb hlb htb hvb hsp hab (by omega))
 have HTA:=Hh (fun t h1 h2 W (hb:Below w.heap.size w W)=>r22_At za vTa vRa t W (hTa.on hb) (hRa.on hb) hfa hla hta hva h1 h2)
 have HTB:=Hh (fun t h1 h2 W (hb:Below w.heap.size w W)=>r22_At zb vTb vRb t W (hTb.on hb) (hRb.on hb) hfb hlb htb hvb h1 h2)
 have HBD:=Hh (ends_bd (za:=za) (zb:=zb) hsb.2.1)
 have HES:=Hh (show endsS za zb a b=atS (atS [⟨a,b⟩] b (za.betF a b)) b (zb.betF a b) by unfold endsS atS;simp)
 obtain ⟨i0,hi0,hz0,hz1,hz2⟩:=info_parts Zz1M
 obtain ⟨AT,cT,rfl⟩:=Zzh hTa
 obtain ⟨AR,cR,rfl⟩:=Zzh hRa
 obtain ⟨AU,cU,rfl⟩:=Zzh hTb
 obtain ⟨AS,cS,rfl⟩:=Zzh hRb
 have ka:=((Blk.new w #[.string za.nm,.int .i64 za.first.off,.int .i64 za.first.sv,.string za.first.nm,.slice AT za.table.length cT,.slice AR za.tail.length cR,.int .i64 za.off,.string za.form,.int .i64 za.year] 27).alloc (.cells #[.string zb.nm,.int .i64 zb.first.off,.int .i64 zb.first.sv,.string zb.first.nm,.slice AU zb.table.length cU,.slice AS zb.tail.length cS,.int .i64 zb.off,.string zb.form,.int .i64 zb.year] 27)).alloc (.cells #[.int .i64 a,.int .i64 b] 29)
 have kb:=(Blk.new (w.alloc (.cells #[.string za.nm,.int .i64 za.first.off,.int .i64 za.first.sv,.string za.first.nm,.slice AT za.table.length cT,.slice AR za.tail.length cR,.int .i64 za.off,.string za.form,.int .i64 za.year] 27)) #[.string zb.nm,.int .i64 zb.first.off,.int .i64 zb.first.sv,.string zb.first.nm,.slice AU zb.table.length cU,.slice AS zb.tail.length cS,.int .i64 zb.off,.string zb.form,.int .i64 zb.year] 27).alloc (.cells #[.int .i64 a,.int .i64 b] 29)
 have ki:=Blk.new ((w.alloc (.cells #[.string za.nm,.int .i64 za.first.off,.int .i64 za.first.sv,.string za.first.nm,.slice AT za.table.length cT,.slice AR za.tail.length cR,.int .i64 za.off,.string za.form,.int .i64 za.year] 27)).alloc (.cells #[.string zb.nm,.int .i64 zb.first.off,.int .i64 zb.first.sv,.string zb.first.nm,.slice AU zb.table.length cU,.slice AS zb.tail.length cS,.int .i64 zb.off,.string zb.form,.int .i64 zb.year] 27)) #[.int .i64 a,.int .i64 b] 29
 simp only [World.size_alloc] at kb ki
 have hB0:Below w.heap.size w (((w.alloc (.cells #[.string za.nm,.int .i64 za.first.off,.int .i64 za.first.sv,.string za.first.nm,.slice AT za.table.length cT,.slice AR za.tail.length cR,.int .i64 za.off,.string za.form,.int .i64 za.year] 27)).alloc (.cells #[.string zb.nm,.int .i64 zb.first.off,.int .i64 zb.first.sv,.string zb.first.nm,.slice AU zb.table.length cU,.slice AS zb.tail.length cS,.int .i64 zb.off,.string zb.form,.int .i64 zb.year] 27)).alloc (.cells #[.int .i64 a,.int .i64 b] 29)):=((bLR.alloc nlR _).alloc (by simp) _).alloc (by simp;omega) _
 have KA:=Hh ka
 have KB:=Hh kb
 have KI:=Hh ki
 clear hTa hRa hTb hRb hva hvb hsp hfa hfb ka kb ki
 unfold Zn.v at HBA HBB HTA HTB ⊢
 go_enter Tryz.func11,Tryz.ntmps11
 go_wp2_with fail
 generalize (((w.alloc (.cells #[.string za.nm,.int .i64 za.first.off,.int .i64 za.first.sv,.string za.first.nm,.slice AT za.table.length cT,.slice AR za.tail.length cR,.int .i64 za.off,.string za.form,.int .i64 za.year] 27)).alloc (.cells #[.string zb.nm,.int .i64 zb.first.off,.int .i64 zb.first.sv,.string zb.first.nm,.slice AU zb.table.length cU,.slice AS zb.tail.length cS,.int .i64 zb.off,.string zb.form,.int .i64 zb.year] 27)).alloc (.cells #[.int .i64 a,.int .i64 b] 29))=W0 at *
 have Ka:=KA.out.below bLR KA.out.lt
 have a0:=Ka.cl 0 _ rfl
 have a1:=Ka.cl 1 _ rfl
 have a2:=Ka.cl 2 _ rfl
 have a3:=Ka.cl 3 _ rfl
 have a4:=Ka.cl 4 _ rfl
 have a5:=Ka.cl 5 _ rfl
 have a6:=Ka.cl 6 _ rfl
 have a7:=Ka.cl 7 _ rfl
 have a8:=Ka.cl 8 _ rfl
 have Ks:=KI.out.below bLR KI.out.lt
 have s0:=Ks.cl 0 _ rfl
 have s1:=Ks.cl 1 _ rfl
 go_wp2_with fail
 refine (HBA.out _ hB0).mono ?_
 rintro e w1 ⟨v1,rfl,r1,hb1⟩
 have hB1:=hB0.trans (hb1.mono hB0.size)
 have R1:=Hh r1
 clear r1 HBA
 clear Ka a0 a1 a2 a3 a4 a5 a6 a7 a8 Ks s0 s1
 have Kb:=KB.out.below hb1 KB.out.lt
 have b0:=Kb.cl 0 _ rfl
 have b1:=Kb.cl 1 _ rfl
 have b2:=Kb.cl 2 _ rfl
 have b3:=Kb.cl 3 _ rfl
 have b4:=Kb.cl 4 _ rfl
 have b5:=Kb.cl 5 _ rfl
 have b6:=Kb.cl 6 _ rfl
 have b7:=Kb.cl 7 _ rfl
 have b8:=Kb.cl 8 _ rfl
 have Ks:=KI.out.below hb1 KI.out.lt
 have s0:=Ks.cl 0 _ rfl
 have s1:=Ks.cl 1 _ rfl
 go_wp2_with fail
 refine (HBB.out _ hB1).mono ?_
 rintro e w2 ⟨v2,rfl,r2,hb2⟩
 have hB2:=hB1.trans (hb2.mono hB1.size)
 have hbb2:=hb1.trans (hb2.mono hb1.size)
 have R1:=Hh (R1.out.on hb2)
 have R2:=Hh r2
 clear r2 HBB
 clear Kb b0 b1 b2 b3 b4 b5 b6 b7 b8 Ks s0 s1
 obtain ⟨A1,c1,rfl⟩:=Zzh R1.out
 obtain ⟨A2,c2,rfl⟩:=Zzh R2.out
 have KA:=Hh (KA.out.below hbb2 KA.out.lt)
 have KB:=Hh (KB.out.below hbb2 KB.out.lt)
 have KI:=Hh (KI.out.below hbb2 KI.out.lt)
 generalize za.betF a b=XA at *
 generalize zb.betF a b=XB at *
 clear hbb2 hb1 hb2 hB0 hB1
 have KI2:=KI.out
 have s0:=KI2.cl 0 _ rfl
 have s1:=KI2.cl 1 _ rfl
 have HO3:=Hh (show (w2.alloc (.cells #[.int .i64 a,.int .i64 b] 29)).ownsRow w2.heap.size 29 2 (.slice (some ⟨w2.heap.size,0,none⟩) 1 1) (atS [⟨a,b⟩] b (XA.take 0)).length ((atS [⟨a,b⟩] b (XA.take 0)).flatMap encN) from World.ownsRow_lit (base:=w2.heap.size) w2 #[.int .i64 a,.int .i64 b] 1 nlR (by decide) rfl)
 have hw3:Below w2.heap.size w2 (w2.alloc (.cells #[.int .i64 a,.int .i64 b] 29)):=Zz7 _ _
 go_wp2_with fail
 generalize w2.alloc (.cells #[.int .i64 a,.int .i64 b] 29)=w3 at *
 clear s0 s1 KI2
 go_loopw [12,13] (fun v12 vi wr=>∃ k:Nat,k≤XA.length∧vi=.int .i64 k∧wr.ownsRow w2.heap.size 29 2 v12 (atS [(⟨a,b⟩:Spn)] b (XA.take k)).length ((atS [(⟨a,b⟩:Spn)] b (XA.take k)).flatMap encN)∧Below w2.heap.size w2 wr) (fun _ vi _=>XA.length-(intOf vi).toNat)
 case atStart=>exact ⟨0,Nat.zero_le _,rfl,HO3.out,hw3⟩
 case round =>
  obtain ⟨k,hk,rfl,hown,hbr⟩:=hrel
  by_cases hlt:k<XA.length
  ·have hol:=atS_len [(⟨a,b⟩:Spn)] b XA k
   have hS1:([(⟨a,b⟩:Spn)]).length≤401:=by first|omega|simp
   have hgb:0<XA.length:=by omega
   obtain ⟨gx,ox,hAx,hgx2,hcx⟩:=rd_blkT R1.out hgb
   ·have e0:=(hcx wr hbr k hlt).1
    have hgx:gx<wr.heap.size:=nLl hgx2 hbr.size
    have HST:=Hh (atS_step (S:=[(⟨a,b⟩:Spn)]) (b:=b) hlt)
    generalize (XA[k]!).at_=xa at *
    generalize atS [(⟨a,b⟩:Spn)] b (XA.take k)=O at *
    have KIr:=KI.out.below hbr KI.out.lt
    have hil:=KIr.lt
    have s1:=KIr.cl 1 _ rfl
    have hdr:Below wr.heap.size wr wr.drew:=Zz2 bLR 1
    have HOD:=Hh (Zzb hown hdr)
    have HOW:=Hh hown
    have HBR:=Hh hbr
    have hsz:=hbr.size
    have HS:=Hh (fun w' (hb:Below wr.heap.size wr w')=>And.intro (hbr.trans (hb.mono hbr.size)) (And.intro ((hb.cell (p:=⟨gx,ox+k*4,none⟩) hgx).trans e0) ((hb.cell (p:=⟨w.heap.size+2,1,none⟩) hil).trans s1)))
    subst hAx
    have hgo:u12.ownBlock≠some gx:=Zz22 hown hgx2
    have hio:u12.ownBlock≠some (w.heap.size+2):=Zz22 hown KI.out.lt
    clear hcx hown hbr
    go_wp2_with fail
    go_region_held3 (fun w'=>Below w2.heap.size w2 w'∧w'.cell? ⟨gx,ox+k*4,none⟩=some (.int .i64 xa)∧w'.cell? ⟨w.heap.size+2,1,none⟩=some (.int .i64 b)) (first|exact HS.out _ hdr|exact HS.out _ (hdr.alloc hdr.size _)|exact K8|go_keep)
     ((refine step_append_lies _ (by rfl) _ _ _ (by rfl) w2.heap.size 29 i0 _ 2 16 Tryz.underlying33 hi0 hz0 hz1 hz2 rfl (by omega) _ _ _ (by rfl) (HOD.out.alloc _) ⟨_,0,none⟩ 1 1 (encN ⟨xa,b⟩) (by rfl) (by rfl) (World.news_of_block (cs:=(encN ⟨xa,b⟩).toArray) (t:=29) (fr:=(0,0)) (heap_alloc_new _ _)) (Zzx _) (by omega) (by simp only [maxLen];omega) (by omega) (by simp;omega) _ rfl ?_;intro gg cap w8 hown8 hg8 hat8 hlt8;have hA8:=hdr.alloc hdr.size (.cells (encN ⟨xa,b⟩).toArray 29);have B8:=Zz5 HOW.out nlR (HBR.out.trans (hA8.mono hsz)) hg8;have K8:=And.intro B8 (And.intro ((hg8.cell_far ⟨gx,ox+k*4,none⟩ (nLl hgx hA8.size) (fun e=>hgo e.symm)).trans ((hA8.cell (p:=⟨gx,ox+k*4,none⟩) hgx).trans e0)) ((hg8.cell_far ⟨w.heap.size+2,1,none⟩ (nLl hil hA8.size) (fun e=>hio e.symm)).trans ((hA8.cell (p:=⟨w.heap.size+2,1,none⟩) hil).trans s1)))))
    have OW:=Zzs (es:=O) (x:=(⟨xa,b⟩:Spn)) hown8
    have BW:=K8.1
    clear HS hdr K8 s1 e0
    go_wp2
    go_roundw
    case rel=>exact ⟨k+1,by omega,by go_num,by rw [HST.out];exact OW,BW⟩
    case measure=>simp [intOf];omega
  ·have hke:k=XA.length:=by omega
   subst hke
   rw [List.take_length] at hown
   have HOW:=Hh hown
   have HBR:=Hh hbr
   clear hown hbr hk
   generalize hq:wr=w4 at *
   clear hq
   generalize hT1:atS [⟨a,b⟩] b XA=T1 at *
   have hl1:T1.length=1+XA.length:=by rw [←hT1,atS_all];rfl
   have HT1:=Hh hT1
   clear hT1
   obtain ⟨A4,c4,rfl⟩:=ZzA HOW.out
   go_wp2_with fail
   go_loopw [12,14] (fun v12 vi wr=>∃ k:Nat,k≤XB.length∧vi=.int .i64 k∧wr.ownsRow w2.heap.size 29 2 v12 (atS T1 b (XB.take k)).length ((atS T1 b (XB.take k)).flatMap encN)∧Below w2.heap.size w2 wr) (fun _ vi _=>XB.length-(intOf vi).toNat)
   case atStart=>exact ⟨0,Nat.zero_le _,rfl,by simpa [atS] using HOW.out,HBR.out⟩
   case round =>
    obtain ⟨k,hk,rfl,hown,hbr⟩:=hrel
    by_cases hlt:k<XB.length
    ·have hol:=atS_len T1 b XB k
     have hS1:(T1).length≤401:=by first|omega|simp
     have hgb:0<XB.length:=by omega
     obtain ⟨gx,ox,hAx,hgx2,hcx⟩:=rd_blkT R2.out hgb
     ·have e0:=(hcx wr hbr k hlt).1
      have hgx:gx<wr.heap.size:=nLl hgx2 hbr.size
      have HST:=Hh (atS_step (S:=T1) (b:=b) hlt)
      generalize (XB[k]!).at_=xa at *
      generalize atS T1 b (XB.take k)=O at *
      have KIr:=KI.out.below hbr KI.out.lt
      have hil:=KIr.lt
      have s1:=KIr.cl 1 _ rfl
      have hdr:Below wr.heap.size wr wr.drew:=Zz2 bLR 1
      have HOD:=Hh (Zzb hown hdr)
      have HOW:=Hh hown
      have HBR:=Hh hbr
      have hsz:=hbr.size
      have HS:=Hh (fun w' (hb:Below wr.heap.size wr w')=>And.intro (hbr.trans (hb.mono hbr.size)) (And.intro ((hb.cell (p:=⟨gx,ox+k*4,none⟩) hgx).trans e0) ((hb.cell (p:=⟨w.heap.size+2,1,none⟩) hil).trans s1)))
      subst hAx
      have hgo:u12.ownBlock≠some gx:=Zz22 hown hgx2
      have hio:u12.ownBlock≠some (w.heap.size+2):=Zz22 hown KI.out.lt
      clear hcx hown hbr
      go_wp2_with fail
      go_region_held3 (fun w'=>Below w2.heap.size w2 w'∧w'.cell? ⟨gx,ox+k*4,none⟩=some (.int .i64 xa)∧w'.cell? ⟨w.heap.size+2,1,none⟩=some (.int .i64 b)) (first|exact HS.out _ hdr|exact HS.out _ (hdr.alloc hdr.size _)|exact K8|go_keep)
       ((refine step_append_lies _ (by rfl) _ _ _ (by rfl) w2.heap.size 29 i0 _ 2 16 Tryz.underlying33 hi0 hz0 hz1 hz2 rfl (by omega) _ _ _ (by rfl) (HOD.out.alloc _) ⟨_,0,none⟩ 1 1 (encN ⟨xa,b⟩) (by rfl) (by rfl) (World.news_of_block (cs:=(encN ⟨xa,b⟩).toArray) (t:=29) (fr:=(0,0)) (heap_alloc_new _ _)) (Zzx _) (by omega) (by simp only [maxLen];omega) (by omega) (by simp;omega) _ rfl ?_;intro gg cap w8 hown8 hg8 hat8 hlt8;have hA8:=hdr.alloc hdr.size (.cells (encN ⟨xa,b⟩).toArray 29);have B8:=Zz5 HOW.out nlR (HBR.out.trans (hA8.mono hsz)) hg8;have K8:=And.intro B8 (And.intro ((hg8.cell_far ⟨gx,ox+k*4,none⟩ (nLl hgx hA8.size) (fun e=>hgo e.symm)).trans ((hA8.cell (p:=⟨gx,ox+k*4,none⟩) hgx).trans e0)) ((hg8.cell_far ⟨w.heap.size+2,1,none⟩ (nLl hil hA8.size) (fun e=>hio e.symm)).trans ((hA8.cell (p:=⟨w.heap.size+2,1,none⟩) hil).trans s1)))))
      have OW:=Zzs (es:=O) (x:=(⟨xa,b⟩:Spn)) hown8
      have BW:=K8.1
      clear HS hdr K8 s1 e0
      go_wp2
      go_roundw
      case rel=>exact ⟨k+1,by omega,by go_num,by rw [HST.out];exact OW,BW⟩
      case measure=>simp [intOf];omega
    ·have hke:k=XB.length:=by omega
     subst hke
     rw [List.take_length] at hown
     have HOW:=Hh hown
     have HBR:=Hh hbr
     clear hown hbr hk
     generalize hq:wr=w5 at *
     clear hq
     rw [←HES.out] at HOW
     have hSl:(endsS za zb a b).length≤801:=by rw [HES.out,atS_all];omega
     have hEl:=Zz3S (endsS za zb a b) []
     rw [List.length_nil] at hEl
     have hasc:=Zz2I (S:=endsS za zb a b) (l:=[]) List.Pairwise.nil
     have HRS:=Hh (Zz8 Zzz HOW.out rfl)
     obtain ⟨A5,c5,rfl⟩:=ZzA HOW.out
     generalize hSS:endsS za zb a b=SS at *
     have HSS:=Hh hSS
     clear hSS
     go_wp2_with fail
     refine (r12_Ends SS _ _ HRS.out (by omega)).mono ?_
     rintro e w6 ⟨v6,rfl,n6,hb6⟩
     generalize hLL:endsI SS []=L at *
     have HLL:=Hh hLL
     clear hLL
     have hB6:=HBR.out.trans (hb6.mono HBR.out.size)
     have HR6:=Hh n6.rd
     obtain ⟨A6,c6,rfl⟩:=Zzh HR6.out
     have KA:=Hh (KA.out.below hB6 KA.out.lt)
     have KB:=Hh (KB.out.below hB6 KB.out.lt)
     have hB60:=hB2.trans (hB6.mono hB2.size)
     have HASC:=Hh hasc
     clear n6 hasc HOW HRS HBR hb6 hB6 KI R1 R2
     go_wp2_with fail
     go_loopw [16,17] (fun v16 vi wr=>∃ (k:Nat) (O:List Spn),k≤L.length∧vi=.int .i64 k∧O.length≤k∧wr.ownsRow w6.heap.size 29 2 v16 O.length (O.flatMap encN)∧Below w6.heap.size w6 wr∧Hid (runsI (difP za zb) L []=runsI (difP za zb) (L.drop k) O)) (fun _ vi _=>L.length-(intOf vi).toNat)
     case atStart=>exact ⟨0,[],Nat.zero_le _,rfl,Nat.le_refl _,⟨rfl,.inl ⟨rfl,rfl⟩⟩,Below.refl _ _,Hh rfl⟩
     case round =>
      obtain ⟨k,O,hk,rfl,hOk,hown,hbr,HRU⟩:=hrel
      have HOW:=Hh hown
      have HBR:=Hh hbr
      obtain ⟨A7,c7,rfl⟩:=ZzA hown
      by_cases hlt:k+1<L.length
      ·have hlt1:(k:Int)+1<(L.length:Int):=by omega
       have hx1:=HBD.out _ (show L[k]! ∈ L by rw [getElem!_pos L k (by omega)];exact List.getElem_mem _)
       have hx2:=HBD.out _ (show L[k+1]! ∈ L by rw [getElem!_pos L (k+1) hlt];exact List.getElem_mem _)
       have hx3:=asc_next HASC.out hlt
       have HSTEP:=Hh (runsI_drop (difP za zb) hlt O)
       obtain ⟨gE,oE,hAE,hgE,hcE⟩:∃ g off,A6=some ⟨g,off,none⟩∧g<wr.heap.size∧∀ j,j<L.length→wr.cell? ⟨g,off+j,none⟩=some (.int .i64 L[j]!):=by
        rcases HR6.out.on hbr with ⟨h0,_⟩|⟨g,off,c',hv',hg,hc⟩
        ·rw [h0] at hlt;simp at hlt
        ·injection hv' with hv1 _ _
         refine ⟨g,off,hv1,hg,fun j hj=>?_⟩
         have:=hc j hj 0 _ rfl
         rwa [Nat.add_zero,Nat.mul_one] at this
       have f0:=hcE k (by omega)
       have f1:=hcE (k+1) hlt
       have hgE6:gE<w6.heap.size:=by
        rcases HR6.out with ⟨h0,_⟩|⟨g,off,c',hv',hg,hc⟩
        ·rw [h0] at hlt;simp at hlt
        ·injection hv' with hv1 _ _
         rw [hAE] at hv1
         injection hv1 with hv1
         injection hv1 with hv1 _ _
         omega
       generalize L[k]! = x at *
       generalize L[k+1]! = y at *
       subst hAE
       have hB7:=hB60.trans (hbr.mono hB60.size)
       have HA1:=HTA.out x (by omega) (by omega)
       have HA2:=HTB.out x (by omega) (by omega)
       have hdp:difP za zb x=decide (za.typF x≠zb.typF x):=rfl
       rw [hdp] at HSTEP
       generalize za.typF x=X at *
       generalize zb.typF x=Y at *
       have H2:=Hh (fun arg v h W (hb:Below wr.heap.size wr W)=>twoAt_of HA1 HA2 (arg:=arg) (v:=v) h (hB7.trans (hb.mono hB7.size)))
       have HSM:=Hh (fun W=>r24_same X Y W)
       have Ka:=KA.out.below hbr KA.out.lt
       have a0:=Ka.cl 0 _ rfl
       have a1:=Ka.cl 1 _ rfl
       have a2:=Ka.cl 2 _ rfl
       have a3:=Ka.cl 3 _ rfl
       have a4:=Ka.cl 4 _ rfl
       have a5:=Ka.cl 5 _ rfl
       have a6:=Ka.cl 6 _ rfl
       have a7:=Ka.cl 7 _ rfl
       have a8:=Ka.cl 8 _ rfl
       have Kb:=KB.out.below hbr KB.out.lt
       have b0:=Kb.cl 0 _ rfl
       have b1:=Kb.cl 1 _ rfl
       have b2:=Kb.cl 2 _ rfl
       have b3:=Kb.cl 3 _ rfl
       have b4:=Kb.cl 4 _ rfl
       have b5:=Kb.cl 5 _ rfl
       have b6:=Kb.cl 6 _ rfl
       have b7:=Kb.cl 7 _ rfl
       have b8:=Kb.cl 8 _ rfl
       have pa0:∀ q:Bel wr.heap.size wr,q.w1.cell? ⟨w.heap.size,0,none⟩=some (.string za.nm):=fun q=>(Zze q _ _ Ka.lt).trans a0
       have pa1:∀ q:Bel wr.heap.size wr,q.w1.cell? ⟨w.heap.size,1,none⟩=some (.int .i64 za.first.off):=fun q=>(Zze q _ _ Ka.lt).trans a1
       have pa2:∀ q:Bel wr.heap.size wr,q.w1.cell? ⟨w.heap.size,2,none⟩=some (.int .i64 za.first.sv):=fun q=>(Zze q _ _ Ka.lt).trans a2
       have pa3:∀ q:Bel wr.heap.size wr,q.w1.cell? ⟨w.heap.size,3,none⟩=some (.string za.first.nm):=fun q=>(Zze q _ _ Ka.lt).trans a3
       have pa4:∀ q:Bel wr.heap.size wr,q.w1.cell? ⟨w.heap.size,4,none⟩=some (.slice AT za.table.length cT):=fun q=>(Zze q _ _ Ka.lt).trans a4
       have pa5:∀ q:Bel wr.heap.size wr,q.w1.cell? ⟨w.heap.size,5,none⟩=some (.slice AR za.tail.length cR):=fun q=>(Zze q _ _ Ka.lt).trans a5
       have pa6:∀ q:Bel wr.heap.size wr,q.w1.cell? ⟨w.heap.size,6,none⟩=some (.int .i64 za.off):=fun q=>(Zze q _ _ Ka.lt).trans a6
       have pa7:∀ q:Bel wr.heap.size wr,q.w1.cell? ⟨w.heap.size,7,none⟩=some (.string za.form):=fun q=>(Zze q _ _ Ka.lt).trans a7
       have pa8:∀ q:Bel wr.heap.size wr,q.w1.cell? ⟨w.heap.size,8,none⟩=some (.int .i64 za.year):=fun q=>(Zze q _ _ Ka.lt).trans a8
       have pb0:∀ q:Bel wr.heap.size wr,q.w1.cell? ⟨w.heap.size+1,0,none⟩=some (.string zb.nm):=fun q=>(Zze q _ _ Kb.lt).trans b0
       have pb1:∀ q:Bel wr.heap.size wr,q.w1.cell? ⟨w.heap.size+1,1,none⟩=some (.int .i64 zb.first.off):=fun q=>(Zze q _ _ Kb.lt).trans b1
       have pb2:∀ q:Bel wr.heap.size wr,q.w1.cell? ⟨w.heap.size+1,2,none⟩=some (.int .i64 zb.first.sv):=fun q=>(Zze q _ _ Kb.lt).trans b2
       have pb3:∀ q:Bel wr.heap.size wr,q.w1.cell? ⟨w.heap.size+1,3,none⟩=some (.string zb.first.nm):=fun q=>(Zze q _ _ Kb.lt).trans b3
       have pb4:∀ q:Bel wr.heap.size wr,q.w1.cell? ⟨w.heap.size+1,4,none⟩=some (.slice AU zb.table.length cU):=fun q=>(Zze q _ _ Kb.lt).trans b4
       have pb5:∀ q:Bel wr.heap.size wr,q.w1.cell? ⟨w.heap.size+1,5,none⟩=some (.slice AS zb.tail.length cS):=fun q=>(Zze q _ _ Kb.lt).trans b5
       have pb6:∀ q:Bel wr.heap.size wr,q.w1.cell? ⟨w.heap.size+1,6,none⟩=some (.int .i64 zb.off):=fun q=>(Zze q _ _ Kb.lt).trans b6
       have pb7:∀ q:Bel wr.heap.size wr,q.w1.cell? ⟨w.heap.size+1,7,none⟩=some (.string zb.form):=fun q=>(Zze q _ _ Kb.lt).trans b7
       have pb8:∀ q:Bel wr.heap.size wr,q.w1.cell? ⟨w.heap.size+1,8,none⟩=some (.int .i64 zb.year):=fun q=>(Zze q _ _ Kb.lt).trans b8
       have pe:∀ q:Bel wr.heap.size wr,q.w1.cell? ⟨gE,oE+k,none⟩=some (.int .i64 x):=fun q=>(Zze q _ _ hgE).trans f0
       clear hcE hown hbr HA1 HA2 hdp
       by_cases hXY:X=Y
       ·have hdt:decide (X=Y)=true:=dTt hXY
        rw [hdt] at HSM
        have HS2:=Hh (show runsI (difP za zb) L []=runsI (difP za zb) (L.drop (k+1)) O by rw [HRU.out,HSTEP.out,if_neg (by simp [hXY])])
        clear hXY hdt HSTEP HRU
        go_wp2_with fail
        refine Zzo (by kernel_rfl) (by kernel_rfl) ?_
        repeat (go_big_quiet_step (first|(go_at_call 32;exact bel_of nlR (H2.out _ _ (by first|exact .inl ⟨rfl,rfl⟩|exact .inr ⟨rfl,rfl⟩) _ (Bel.h _)))|(go_at_call 31;exact bel_of nlR (HSM.out _))))
        refine wpQuiet_nil ?_
        intro w7 hw7
        obtain ⟨⟨w7,hb7⟩,hw'⟩:=hw7
        subst hw'
        have hB67:=HBR.out.trans (hb7.mono HBR.out.size)
        have HO7:=Hh (Zzb HOW.out hb7)
        clear f0 f1 pa0 pa1 pa2 pa3 pa4 pa5 pa6 pa7 pa8 pb0 pb1 pb2 pb3 pb4 pb5 pb6 pb7 pb8 pe Ka Kb a0 a1 a2 a3 a4 a5 a6 a7 a8 b0 b1 b2 b3 b4 b5 b6 b7 b8
        go_wp2
        go_roundw
        case rel=>exact ⟨k+1,O,by omega,by go_num,by omega,HO7.out,hB67,HS2⟩
        case measure=>simp [intOf];omega
       ·have hdt:decide (X=Y)=false:=dFf hXY
        rw [hdt] at HSM
        have HS2:=Hh (show runsI (difP za zb) L []=runsI (difP za zb) (L.drop (k+1)) (addS O ⟨x,y⟩) by rw [HRU.out,HSTEP.out,if_pos (by simp [hXY])])
        clear hXY hdt HSTEP HRU
        go_wp2_with fail
        refine Zzo (by kernel_rfl) (by kernel_rfl) ?_
        repeat (go_big_quiet_step (first|(go_at_call 32;exact bel_of nlR (H2.out _ _ (by first|exact .inl ⟨rfl,rfl⟩|exact .inr ⟨rfl,rfl⟩) _ (Bel.h _)))|(go_at_call 31;exact bel_of nlR (HSM.out _))))
        refine wpQuiet_nil ?_
        intro w7 hw7
        obtain ⟨⟨w7,hb7⟩,hw'⟩:=hw7
        subst hw'
        have hB67:=HBR.out.trans (hb7.mono HBR.out.size)
        have HO7:=Hh (Zzb HOW.out hb7)
        have e0:=(hb7.cell (p:=⟨gE,oE+k,none⟩) hgE).trans f0
        have e1:=(hb7.cell (p:=⟨gE,oE+(k+1),none⟩) hgE).trans f1
        have hgE7:=nLl hgE hb7.size
        have hwk:IntKind.i64.wrap ((k:Int)+1)=(k:Int)+1:=by rw [IntKind.wrap_i64];omega
        have hsz7:=hB67.size
        clear f0 f1 pa0 pa1 pa2 pa3 pa4 pa5 pa6 pa7 pa8 pb0 pb1 pb2 pb3 pb4 pb5 pb6 pb7 pb8 pe Ka Kb a0 a1 a2 a3 a4 a5 a6 a7 a8 b0 b1 b2 b3 b4 b5 b6 b7 b8
        have hdr:Below w7.heap.size w7 w7.drew:=Zz2 bLR 1
        have hdr6:Below w6.heap.size w6 w7.drew:=hB67.trans (hdr.mono hsz7)
        have HOD:=Hh (Zzb HO7.out hdr)
        have HS:=Hh (fun w' (hb:Below w7.heap.size w7 w')=>And.intro (hB67.trans (hb.mono hsz7)) (And.intro ((hb.cell (p:=⟨gE,oE+k,none⟩) hgE7).trans e0) ((hb.cell (p:=⟨gE,oE+(k+1),none⟩) hgE7).trans e1)))
        have hidx0:(0:Int)≤(k:Int)+1:=by omega
        have hidx1:((k:Int)+1).toNat=k+1:=by omega
        have hk0:(0:Int)≤(k:Int):=by omega
        have hk1:(k:Int)<(L.length:Int):=by omega
        have hOl:O.length≤100000:=by omega
        have hszA:=nLt hsz7 hdr.size
        go_wp2_with fail
        go_region_held3 (fun w'=>Below w6.heap.size w6 w'∧w'.cell? ⟨gE,oE+k,none⟩=some (.int .i64 x)∧w'.cell? ⟨gE,oE+(k+1),none⟩=some (.int .i64 y)) (first|exact HS.out _ hdr|exact K8|go_keep)
         ((go_at_call 33;refine (r12_Add O ⟨x,y⟩ _ w6.heap.size _ hOl hszA HOD.out).mono ?_;rintro e w8 ⟨v8,rfl,o8,hb8,_⟩;have B8:=hdr6.trans hb8;have K8:=And.intro B8 (And.intro ((hb8.cell (p:=⟨gE,oE+k,none⟩) hgE6).trans ((hdr.cell (p:=⟨gE,oE+k,none⟩) hgE7).trans e0)) ((hb8.cell (p:=⟨gE,oE+(k+1),none⟩) hgE6).trans ((hdr.cell (p:=⟨gE,oE+(k+1),none⟩) hgE7).trans e1)))))
        have hal:=addS_len2 O ⟨x,y⟩
        clear HS hdr e0 e1 hwk hidx0 hidx1 hk0 hk1
        go_wp2
        go_roundw
        case rel=>exact ⟨k+1,addS O ⟨x,y⟩,by omega,by go_num,by omega,o8,K8.1,HS2⟩
        case measure=>simp [intOf];omega
      ·have hge:¬ (k:Int)+1<(L.length:Int):=by omega
       have HFIN:=Hh (show runsI (difP za zb) L []=O by rw [HRU.out,runsI_end _ (by omega)])
       have d5:decide ((2000:Int)<(O.length:Int))=false:=dFf (by omega)
       have hB9:=hB60.trans (hbr.mono hB60.size)
       clear HRU hown hbr
       go_wp2_with fail
       go_ret2
       exact ⟨_,rfl,by rw [HSS.out,HLL.out,HFIN.out];exact Zz8 Zzz HOW.out rfl,hB9⟩
end Go.Proofs.YtmmgdjgcikbhbaaGreat

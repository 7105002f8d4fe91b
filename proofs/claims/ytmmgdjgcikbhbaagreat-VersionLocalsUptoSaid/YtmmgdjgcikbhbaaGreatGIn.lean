/- Joined by merge.py: InsR, Ref12s, Ref12e, Ref12a, Ref24i. -/
import Derived.Test.YtmmgdjgcikbhbaaGreatGIi
/- The runs in which two zones differ, as the reference of layer 24 gathers them. No program in sight. -/
open Go.Value renaming int → C, slice → F
open Go.IntKind renaming i64 → D
open Option renaming none → G
open Go.Obj renaming cells → H
namespace Go.Proofs.YtmmgdjgcikbhbaaGreat
set_option linter.unusedSimpArgs false
set_option linter.unusedVariables false
def insI (l:List Int) (x:Int):List Int:=if x∈l then l else l.filter (fun y=>decide (y<x))++x :: l.filter (fun y=>decide (x<y))
theorem insI_mem {l:List Int} {x y:Int}:y∈insI l x↔y∈l∨y=x:=by
 unfold insI
 split
 ·rename_i h
  constructor
  ·exact .inl
  rintro (h1|rfl)
  ·exact h1
  exact h
 rw [List.mem_append,List.mem_cons,List.mem_filter,List.mem_filter]
 simp only [decide_eq_true_eq]
 constructor
 ·rintro (⟨h1,_⟩|rfl|⟨h1,_⟩)
  ·exact .inl h1
  ·exact .inr rfl
  exact .inl h1
 rintro (h1|rfl)
 ·rcases Int.lt_trichotomy y x with h2|h2|h2
  ·exact .inl ⟨h1,h2⟩
  ·exact .inr (.inl h2)
  exact .inr (.inr ⟨h1,h2⟩)
 exact .inr (.inl rfl)
theorem Zz5F {l:List Int} {x:Int} (h:l.Pairwise (· < ·)):(insI l x).Pairwise (· < ·):=by
 unfold insI
 split
 ·exact h
 refine List.pairwise_append.2 ⟨h.filter _,List.pairwise_cons.2 ⟨fun y hy=>?_,h.filter _⟩,fun a ha b hb=>?_⟩
 ·simpa using (List.mem_filter.1 hy).2
 have h1:a<x:=by simpa using (List.mem_filter.1 ha).2
 rcases List.mem_cons.1 hb with rfl|hb
 ·exact h1
 have h2:x<b:=by simpa using (List.mem_filter.1 hb).2
 omega
theorem Zz2m (l:List Int) (x:Int):(insI l x).length≤l.length+1:=by
 unfold insI
 split
 ·omega
 have h1:(l.filter fun y=>decide (y<x)).length+(l.filter fun y=>decide (x<y)).length≤l.length:=by
  induction l with
  | nil=>simp
  | cons a l ih =>
   have ih:=ih (by rename_i h;exact fun hc=>h (List.mem_cons_of_mem _ hc))
   simp only [List.filter_cons,List.length_cons]
   by_cases h1:a<x
   ·have h2:¬ x<a:=by omega
    simp [h1,h2]
    omega
   by_cases h2:x<a
   ·simp [h1,h2]
    omega
   simp [h1,h2]
   omega
 simp only [List.length_append,List.length_cons]
 omega
def endsI:List Spn→List Int→List Int
 | [],l=>l
 | s :: S,l=>endsI S (insI (insI l s.fr) s.to)
theorem Zz6s:∀ {S:List Spn} {l:List Int} {y:Int},y∈endsI S l↔y∈l∨∃ s∈S,y=s.fr∨y=s.to
 | [],l,y=>by simp [endsI]
 | s :: S,l,y=>by
  rw [endsI,Zz6s,insI_mem,insI_mem]
  constructor
  ·rintro (((h|h)|h)|⟨u,hu,h⟩)
   ·exact .inl h
   ·exact .inr ⟨s,List.mem_cons_self,.inl h⟩
   ·exact .inr ⟨s,List.mem_cons_self,.inr h⟩
   exact .inr ⟨u,List.mem_cons_of_mem _ hu,h⟩
  rintro (h|⟨u,hu,h⟩)
  ·exact .inl (.inl (.inl h))
  rcases List.mem_cons.1 hu with rfl|hu
  ·rcases h with h|h
   ·exact .inl (.inl (.inr h))
   exact .inl (.inr h)
  exact .inr ⟨u,hu,h⟩
theorem Zz24:∀ {S:List Spn} {l:List Int},l.Pairwise (· < ·)→(endsI S l).Pairwise (· < ·)
 | [],_,h=>h
 | s :: S,l,h=>by rw [endsI];exact Zz24 (Zz5F (Zz5F h))
def addS (out:List Spn) (s:Spn):List Spn:=if 0<out.length∧(out[out.length-1]!).to=s.fr then out.set (out.length-1) ⟨(out[out.length-1]!).fr,s.to⟩ else out++[s]
theorem addS_nil (s:Spn):addS [] s=[s]:=by unfold addS;rw [if_neg (by simp)];rfl
theorem addS_snoc (o:List Spn) (r s:Spn):addS (o++[r]) s=if r.to=s.fr then o++[⟨r.fr,s.to⟩] else o++[r]++[s]:=by
 have e1:(o++[r]).length-1=o.length:=by simp
 have e2:(o++[r])[(o++[r]).length-1]! = r:=by
  rw [e1,getElem!_pos (o++[r]) o.length (by simp)]
  simp
 unfold addS
 rw [e2,e1]
 by_cases h:r.to=s.fr
 ·rw [if_pos ⟨by simp,h⟩,if_pos h,List.set_append_right _ _ nlR]
  simp
 rw [if_neg (by simp [h]),if_neg h]
theorem addS_ok {out:List Spn} {x y:Int} (hc:Canon out) (hl:∀ s∈out,s.to≤x) (hxy:x<y):Canon (addS out ⟨x,y⟩)∧(∀ t,hasL (addS out ⟨x,y⟩) t↔hasL out t∨(x≤t∧t<y))∧∀ s∈addS out ⟨x,y⟩,s.to≤y:=by
 by_cases h0:out=[]
 ·subst h0
  rw [addS_nil]
  refine ⟨Zz6i hxy,fun t=>?_,fun s hs=>by rw [List.mem_singleton] at hs;subst hs;exact Int.le_refl _⟩
  rw [ZzD]
  exact ⟨.inr,fun h=>h.resolve_left (ZzY t)⟩
 obtain ⟨o,r,rfl⟩:∃ o r,out=o++[r]:=⟨out.dropLast,out.getLast h0,(List.dropLast_concat_getLast h0).symm⟩
 have hr:=hl r (by simp)
 have hrn:=hc.ne r (by simp)
 have hp:=List.pairwise_append.1 hc.asc
 rw [addS_snoc]
 by_cases he:r.to=x
 ·rw [if_pos he]
  refine ⟨⟨List.pairwise_append.2 ⟨hp.1,List.pairwise_singleton _ _,fun a ha b hb=>?_⟩,fun s hs=>?_⟩,fun t=>?_,fun s hs=>?_⟩
  ·rw [List.mem_singleton] at hb;subst hb
   exact hp.2.2 a ha r (List.mem_singleton.2 rfl)
  ·rcases List.mem_append.1 hs with hs|hs
   ·exact hc.ne s (List.mem_append_left _ hs)
   rw [List.mem_singleton] at hs;subst hs
   show r.fr<y
   omega
  ·rw [Zzm,Zzm,ZzD,ZzD,or_assoc]
   unfold Spn.has
   dsimp only
   constructor
   ·rintro (h|h)
    ·exact .inl h
    rcases Int.lt_or_le t x with h1|h1
    ·exact .inr (.inl ⟨h.1,by omega⟩)
    exact .inr (.inr ⟨h1,h.2⟩)
   rintro (h|h|h)
   ·exact .inl h
   ·exact .inr ⟨h.1,by omega⟩
   exact .inr ⟨by omega,h.2⟩
  rcases List.mem_append.1 hs with hs|hs
  ·have:=hl s (List.mem_append_left _ hs);omega
  rw [List.mem_singleton] at hs;subst hs;exact Int.le_refl _
 rw [if_neg he]
 refine ⟨⟨List.pairwise_append.2 ⟨hc.asc,List.pairwise_singleton _ _,fun a ha b hb=>?_⟩,fun s hs=>?_⟩,fun t=>?_,fun s hs=>?_⟩
 ·rw [List.mem_singleton] at hb;subst hb
  show a.to<x
  have h1:=hl a ha
  rcases List.mem_append.1 ha with h2|h2
  ·have h3:=hp.2.2 a h2 r (List.mem_singleton.2 rfl)
   omega
  rw [List.mem_singleton] at h2;subst h2
  omega
 ·rcases List.mem_append.1 hs with hs|hs
  ·exact hc.ne s hs
  rw [List.mem_singleton] at hs;subst hs;exact hxy
 ·rw [Zzm,ZzD];exact Iff.rfl
 rcases List.mem_append.1 hs with hs|hs
 ·have:=hl s hs;omega
 rw [List.mem_singleton] at hs;subst hs;exact Int.le_refl _
/- The reference's ends of spans: insert, Ends, Add. Printed by gen_ref12s.py. -/
open Go.ChangeShapes Go.WideShapes Go.ChangeAt Go.RowKit
def encW1 (t:Int):List Value:=[C D t]
theorem ZzB (t:Int):(encW1 t).length=1:=rfl
theorem Zzq (t:Int):∀ v∈encW1 t,v.oneCell'=true:=fun v h=>by rw [List.mem_singleton.1 h];rfl
theorem Zz1a {w:World} {base n:Nat} {e:TypeId} {v:Value} {xs:List Value} (h:w.ownsRow base e 1 v n xs):∃ A c,v=F A n c:=by
 rcases h.2 with ⟨rfl,rfl⟩|⟨g,cap,cur,rfl,_⟩
 ·exact ⟨none,0,rfl⟩
 exact ⟨_,_,rfl⟩
theorem Zz5G (l:List Int) (x:Int):0<(insI l x).length:=by
 unfold insI
 split
 ·rename_i h;exact List.length_pos_of_mem h
 rw [List.length_append,List.length_cons];omega
theorem Zz4I {l:List Int} {x:Int} {i:Nat} (hi:i<l.length) (h:l[i]! = x):insI l x=l:=by
 unfold insI
 rw [if_pos (by rw [←h,getElem!_pos l i hi];exact List.getElem_mem hi)]
theorem ins_put {l:List Int} {x:Int} {i:Nat} (hs:l.Pairwise (· < ·)) (hi:i≤l.length) (h1:∀ j,i≤j→j<l.length→x≤l[j]!) (h2:i=0∨l[i-1]! < x) (h3:i=l.length∨l[i]! ≠ x) :
  l.take i++x :: l.drop i=insI l x:=by
 have ht:∀ a∈l.take i,a<x:=fun a ha=>by
  obtain ⟨j,hj,rfl⟩:=List.getElem_of_mem ha
  rw [List.length_take] at hj
  rw [List.getElem_take]
  rcases h2 with h2|h2
  ·omega
  rw [getElem!_pos l (i-1) (by omega)] at h2
  rcases Nat.lt_or_eq_of_le (show j≤i-1 by omega) with h4|h4
  ·have:=(List.pairwise_iff_getElem.1 hs) j (i-1) (by omega) (by omega) h4
   omega
  simp only [h4];exact h2
 have hd:∀ a∈l.drop i,x<a:=fun a ha=>by
  obtain ⟨j,hj,rfl⟩:=List.getElem_of_mem ha
  rw [List.length_drop] at hj
  rw [List.getElem_drop]
  have h4:=h1 (i+j) (by omega) (by omega)
  rw [getElem!_pos l (i+j) (by omega)] at h4
  have h5:=h1 i nlR (by omega)
  rw [getElem!_pos l i (by omega)] at h5
  have h6:l[i]'(by omega)≠x:=by
   rcases h3 with h3|h3
   ·omega
   rwa [getElem!_pos l i (by omega)] at h3
  rcases Nat.eq_zero_or_pos j with h7|h7
  ·subst h7
   simp only [Nat.add_zero] at *
   omega
  have:=(List.pairwise_iff_getElem.1 hs) i (i+j) (by omega) (by omega) (by omega)
  omega
 have hno:x∉l:=fun h=>by
  rw [←List.take_append_drop i l] at h
  rcases List.mem_append.1 h with h|h
  ·have:=ht x h;omega
  have:=hd x h;omega
 unfold insI
 rw [if_neg hno]
 have e1:l.filter (fun y=>decide (y<x))=l.take i:=by
  conv=>lhs;rw [←List.take_append_drop i l]
  rw [List.filter_append,List.filter_eq_self.2 (fun a ha=>dTt (ht a ha)),List.filter_eq_nil_iff.2 (fun a ha hc=>by have:=hd a ha;have:=of_decide_eq_true hc;omega),List.append_nil]
 have e2:l.filter (fun y=>decide (x<y))=l.drop i:=by
  conv=>lhs;rw [←List.take_append_drop i l]
  rw [List.filter_append,List.filter_eq_nil_iff.2 (fun a ha hc=>by have:=ht a ha;have:=of_decide_eq_true hc;omega),List.nil_append,List.filter_eq_self.2 (fun a ha=>dTt (hd a ha))]
 rw [e1,e2]
theorem Zz5Y {l:List Int} {i g off c:Nat} {w W:World} (hi:i≤l.length) (hg:g<w.heap.size) (hz:w.heap.size≤W.heap.size) (h:∀ j,j<l.length→∀ q u,(encW1 l[j]!)[q]? = some u→W.cell? ⟨g,off+j*1+q,G⟩=some u):Rd encW1 1 W (F (some ⟨g,off,G⟩) i c) (l.take i):=by
 have hl:(l.take i).length=i:=by rw [List.length_take];omega
 refine .inr ⟨g,off,c,by rw [hl],by omega,fun j hj q u hu=>?_⟩
 rw [hl] at hj
 have e:(l.take i)[j]! = l[j]! := by rw [getElem!_pos _ j (by omega),getElem!_pos l j (by omega)];simp
 rw [e] at hu
 exact h j (by omega) q u hu
theorem rd_dropI {l:List Int} {i g off c:Nat} {w W:World} (hcap:l.length≤c) (hi:i≤l.length) (hg:g<w.heap.size) (hz:w.heap.size≤W.heap.size) (h:∀ j,j<l.length→∀ q u,(encW1 l[j]!)[q]? = some u→W.cell? ⟨g,off+j*1+q,G⟩=some u) (cc:Nat):Rd encW1 1 W (F (if c=i then some ⟨g,off,G⟩ else some ⟨g,off+i,G⟩) (l.length-i) cc) (l.drop i):=by
 have hl:(l.drop i).length=l.length-i:=by rw [List.length_drop]
 by_cases hci:c=i
 ·have h0:l.length-i=0:=by omega
  rw [if_pos hci,h0]
  exact .inl ⟨List.eq_nil_of_length_eq_zero (hl.trans h0),_,_,rfl⟩
 rw [if_neg hci]
 refine .inr ⟨g,off+i,cc,by rw [hl],by omega,fun j hj q u hu=>?_⟩
 rw [hl] at hj
 have e:(l.drop i)[j]! = l[i+j]! := by rw [getElem!_pos _ j (by omega),getElem!_pos l (i+j) (by omega)];simp
 rw [e] at hu
 rw [show off+i+j*1+q=off+(i+j)*1+q by omega]
 exact h (i+j) (by omega) q u hu
theorem rd_drop2I {l:List Int} {i g off:Nat} {w W:World} (hi:i≤l.length) (hg:g<w.heap.size) (hz:w.heap.size≤W.heap.size) (h:∀ j,j<l.length→∀ q u,(encW1 l[j]!)[q]? = some u→W.cell? ⟨g,off+j*1+q,G⟩=some u) (cc:Nat):Rd encW1 1 W (F (some ⟨g,off+i,G⟩) (l.length-i) cc) (l.drop i):=by
 have hl:(l.drop i).length=l.length-i:=by rw [List.length_drop]
 refine .inr ⟨g,off+i,cc,by rw [hl],by omega,fun j hj q u hu=>?_⟩
 rw [hl] at hj
 have e:(l.drop i)[j]! = l[i+j]! := by rw [getElem!_pos _ j (by omega),getElem!_pos l (i+j) (by omega)];simp
 rw [e] at hu
 rw [show off+i+j*1+q=off+(i+j)*1+q by omega]
 exact h (i+j) (by omega) q u hu
theorem rd_drop0I {l:List Int} {g off:Nat} {w W:World} (hg:g<w.heap.size) (hz:w.heap.size≤W.heap.size) (h:∀ j,j<l.length→∀ q u,(encW1 l[j]!)[q]? = some u→W.cell? ⟨g,off+j*1+q,G⟩=some u) (cc:Nat):Rd encW1 1 W (F (some ⟨g,off,G⟩) l.length cc) (l.drop 0) :=
 .inr ⟨g,off,cc,rfl,by omega,h⟩
theorem Zz27 (w:World) (base:Nat) (hb:base≤w.heap.size):(w.alloc (H #[] 3)).ownsRow base 3 1 (F (some ⟨w.heap.size,0,G⟩) 0 0) 0 [] :=
 ⟨rfl,.inr ⟨w.heap.size,0,#[],rfl,hb,heap_alloc_new _ _,Nat.le_refl _,by simp [maxLen],rfl,rfl⟩⟩
def InsN (w:World) (v:Value) (l:List Int):Prop:=(v=F none 0 0∧l=[])∨(0<l.length∧Rd encW1 1 w v l∧Cap v)
theorem InsN.on {w w':World} {v:Value} {l:List Int} (h:InsN w v l) (hb:Below w.heap.size w w'):InsN w' v l:=by
 rcases h with h|⟨h1,h2,h3⟩
 ·exact .inl h
 exact .inr ⟨h1,h2.on hb,h3⟩
theorem InsN.rd {w:World} {v:Value} {l:List Int} (h:InsN w v l):Rd encW1 1 w v l:=by
 rcases h with ⟨rfl,rfl⟩|⟨_,h2,_⟩
 ·exact .inl ⟨rfl,none,0,rfl⟩
 exact h2
set_option maxRecDepth 100000 in
set_option maxHeartbeats 4000000 in
theorem Zz3p (l:List Int) (x:Int) (g off c:Nat) (w:World) (hs:l.Pairwise (· < ·)) (hl:l.length≤1000000) (hcap:l.length≤c) (h0:0<l.length) (hg:g<w.heap.size)
  (hc:∀ j,j<l.length→∀ i u,(encW1 l[j]!)[i]? = some u→w.cell? ⟨g,off+j*1+i,G⟩=some u) :
  Calls Tryz.prog 68 #[F (some ⟨g,off,G⟩) l.length c,C D x] w fun e w'=>∃ v,e=.returned v∧InsN w' v (insI l x)∧Below w.heap.size w w':=by
 obtain ⟨i0,hi0,hz0,hz1,hz2⟩:=info_parts infoI
 have HS:=Hh hs
 have HC:=Hh hc
 have IN:=Hh (show InsN w (F (some ⟨g,off,G⟩) l.length c) l from .inr ⟨h0,.inr ⟨g,off,c,rfl,hg,hc⟩,fun A n c' hv=>by cases hv;exact hcap⟩)
 clear hs hc
 go_enter Tryz.func68,Tryz.ntmps68
 go_wp2
 go_loopw [5] (fun v5 wr=>∃ i:Nat,i≤l.length∧v5=C D i∧Hid (∀ j,i≤j→j<l.length→x≤l[j]!)∧Below w.heap.size w wr) (fun v5 _=>(intOf v5).toNat)
 case atStart=>exact ⟨l.length,Nat.le_refl _,rfl,fun j h1 h2=>absurd h2 (by omega),Below.refl _ _⟩
 case round =>
  obtain ⟨i,hi,rfl,HJ,hbw⟩:=hrel
  by_cases hi0':i=0
  ·subst hi0'
   have LO:=Hh (show (0:Nat)=0∨l[0-1]! < x from .inl rfl)
   by_cases hin:0<l.length
   ·have cx:wr.cell? ⟨g,off+0*1,G⟩=some (C D l[0]!):=(hbw.cell (p:=⟨g,off+0*1,G⟩) hg).trans (HC.out (0) hin 0 _ rfl)
    rw [Nat.mul_one,Nat.add_zero] at cx
    have hni:(0:Int)≤(0:Int):=by omega
    have hnl:(0:Int)<(l.length:Int):=by omega
    by_cases he:l[0]! = x
    ·have HE:=Hh (Zz4I hin he)
     rw [he] at cx
     go_wp2_with fail
     go_ret
     exact ⟨_,rfl,by rw [HE.out];exact IN.out.on hbw,hbw⟩
    have HP:=Hh (ins_put HS.out (i:=0) (by omega) HJ.out LO.out (.inr he))
    have z1:(l[0]! == x)=false:=by simpa using he
    generalize l[0]! = E at cx z1
    clear he
    have hcells:=fun (W:World) (hW:Below w.heap.size w W) (j:Nat) (hj:j<l.length) (q:Nat) (u:Value) (hu:(encW1 l[j]!)[q]? = some u)=>(hW.cell (p:=⟨g,off+j*1+q,G⟩) hg).trans (HC.out j hj q u hu)
    have HRT:=Hh (fun W hW=>Zz5Y (c:=c) (i:=0) (by omega) hg hW.size (hcells W hW))
    have HRD:=Hh (fun W hW cc=>rd_drop0I hg hW.size (hcells W hW) cc)
    clear hcells
    have HLT:=Hh (show (l.take (0)).length=0 by rw [List.length_take];omega)
    have HB0:=Hh hbw
    have OW:=Hh (Zz27 wr w.heap.size hbw.size)
    clear hbw
    go_wp2_with (first
     | (at_builtin;refine Zz4 rfl (.tmp 35) (.tmp 38) _ rfl w.heap.size 3 i0 _ 1 8 Tryz.underlying53 hi0 hz0 hz1 hz2 rfl (by decide) _ _ _ rfl OW.out encW1 ZzB Zzq _ rfl (l.take (0)) (HRT.out _ (HB0.out.alloc HB0.out.size _)) (by first|omega|(simp only [List.length_take,List.length_drop,maxLen];omega)|(simp [maxLen];omega)) (by first|omega|(simp only [List.length_take,List.length_drop,maxLen];omega)|(simp [maxLen];omega)) (by have:=HB0.out.size;simp;omega) ?_;intro v2 w2 hown2 hg2;rw [HLT.out,Nat.zero_add] at hown2;obtain ⟨A2,c2,rfl⟩:=Zz1a hown2;have hb2:=Zz3 OW.out nlR (HB0.out.alloc HB0.out.size _) hg2;have HO2:=Hh hown2;have HB2:=Hh hb2;clear hown2 hg2 hb2)
     | (at_builtin;refine wpList_append_own _ rfl _ _ _ rfl w.heap.size 3 i0 _ 1 8 Tryz.underlying53 hi0 hz0 hz1 hz2 rfl (by decide) _ _ _ rfl (HO2.out.alloc _) ⟨w2.heap.size,0,G⟩ 1 1 (encW1 x) rfl rfl (ZzS w2 _ _) (Zzq _) (by first|omega|(simp only [List.length_take,List.length_drop,maxLen];omega)|(simp [maxLen];omega)) (by first|omega|(simp only [List.length_take,List.length_drop,maxLen];omega)|(simp [maxLen];omega)) (by have:=HB2.out.size;simp;omega) ?_;intro v3 w3 hown3 hg3 _;obtain ⟨A3,c3,rfl⟩:=Zz1a hown3;have hb3:=Zz3 HO2.out nlR (HB2.out.alloc HB2.out.size _) hg3;have HO3:=Hh hown3;have HB3:=Hh hb3;clear hown3 hg3 hb3)
     | (at_builtin;refine Zz4 rfl (.tmp 44) (.tmp 47) _ rfl w.heap.size 3 i0 _ 1 8 Tryz.underlying53 hi0 hz0 hz1 hz2 rfl (by decide) _ _ _ rfl HO3.out encW1 ZzB Zzq _ rfl (l.drop (0)) (HRD.out _ HB3.out _) (by first|omega|(simp only [List.length_take,List.length_drop,maxLen];omega)|(simp [maxLen];omega)) (by first|omega|(simp only [List.length_take,List.length_drop,maxLen];omega)|(simp [maxLen];omega)) HB3.out.size ?_;intro v4 w4 hown4 hg4;have hb4:=Zz3 HO3.out nlR HB3.out hg4;have HO4:=Hh hown4;have HB4:=Hh hb4;clear hown4 hg4 hb4))
    all_goals (
     go_ret
     have hfin:=HO4.out
     refine ⟨_,rfl,.inr ⟨Zz5G _ _,?_,Zz2z HO4.out⟩,HB4.out⟩
     rw [←HP.out]
     refine Zz7 ZzB (n:=0+1+(l.drop (0)).length) (base:=w.heap.size) (e:=3) ?_ (by simp;omega)
     simpa using hfin)
   exact absurd h0 hin
  obtain ⟨i,rfl⟩:∃ q,i=q+1:=⟨i-1,by omega⟩
  have c0:wr.cell? ⟨g,off+i*1,G⟩=some (C D l[i]!):=(hbw.cell (p:=⟨g,off+i*1,G⟩) hg).trans (HC.out i (by omega) 0 _ rfl)
  rw [Nat.mul_one] at c0
  have hzz:(0:Int)<(i:Int)+1:=by omega
  have hw1:IntKind.i64.wrap (i:Int)=(i:Int):=by rw [IntKind.wrap_i64];omega
  have hw2:(0:Int)≤(i:Int):=by omega
  have hw3:(i:Int)<(l.length:Int):=by omega
  by_cases g1:x≤l[i]!
  ·have HL:=Hh g1
   generalize l[i]! = E at c0 g1
   have d1:decide (x≤E)=true:=dTt g1
   go_wp2_with fail
   go_roundw
   case rel=>exact ⟨i,by omega,by go_num,fun j h1 h2=>by
    rcases Nat.lt_or_eq_of_le h1 with h3|h3
    ·exact HJ.out j h3 h2
    subst h3;exact HL.out,hbw⟩
   case measure=>first|(simp [intOf];done)|(simp [intOf];omega)
  have LO:=Hh (show i+1=0∨l[i+1-1]! < x from .inr (by rw [Nat.add_sub_cancel];omega))
  have HK:=Hh (show ¬ x≤l[i]! from g1)
  generalize l[i]! = E at c0 g1
  have d1:decide (x≤E)=false:=dFf g1
  clear g1
  by_cases hin:(i+1)<l.length
  ·have cx:wr.cell? ⟨g,off+(i+1)*1,G⟩=some (C D l[(i+1)]!):=(hbw.cell (p:=⟨g,off+(i+1)*1,G⟩) hg).trans (HC.out ((i+1)) hin 0 _ rfl)
   rw [Nat.mul_one] at cx
   have hni:(0:Int)≤(i:Int)+1:=by omega
   have hnl:(i:Int)+1<(l.length:Int):=by omega
   by_cases he:l[(i+1)]! = x
   ·have HE:=Hh (Zz4I hin he)
    rw [he] at cx
    go_wp2_with fail
    go_ret
    exact ⟨_,rfl,by rw [HE.out];exact IN.out.on hbw,hbw⟩
   have HP:=Hh (ins_put HS.out (i:=(i+1)) (by omega) HJ.out LO.out (.inr he))
   have z1:(l[(i+1)]! == x)=false:=by simpa using he
   generalize l[(i+1)]! = E at cx z1
   clear he
   have hcells:=fun (W:World) (hW:Below w.heap.size w W) (j:Nat) (hj:j<l.length) (q:Nat) (u:Value) (hu:(encW1 l[j]!)[q]? = some u)=>(hW.cell (p:=⟨g,off+j*1+q,G⟩) hg).trans (HC.out j hj q u hu)
   have HRT:=Hh (fun W hW=>Zz5Y (c:=c) (i:=(i+1)) (by omega) hg hW.size (hcells W hW))
   have HRD:=Hh (fun W hW cc=>rd_drop2I (i:=(i+1)) (by omega) hg hW.size (hcells W hW) cc)
   clear hcells
   have HLT:=Hh (show (l.take ((i+1))).length=(i+1) by rw [List.length_take];omega)
   have HB0:=Hh hbw
   have OW:=Hh (Zz27 wr w.heap.size hbw.size)
   clear hbw
   go_wp2_with (first
    | (at_builtin;refine Zz4 rfl (.tmp 35) (.tmp 38) _ rfl w.heap.size 3 i0 _ 1 8 Tryz.underlying53 hi0 hz0 hz1 hz2 rfl (by decide) _ _ _ rfl OW.out encW1 ZzB Zzq _ rfl (l.take ((i+1))) (HRT.out _ (HB0.out.alloc HB0.out.size _)) (by first|omega|(simp only [List.length_take,List.length_drop,maxLen];omega)|(simp [maxLen];omega)) (by first|omega|(simp only [List.length_take,List.length_drop,maxLen];omega)|(simp [maxLen];omega)) (by have:=HB0.out.size;simp;omega) ?_;intro v2 w2 hown2 hg2;rw [HLT.out,Nat.zero_add] at hown2;obtain ⟨A2,c2,rfl⟩:=Zz1a hown2;have hb2:=Zz3 OW.out nlR (HB0.out.alloc HB0.out.size _) hg2;have HO2:=Hh hown2;have HB2:=Hh hb2;clear hown2 hg2 hb2)
    | (at_builtin;refine wpList_append_own _ rfl _ _ _ rfl w.heap.size 3 i0 _ 1 8 Tryz.underlying53 hi0 hz0 hz1 hz2 rfl (by decide) _ _ _ rfl (HO2.out.alloc _) ⟨w2.heap.size,0,G⟩ 1 1 (encW1 x) rfl rfl (ZzS w2 _ _) (Zzq _) (by first|omega|(simp only [List.length_take,List.length_drop,maxLen];omega)|(simp [maxLen];omega)) (by first|omega|(simp only [List.length_take,List.length_drop,maxLen];omega)|(simp [maxLen];omega)) (by have:=HB2.out.size;simp;omega) ?_;intro v3 w3 hown3 hg3 _;obtain ⟨A3,c3,rfl⟩:=Zz1a hown3;have hb3:=Zz3 HO2.out nlR (HB2.out.alloc HB2.out.size _) hg3;have HO3:=Hh hown3;have HB3:=Hh hb3;clear hown3 hg3 hb3)
    | (at_builtin;refine Zz4 rfl (.tmp 44) (.tmp 47) _ rfl w.heap.size 3 i0 _ 1 8 Tryz.underlying53 hi0 hz0 hz1 hz2 rfl (by decide) _ _ _ rfl HO3.out encW1 ZzB Zzq _ rfl (l.drop ((i+1))) (HRD.out _ HB3.out _) (by first|omega|(simp only [List.length_take,List.length_drop,maxLen];omega)|(simp [maxLen];omega)) (by first|omega|(simp only [List.length_take,List.length_drop,maxLen];omega)|(simp [maxLen];omega)) HB3.out.size ?_;intro v4 w4 hown4 hg4;have hb4:=Zz3 HO3.out nlR HB3.out hg4;have HO4:=Hh hown4;have HB4:=Hh hb4;clear hown4 hg4 hb4))
   all_goals (
    go_ret
    have hfin:=HO4.out
    refine ⟨_,rfl,.inr ⟨Zz5G _ _,?_,Zz2z HO4.out⟩,HB4.out⟩
    rw [←HP.out]
    refine Zz7 ZzB (n:=(i+1)+1+(l.drop ((i+1))).length) (base:=w.heap.size) (e:=3) ?_ (by simp;omega)
    simpa using hfin)
  have HP:=Hh (ins_put HS.out (i:=(i+1)) (by omega) HJ.out LO.out (.inl (by omega)))
  have hnl:¬ (i:Int)+1<(l.length:Int):=by omega
  have hnd:decide ((i:Int)+1<(l.length:Int))=false:=dFf hnl
  have hcells:=fun (W:World) (hW:Below w.heap.size w W) (j:Nat) (hj:j<l.length) (q:Nat) (u:Value) (hu:(encW1 l[j]!)[q]? = some u)=>(hW.cell (p:=⟨g,off+j*1+q,G⟩) hg).trans (HC.out j hj q u hu)
  have HRT:=Hh (fun W hW=>Zz5Y (c:=c) (i:=(i+1)) (by omega) hg hW.size (hcells W hW))
  have HRD:=Hh (fun W hW cc=>rd_dropI (c:=c) (i:=(i+1)) hcap (by omega) hg hW.size (hcells W hW) cc)
  clear hcells
  have HLT:=Hh (show (l.take ((i+1))).length=(i+1) by rw [List.length_take];omega)
  have HB0:=Hh hbw
  have OW:=Hh (Zz27 wr w.heap.size hbw.size)
  clear hbw
  go_wp2_with (first
   | (at_builtin;refine Zz4 rfl (.tmp 35) (.tmp 38) _ rfl w.heap.size 3 i0 _ 1 8 Tryz.underlying53 hi0 hz0 hz1 hz2 rfl (by decide) _ _ _ rfl OW.out encW1 ZzB Zzq _ rfl (l.take ((i+1))) (HRT.out _ (HB0.out.alloc HB0.out.size _)) (by first|omega|(simp only [List.length_take,List.length_drop,maxLen];omega)|(simp [maxLen];omega)) (by first|omega|(simp only [List.length_take,List.length_drop,maxLen];omega)|(simp [maxLen];omega)) (by have:=HB0.out.size;simp;omega) ?_;intro v2 w2 hown2 hg2;rw [HLT.out,Nat.zero_add] at hown2;obtain ⟨A2,c2,rfl⟩:=Zz1a hown2;have hb2:=Zz3 OW.out nlR (HB0.out.alloc HB0.out.size _) hg2;have HO2:=Hh hown2;have HB2:=Hh hb2;clear hown2 hg2 hb2)
   | (at_builtin;refine wpList_append_own _ rfl _ _ _ rfl w.heap.size 3 i0 _ 1 8 Tryz.underlying53 hi0 hz0 hz1 hz2 rfl (by decide) _ _ _ rfl (HO2.out.alloc _) ⟨w2.heap.size,0,G⟩ 1 1 (encW1 x) rfl rfl (ZzS w2 _ _) (Zzq _) (by first|omega|(simp only [List.length_take,List.length_drop,maxLen];omega)|(simp [maxLen];omega)) (by first|omega|(simp only [List.length_take,List.length_drop,maxLen];omega)|(simp [maxLen];omega)) (by have:=HB2.out.size;simp;omega) ?_;intro v3 w3 hown3 hg3 _;obtain ⟨A3,c3,rfl⟩:=Zz1a hown3;have hb3:=Zz3 HO2.out nlR (HB2.out.alloc HB2.out.size _) hg3;have HO3:=Hh hown3;have HB3:=Hh hb3;clear hown3 hg3 hb3)
   | (at_builtin;refine Zz4 rfl (.tmp 44) (.tmp 47) _ rfl w.heap.size 3 i0 _ 1 8 Tryz.underlying53 hi0 hz0 hz1 hz2 rfl (by decide) _ _ _ rfl HO3.out encW1 ZzB Zzq _ rfl (l.drop ((i+1))) (HRD.out _ HB3.out _) (by first|omega|(simp only [List.length_take,List.length_drop,maxLen];omega)|(simp [maxLen];omega)) (by first|omega|(simp only [List.length_take,List.length_drop,maxLen];omega)|(simp [maxLen];omega)) HB3.out.size ?_;intro v4 w4 hown4 hg4;have hb4:=Zz3 HO3.out nlR HB3.out hg4;have HO4:=Hh hown4;have HB4:=Hh hb4;clear hown4 hg4 hb4))
  all_goals (
   go_ret
   have hfin:=HO4.out
   refine ⟨_,rfl,.inr ⟨Zz5G _ _,?_,Zz2z HO4.out⟩,HB4.out⟩
   rw [←HP.out]
   refine Zz7 ZzB (n:=(i+1)+1+(l.drop ((i+1))).length) (base:=w.heap.size) (e:=3) ?_ (by simp;omega)
   simpa using hfin)
/- The reference's ends of spans: insert at any list, Ends. -/
theorem Zz33:∀ (A B:List Spn) (l:List Int),endsI (A++B) l=endsI B (endsI A l)
 | [],_,_=>rfl
 | s :: A,B,l=>by rw [List.cons_append,endsI,endsI];exact Zz33 A B _
theorem endsI_step {S:List Spn} {k:Nat} (hk:k<S.length) (l:List Int):endsI (S.take (k+1)) l=insI (insI (endsI (S.take k) l) (S[k]!).fr) (S[k]!).to:=by
 rw [List.take_succ_eq_append_getElem hk,Zz33,getElem!_pos S k hk];rfl
theorem Zz6r:∀ (S:List Spn) (l:List Int),(endsI S l).length≤l.length+2*S.length
 | [],l=>by rw [endsI];simp
 | s :: S,l=>by
  rw [endsI]
  have h1:=Zz6r S (insI (insI l s.fr) s.to)
  have h2:=Zz2m (insI l s.fr) s.to
  have h3:=Zz2m l s.fr
  simp only [List.length_cons]
  omega
set_option maxRecDepth 100000 in
set_option maxHeartbeats 1000000 in
theorem Zz49 (x:Int) (w:World):Calls Tryz.prog 68 #[F none 0 0,C D x] w fun e w'=>∃ v,e=.returned v∧InsN w' v (insI [] x)∧Below w.heap.size w w':=by
 obtain ⟨i0,hi0,hz0,hz1,hz2⟩:=info_parts infoI
 have hI:insI [] x=[x]:=by unfold insI;simp
 rw [hI]
 have OW:=Hh (Zz27 w w.heap.size nlR)
 have HB0:=Hh (Below.refl w.heap.size w)
 go_enter Tryz.func68,Tryz.ntmps68
 go_wp2
 refine wp_loop_rounds 1 ?_
 rw [rounds_succ]
 go_wp2_with (first
  | (at_builtin;refine Zz4 rfl (.tmp 35) (.tmp 38) _ rfl w.heap.size 3 i0 _ 1 8 Tryz.underlying53 hi0 hz0 hz1 hz2 rfl (by decide) _ _ _ rfl OW.out encW1 ZzB Zzq _ rfl [] (.inl ⟨rfl,_,_,rfl⟩) (by simp [maxLen]) (by simp) (by have:=HB0.out.size;simp) ?_;intro v2 w2 hown2 hg2;obtain ⟨A2,c2,rfl⟩:=Zz1a hown2;have hb2:=Zz3 OW.out nlR (HB0.out.alloc HB0.out.size _) hg2;have HO2:=Hh hown2;have HB2:=Hh hb2;clear hown2 hg2 hb2)
  | (at_builtin;refine wpList_append_own _ rfl _ _ _ rfl w.heap.size 3 i0 _ 1 8 Tryz.underlying53 hi0 hz0 hz1 hz2 rfl (by decide) _ _ _ rfl (HO2.out.alloc _) ⟨w2.heap.size,0,G⟩ 1 1 (encW1 x) rfl rfl (ZzS w2 _ _) (Zzq _) (by simp [maxLen]) (by simp) (by have:=HB2.out.size;simp;omega) ?_;intro v3 w3 hown3 hg3 _;obtain ⟨A3,c3,rfl⟩:=Zz1a hown3;have hb3:=Zz3 HO2.out nlR (HB2.out.alloc HB2.out.size _) hg3;have HO3:=Hh hown3;have HB3:=Hh hb3;clear hown3 hg3 hb3)
  | (at_builtin;refine Zz4 rfl (.tmp 44) (.tmp 47) _ rfl w.heap.size 3 i0 _ 1 8 Tryz.underlying53 hi0 hz0 hz1 hz2 rfl (by decide) _ _ _ rfl HO3.out encW1 ZzB Zzq _ rfl [] (.inl ⟨rfl,_,_,rfl⟩) (by simp [maxLen]) (by simp) HB3.out.size ?_;intro v4 w4 hown4 hg4;have hb4:=Zz3 HO3.out nlR HB3.out hg4;have HO4:=Hh hown4;have HB4:=Hh hb4;clear hown4 hg4 hb4))
 all_goals (
  go_ret
  have hfin:=HO4.out
  refine ⟨_,rfl,.inr ⟨by simp,?_,Zz2z HO4.out⟩,HB4.out⟩
  refine Zz7 ZzB (n:=1) (base:=w.heap.size) (e:=3) ?_ (by simp)
  simpa using hfin)
theorem Zz4Y (l:List Int) (x:Int) (v:Value) (w:World) (hs:l.Pairwise (· < ·)) (hl:l.length≤1000000) (h:InsN w v l) :
  Calls Tryz.prog 68 #[v,C D x] w fun e w'=>∃ v',e=.returned v'∧InsN w' v' (insI l x)∧Below w.heap.size w w':=by
 rcases h with ⟨rfl,rfl⟩|⟨h1,h2,h3⟩
 ·exact Zz49 x w
 rcases h2 with ⟨h4,_⟩|⟨g,off,c,rfl,hg,hc⟩
 ·rw [h4] at h1;cases h1
 exact Zz3p l x g off c w hs hl (h3 _ _ _ rfl) h1 hg hc
set_option maxRecDepth 100000 in
set_option maxHeartbeats 1000000 in
theorem r12_Ends (S:List Spn) (v:Value) (w:World) (hS:Rd encN 2 w v S) (hl:S.length≤10000) :
  Calls Tryz.prog 30 #[v] w fun e w'=>∃ v',e=.returned v'∧InsN w' v' (endsI S [])∧Below w.heap.size w w':=by
 have HR:=Hh hS
 obtain ⟨A,c,rfl⟩:=Zzb hS
 clear hS
 go_enter Tryz.func30,Tryz.ntmps30
 go_wp2
 go_loopw [3,4] (fun v3 i wr=>∃ k:Nat,k≤S.length∧i=C D k∧Hid (InsN wr v3 (endsI (S.take k) []))∧Below w.heap.size w wr) (fun _ i _=>S.length-(intOf i).toNat)
 case atStart=>exact ⟨0,Nat.zero_le _,rfl,.inl ⟨rfl,by simp [endsI]⟩,Below.refl _ _⟩
 case round =>
  obtain ⟨k,hk,rfl,HI,hbr⟩:=hrel
  by_cases hlt:k<S.length
  ·obtain ⟨_,hP0|⟨g,o,rfl,hg,hcs⟩⟩:=rd_at (HR.out.on hbr)
   ·rw [hP0] at hlt;exact absurd hlt (Nat.not_lt_zero _)
   obtain ⟨e1,e2⟩:=hcs k hlt
   have HST:=Hh (endsI_step hlt [])
   have hln:=Zz6r (S.take k) []
   rw [List.length_take,List.length_nil] at hln
   have HAS:=Hh (Zz24 (S:=S.take k) (l:=[]) List.Pairwise.nil)
   obtain ⟨s,hs⟩:∃ s,S[k]! = s:=⟨_,rfl⟩
   rw [hs] at e1 e2 HST
   generalize endsI (S.take k) []=E at *
   have hl2:=Zz2m E s.fr
   clear hcs hs
   go_wp2_with fail
   refine (Zz4Y E s.fr _ _ HAS.out (by omega) HI.out).mono ?_
   rintro e w1 ⟨v1,rfl,i1,hb1⟩
   have I1:=Hh i1
   have e2':=(hb1.cell (p:=⟨g,o+k*2+1,G⟩) hg).trans e2
   clear i1 e1 e2
   go_wp2_with fail
   refine (Zz4Y (insI E s.fr) s.to _ _ (Zz5F HAS.out) (by omega) I1.out).mono ?_
   rintro e w2 ⟨v2,rfl,i2,hb2⟩
   have I2:=Hh i2
   have hB2:Below w.heap.size w w2:=(hbr.trans (hb1.mono hbr.size)).trans (hb2.mono (nLt hbr.size hb1.size))
   clear i2
   go_wp2
   go_roundw
   case rel=>exact ⟨k+1,by omega,by go_num,by rw [HST.out];exact I2.out,hB2⟩
   case measure=>simp [intOf];omega
  have hke:k=S.length:=by omega
  subst hke
  rw [List.take_length] at HI
  go_wp2
  go_ret
  exact ⟨_,rfl,HI.out,hbr⟩
/- The reference's runs: Add, a span put behind the last. -/
theorem Zz7q (W:World) (b i:Nat) (v:Value):W.grownBy (W.setCell ⟨b,i,G⟩ v) (some b) :=
 ⟨rfl,rfl,rfl,(KeepsWalks.setCell W _ v).size,fun k _ hk=>Below.heap_setCell _ _ _ k (fun e=>hk (by rw [e]))⟩
theorem Zz1w {w W w':World} {row:Option Nat} (hb:RowKit.Below w.heap.size w W) (hg:W.grownBy w' row):w.grownBy w' row :=
 ⟨hg.os.trans hb.os,hg.tape.trans hb.tape,hg.output.trans hb.output,nLt hb.size hg.size,fun k hk hne=>(hg.block k (nLl hk hb.size) hne).trans (hb.block k hk)⟩
set_option maxRecDepth 100000 in
set_option maxHeartbeats 4000000 in
theorem ZzT (O:List Spn) (x:Spn) (v:Value) (base:Nat) (w:World) (hl:O.length≤100000) (hbw:base≤w.heap.size) (hown:w.ownsRow base 29 2 v O.length (O.flatMap encN)) :
  Calls Tryz.prog 33 #[v,.agg #[C D x.fr,C D x.to]] w fun e w'=>∃ v',e=.returned v'∧w'.ownsRow base 29 2 v' (addS O x).length ((addS O x).flatMap encN)∧RowKit.Below base w w'∧w.grownBy w' v.ownBlock:=by
 obtain ⟨i0,hi0,hz0,hz1,hz2⟩:=info_parts Zz1J
 obtain ⟨A6,c6,rfl⟩:=Zzh hown
 have hBA:RowKit.Below base w (w.alloc (H #[C D x.fr,C D x.to] 29)):=bLR.alloc hbw _
 have HOA:=Hh (Zz8 hown (Zz6 w (H #[C D x.fr,C D x.to] 29)))
 have bx:=Blk.new w #[C D x.fr,C D x.to] 29
 have hWB:RowKit.Below w.heap.size w (w.alloc (H #[C D x.fr,C D x.to] 29)):=Zz6 w _
 have hszA:base≤(w.alloc (H #[C D x.fr,C D x.to] 29)).heap.size:=by simp;omega
 clear hown
 go_enter Tryz.func33,Tryz.ntmps33
 go_wp2_with fail
 generalize hWA:w.alloc (H #[C D x.fr,C D x.to] 29)=WA at *
 have y0:=bx.cl 0 _ rfl
 have y1:=bx.cl 1 _ rfl
 by_cases h0:O.length=0
 ·have HADD:=Hh (show addS O x=O++[x] by unfold addS;rw [if_neg (by omega)])
  have dk:¬ 0<O.length:=by omega
  have dk1:decide ((0:Int)<(O.length:Int))=false:=dFf (by omega)
  clear h0
  go_wp2_with fail
  go_quiet (fail)
  have hd3:RowKit.Below WA.heap.size WA (WA.drewN nq):=Zz1 bLR nq
  have hBW:=hBA.trans (hd3.mono hszA)
  have hW4:=Hh (hWB.trans (hd3.mono hWB.size))
  have HO4:=Hh (Zz8 HOA.out hd3)
  have b3:Blk (WA.drewN nq) w.heap.size #[C D x.fr,C D x.to] 29:=bx.below hd3 bx.lt
  have hszB:base≤(WA.drewN nq).heap.size:=nLt hszA hd3.size
  clear y0 y1 bx
  generalize WA.drewN nq=W4 at *
  have y0:=b3.cl 0 _ rfl
  have y1:=b3.cl 1 _ rfl
  go_wp2_with (at_builtin;refine wpList_append_own _ rfl _ _ _ rfl base 29 i0 _ 2 16 Tryz.underlying33 hi0 hz0 hz1 hz2 rfl (by decide) _ _ _ rfl (HO4.out.alloc _) ⟨_,0,G⟩ 1 1 (encN x) rfl rfl (Zz5 (by simp) _) (Zzz x) (by simp only [maxLen];omega) (by omega) (by simp;omega) ?_;intro v' w5 hown5 hg5 _)
  have hB8:RowKit.Below base w (W4.alloc (H (encN x).toArray 29)):=hBW.alloc hszB _
  have hB5:RowKit.Below base w w5:=hB8.grown hg5 (by simp;omega) fun g e=>(HO4.out.lt g e).1
  go_ret
  exact ⟨_,rfl,by rw [HADD.out];exact Zzp (es:=O) (x:=x) hown5,hB5,Zz1w (hW4.out.alloc hW4.out.size _) hg5⟩
 obtain ⟨q,hq⟩:∃ q,O.length=q+1:=⟨O.length-1,by omega⟩
 have dk:0<O.length:=by omega
 have dk1:decide ((0:Int)<(O.length:Int))=true:=dTt (by omega)
 have hwi:(O.length:Int)-1=(q:Int):=by omega
 have hql:q<O.length:=by omega
 obtain ⟨g6,hA6⟩:∃ g6,A6=some ⟨g6,0,G⟩:=by
  rcases HOA.out.2 with ⟨e0,_⟩|⟨g',cap',cur,e0,_⟩
  ·injection e0 with _ e1 _;omega
  injection e0 with e1 _ _;exact ⟨g',e1⟩
 subst hA6
 have HLT:=Hh (fun (W:World) (h:W.ownsRow base 29 2 (F (some ⟨g6,0,G⟩) O.length c6) O.length (O.flatMap encN))=>show W.cell? ⟨g6,q*2+1,G⟩=some (C D (O[q]!).to) from (h.cellAt (q*2+1) (by omega)).trans (Zz1u Zzy O q 1 hql (by omega)))
 clear h0
 have l1:=HLT.out WA HOA.out
 by_cases hle:(O[q]!).to=x.fr
 ·have HSE:=Hh (show addS O x=O.set q ⟨(O[q]!).fr,x.to⟩ by unfold addS;rw [show O.length-1=q by omega,if_pos ⟨dk,hle⟩])
  have HSF:=Hh (Zz5Z O q x.to hql)
  have HSL:=Hh (show (O.set q ⟨(O[q]!).fr,x.to⟩).length=O.length from List.length_set)
  rw [hle] at l1 HLT
  go_wp2_with fail
  go_quiet (fail)
  have hd3:RowKit.Below WA.heap.size WA (WA.drewN nq):=Zz1 bLR nq
  have hBW:=hBA.trans (hd3.mono hszA)
  have hW4:=Hh (hWB.trans (hd3.mono hWB.size))
  have hO3:=Zz8 HOA.out hd3
  have b3:Blk (WA.drewN nq) w.heap.size #[C D x.fr,C D x.to] 29:=bx.below hd3 bx.lt
  clear y0 y1 l1 bx
  generalize WA.drewN nq=W4 at *
  have y0:=b3.cl 0 _ rfl
  have y1:=b3.cl 1 _ rfl
  have l1:W4.cell? ⟨g6,q*2+1,G⟩=some (C D x.fr):=HLT.out W4 hO3
  have lf:=hO3.frozenAt (q*2+1)
  have HO4:=Hh hO3
  clear hO3
  have hst:=(HO4.out.stored (q*2+1) (C D x.to)).1
  have hfin:(W4.setCell ⟨g6,q*2+1,G⟩ (C D x.to)).ownsRow base 29 2 (F (some ⟨g6,0,G⟩) O.length c6) (addS O x).length ((addS O x).flatMap encN):=by
   rw [HSE.out,HSL.out,←HSF.out]
   exact hst
  have hg6:base≤g6:=by
   rcases HO4.out.2 with ⟨e0,_⟩|⟨g',cap',cur,e0,h6,_⟩
   ·cases e0
   injection e0 with e1 _ _
   injection e1 with e1
   injection e1 with e1 _ _
   rw [e1];exact h6
  have hB5:RowKit.Below base w (W4.setCell ⟨g6,q*2+1,G⟩ (C D x.to)):=hBW.setCell (p:=⟨g6,q*2+1,G⟩) hg6 _
  have HF:=Hh hfin
  clear hst hfin
  go_wp2
  go_ret
  exact ⟨_,rfl,HF.out,hB5,Zz1w hW4.out (Zz7q _ _ _ _)⟩
 have HADD:=Hh (show addS O x=O++[x] by unfold addS;rw [show O.length-1=q by omega,if_neg (fun h=>hle h.2)])
 have d1:((O[q]!).to == x.fr)=false:=beq_eq_false_iff_ne.2 hle
 generalize (O[q]!).to=lt at *
 clear hq
 go_wp2_with fail
 go_quiet (fail)
 have hd3:RowKit.Below WA.heap.size WA (WA.drewN nq):=Zz1 bLR nq
 have hBW:=hBA.trans (hd3.mono hszA)
 have hW4:=Hh (hWB.trans (hd3.mono hWB.size))
 have HO4:=Hh (Zz8 HOA.out hd3)
 have b3:Blk (WA.drewN nq) w.heap.size #[C D x.fr,C D x.to] 29:=bx.below hd3 bx.lt
 have hszB:base≤(WA.drewN nq).heap.size:=nLt hszA hd3.size
 clear y0 y1 bx
 generalize WA.drewN nq=W4 at *
 have y0:=b3.cl 0 _ rfl
 have y1:=b3.cl 1 _ rfl
 go_wp2_with (at_builtin;refine wpList_append_own _ rfl _ _ _ rfl base 29 i0 _ 2 16 Tryz.underlying33 hi0 hz0 hz1 hz2 rfl (by decide) _ _ _ rfl (HO4.out.alloc _) ⟨_,0,G⟩ 1 1 (encN x) rfl rfl (Zz5 (by simp) _) (Zzz x) (by simp only [maxLen];omega) (by omega) (by simp;omega) ?_;intro v' w5 hown5 hg5 _)
 have hB8:RowKit.Below base w (W4.alloc (H (encN x).toArray 29)):=hBW.alloc hszB _
 have hB5:RowKit.Below base w w5:=hB8.grown hg5 (by simp;omega) fun g e=>(HO4.out.lt g e).1
 go_ret
 exact ⟨_,rfl,by rw [HADD.out];exact Zzp (es:=O) (x:=x) hown5,hB5,Zz1w (hW4.out.alloc hW4.out.size _) hg5⟩
/- The reference of layer 24: Instants. Printed by gen_ref24i.py. -/
theorem asc_next {L:List Int} (h:L.Pairwise (· < ·)) {k:Nat} (hk:k+1<L.length):L[k]! < L[k+1]! := by
 rw [getElem!_pos L k (by omega),getElem!_pos L (k+1) hk]
 exact List.pairwise_iff_getElem.1 h k (k+1) (by omega) hk (by omega)
theorem Zz6d (out:List Spn) (s:Spn):(addS out s).length≤out.length+1:=by
 unfold addS
 split
 ·rw [List.length_set];omega
 simp
end Go.Proofs.YtmmgdjgcikbhbaaGreat

/- Joined by merge.py: SpF. -/
import Derived.Test.YtmmgdjgcikbhbaaGreatGZoneP
/- The reference looks at 401 years of a tail: that is enough. No program in sight. -/
namespace Go.Proofs.YtmmgdjgcikbhbaaGreat
set_option linter.unusedSimpArgs false
set_option linter.unusedVariables false
open Go.Sort
theorem Zz5h {rs:List Rule} (hv:allV rs=true) (h:∀ y,FarT rs y):spacedF rs=true:=by
 have hc:∀ y,crowdF rs y=false:=fun y=>(Zz4i rs y).2 ⟨h (y-1),h y,(h (y+1)).1⟩
 have hb:∀ a n,busyF rs a n=false:=fun a n=>by
  unfold busyF
  rw [List.any_eq_false]
  intro k _
  rw [hc];decide
 rw [Zz36 hv]
 have hbad:badsF rs (cutsF rs) (cutsF rs).length=false:=by
  unfold badsF
  rw [List.any_eq_false]
  intro k _
  rw [badF_no (hb _ _) (hc _)];decide
 rw [hbad];rfl
theorem Zz6B {r:Rule} {y k:Int} (hk:0≤k) (hf:r.fr≤y) (hy:1≤y) (hy2:y≤9998) (h:(r.at (y+400*k)).2=0):((r.at y).2=0∧(r.at (y+400*k)).1=(r.at y).1+146097*86400*k)∨(y=1∧(r.at (y+400*k)).1≤(Cv.first (y+400*k)-1)*86400+93600):=by
 obtain ⟨hv,hh,hl⟩:=Zz3a h
 have ho:=Rule.valid_ok hv
 have hm:=Cv.fitsB_mo ho.fits
 have f2:=ho.max
 have f1:=ho.fr
 have hwk:r.k≠1→1≤r.wk∧r.wk≤7:=fun hk=>Cv.fitsB_wk ho.fits hk
 unfold Rule.has at hh
 simp only [Bool.and_eq_true,decide_eq_true_eq,beq_iff_eq] at hh
 obtain ⟨⟨g1,g2⟩,g3⟩:=hh
 have hyk:1≤y+400*k∧y+400*k≤9999:=⟨by omega,by omega⟩
 have hyy:1≤y∧y≤9999:=⟨by omega,by omega⟩
 have e1:Cv.onN (y+400*k) r.mo r.k r.d=Cv.onN y r.mo r.k r.d:=by
  unfold Cv.onN
  rw [Cv.lenF_in ⟨hyk.1,hyk.2,hm.1,hm.2⟩,Cv.lenF_in ⟨hyy.1,hyy.2,hm.1,hm.2⟩,Zz4f y k _ hyy hyk]
 have e2:Cv.validB (y+400*k) r.mo (Cv.onN y r.mo r.k r.d)=Cv.validB y r.mo (Cv.onN y r.mo r.k r.d):=by
  unfold Cv.validB
  rw [Cv.lenF_in ⟨hyk.1,hyk.2,hm.1,hm.2⟩,Cv.lenF_in ⟨hyy.1,hyy.2,hm.1,hm.2⟩,Zz4f y k _ hyy hyk]
 unfold Rule.day Cv.dayF at g3
 rw [if_neg (by simp [ho.fits]),if_neg (by omega),e1,e2] at g3
 cases hvb:Cv.validB y r.mo (Cv.onN y r.mo r.k r.d)
 ·rw [if_pos hvb] at g3;simp at g3
 have h1:=Cv.onDay_bd (k:=r.k) (wk:=r.wk) (day:=Cv.count y r.mo (Cv.onN y r.mo r.k r.d)) hwk
 have h2:=Zz1Q hvb
 have b2:=Cv.first_bd (y:=y) (by omega) (by omega)
 rw [if_neg (by simp [hvb])] at g3
 have hin2:Cv.insideB (Cv.onDay r.k r.wk (Cv.count (y+400*k) r.mo (Cv.onN y r.mo r.k r.d)))=true:=by
  cases hi:Cv.insideB (Cv.onDay r.k r.wk (Cv.count (y+400*k) r.mo (Cv.onN y r.mo r.k r.d)))
  ·rw [if_pos hi] at g3;simp at g3
  rfl
 have d2:r.day (y+400*k)=(Cv.onDay r.k r.wk (Cv.count y r.mo (Cv.onN y r.mo r.k r.d))+146097*k,0):=by
  unfold Rule.day Cv.dayF
  rw [if_neg (by simp [ho.fits]),if_neg (by omega),e1,e2,if_neg (by simp [hvb]),if_neg (by simp [hin2]),Zz6p,Zz6V]
 cases hin:Cv.insideB (Cv.onDay r.k r.wk (Cv.count y r.mo (Cv.onN y r.mo r.k r.d)))
 ·right
  unfold Cv.insideB at hin
  rw [decide_eq_false_iff_not] at hin
  have hy1:y=1:=by
   by_cases hc:2≤y
   ·exfalso
    have b0:=ZzW (y:=y-1) ⟨by omega,by omega⟩
    have b1:=Cv.first_bd (y:=y-1) (by omega) (by omega)
    rw [show y-1+1=y by omega] at b0
    omega
   omega
  refine ⟨hy1,?_⟩
  rw [hl]
  unfold Rule.loc
  rw [d2]
  dsimp only
  have hat:=ho.at1
  have hfk:Cv.first (y+400*k)=-719162+146097*k:=by rw [hy1];unfold Cv.first;omega
  rw [hfk]
  omega
 left
 have d1:r.day y=(Cv.onDay r.k r.wk (Cv.count y r.mo (Cv.onN y r.mo r.k r.d)),0):=by
  unfold Rule.day Cv.dayF
  rw [if_neg (by simp [ho.fits]),if_neg (by omega),if_neg (by simp [hvb]),if_neg (by simp [hin])]
 have hy0:(r.at y).2=0:=by
  rw [Zz2l]
  refine ⟨hv,?_⟩
  unfold Rule.has
  rw [d1]
  simp
  omega
 refine ⟨hy0,?_⟩
 rw [hl,(Zz3a hy0).2.2]
 unfold Rule.loc
 rw [d1,d2]
 dsimp only
 omega
def farP (a b:Int × Int × Int):Prop:=604800≤b.2.1-a.2.1
theorem Zz77 {rs:List Rule} {Z:Int} {n:Nat} (h:(evT rs Z n).Pairwise farP) {y:Int} (h1:Z≤y) (h2:y<Z+n):(tms rs y).Pairwise Apt∧(y+1<Z+n→∀ a∈tms rs y,∀ b∈tms rs (y+1),604800≤b-a):=by
 have e:n=(y-Z).toNat+(1+(Z+n-y-1).toNat):=by omega
 rw [e,ZzJ,ZzJ,show Z+((y-Z).toNat:Int)=y by omega] at h
 have hp:=(List.pairwise_append.1 h).2.1
 have hq:=List.pairwise_append.1 hp
 have e1:evT rs y 1=(yearF rs y).map fun x=>(y,x):=by
  rw [evT,evT,List.nil_append]
  simp
 rw [e1] at hq
 refine ⟨(Zz2Y rs y).1 ?_,fun h3 a ha b hb=>?_⟩
 ·have:=hq.1
  rw [List.pairwise_map] at this
  exact this
 obtain ⟨xa,hxa,rfl⟩:=mem_year.1 ha
 obtain ⟨xb,hxb,rfl⟩:=mem_year.1 hb
 have h4:=hq.2.2 (y,xa) (List.mem_map.2 ⟨xa,hxa,rfl⟩) (y+1,xb) (mem_evT.2 ⟨⟨by dsimp only;omega,by dsimp only;omega⟩,hxb⟩)
 exact h4
theorem tms_out {rs:List Rule} {y:Int} (h:9999<y):tms rs y=[]:=by
 rw [List.eq_nil_iff_forall_not_mem]
 intro a ha
 obtain ⟨r,_,h1,_⟩:=mem_tms.1 ha
 have:=(Zz1c h1).2.1
 omega
theorem apt_sh {a b c:Int} (h:Apt a b):Apt (a+c) (b+c):=by unfold Apt at *;omega
theorem far_all {rs:List Rule} {Z:Int} {n:Nat} (hZ:1≤Z∧Z≤9999) (hr:∀ r∈rs,r.fr≤Z∧r.to=9999) (hn:(n:Int)=min (Z+400) 9999-Z+1) (h:(evT rs Z n).Pairwise farP) (y:Int) (hy:Z≤y):FarT rs y:=by
 by_cases h9:9999<y
 ·unfold FarT
  rw [tms_out h9]
  exact ⟨List.Pairwise.nil,fun a ha=>by cases ha⟩
 refine ⟨?_,?_⟩
 ·by_cases hc:y≤Z+400
  ·exact (Zz77 h hy (by omega)).1
  have hk:0≤(y-Z-1) / 400:=by omega
  obtain ⟨k,hk2⟩:∃ k,k=(y-Z-1) / 400:=⟨_,rfl⟩
  obtain ⟨y0,hy0⟩:∃ y0,y0=y-400*k:=⟨_,rfl⟩
  have e:y=y0+400*k:=by omega
  have hb:Z+1≤y0∧y0≤Z+400:=by omega
  have hs:=(Zz77 h (y:=y0) (by omega) (by omega)).1
  unfold tms at hs ⊢
  rw [List.pairwise_filterMap] at hs ⊢
  refine hs.imp_of_mem fun {a b} ha hb' hab x hx x' hx'=>?_
  unfold tm at hx hx'
  split at hx
  ·rename_i hx1
   split at hx'
   ·rename_i hx2
    injection hx with hx
    injection hx' with hx'
    rw [e] at hx1 hx2 hx hx'
    rcases Zz6B (by omega) (by have:=(hr a ha).1;omega) (by omega) (by omega) hx1 with ⟨p1,p2⟩|⟨p1,_⟩
    ·rcases Zz6B (by omega) (by have:=(hr b hb').1;omega) (by omega) (by omega) hx2 with ⟨q1,q2⟩|⟨q1,_⟩
     ·rw [←hx,←hx',p2,q2]
      exact apt_sh (hab _ (by unfold tm;rw [if_pos p1]) _ (by unfold tm;rw [if_pos q1]))
     omega
    omega
   cases hx'
  cases hx
 intro a ha b hb
 by_cases h99:9999<y+1
 ·rw [tms_out h99] at hb;cases hb
 by_cases hc:y+1≤Z+400
 ·exact (Zz77 h hy (by omega)).2 (by omega) a ha b hb
 obtain ⟨k,hk2⟩:∃ k,k=(y-Z) / 400:=⟨_,rfl⟩
 obtain ⟨y0,hy0⟩:∃ y0,y0=y-400*k:=⟨_,rfl⟩
 have e:y=y0+400*k:=by omega
 have e':y+1=(y0+1)+400*k:=by omega
 have hbd:Z≤y0∧y0≤Z+399:=by omega
 obtain ⟨r,hr1,hr2,rfl⟩:=mem_tms.1 ha
 obtain ⟨q,hq1,hq2,rfl⟩:=mem_tms.1 hb
 have hq3:=(Zz1c hq2).2.2.2.1
 have hqm:=(Zz1c hq2).2.2.1
 have hfy:=ZzW (y:=y) ⟨by omega,by omega⟩
 rcases Zz6B (r:=r) (y:=y0) (k:=k) (by omega) (by have:=(hr r hr1).1;omega) (by omega) (by omega) (by rw [←e];exact hr2) with ⟨p1,p2⟩|⟨p1,p2⟩
 ·rcases Zz6B (r:=q) (y:=y0+1) (k:=k) (by omega) (by have:=(hr q hq1).1;omega) (by omega) (by omega) (by rw [←e'];exact hq2) with ⟨q1,q2⟩|⟨q1,_⟩
  ·have:=(Zz77 h (y:=y0) (by omega) (by omega)).2 (by omega) _ (mem_tms.2 ⟨r,hr1,p1,rfl⟩) _ (mem_tms.2 ⟨q,hq1,q1,rfl⟩)
   rw [←e] at p2
   rw [←e'] at q2
   omega
  omega
 rw [←e] at p2
 omega
theorem ref_spaced {z:Zn} (h1:1≤z.year) (h2:z.year≤9999) (hr:z.tail.all z.ruleB=true) {n:Nat} (hn:(n:Int)=min (z.year+400) 9999-z.year+1) (h:(evT z.tail z.year n).Pairwise farP):spacedF z.rules0=true:=by
 have hv:allV z.rules0=true:=List.all_eq_true.2 fun r hr2=>by
  obtain ⟨q,hq,rfl⟩:=List.mem_map.1 hr2
  obtain ⟨g1,g2,g3,_⟩:=ZzA hr hq
  exact valid0 g1 h1 (by omega)
 have hF:=far_all ⟨h1,h2⟩ (fun r hr2=>⟨(ZzA hr hr2).2.2.1,(ZzA hr hr2).2.1⟩) hn h
 have e:∀ x,z.year≤x→tms z.rules0 x=tms z.tail x:=fun x hx=>by
  unfold tms Zn.rules0
  rw [List.filterMap_map]
  refine Zz5T fun r hr2=>?_
  obtain ⟨g1,g2,g3,_⟩:=ZzA hr hr2
  show tm x _=tm x _
  unfold tm
  rw [at0 g1 h1 (by omega) g3 hx]
 refine Zz5h hv fun y=>?_
 by_cases hy:z.year≤y
 ·have:=hF y hy
  unfold FarT at *
  rw [e y hy,e (y+1) (by omega)]
  exact this
 have he:tms z.rules0 y=[]:=by
  rw [List.eq_nil_iff_forall_not_mem]
  intro a ha
  obtain ⟨r,hr2,h3,_⟩:=mem_tms.1 ha
  obtain ⟨q,hq,rfl⟩:=List.mem_map.1 hr2
  have:=(Zz1c h3).1.1
  dsimp only at this
  omega
 unfold FarT
 rw [he]
 exact ⟨List.Pairwise.nil,fun a ha=>by cases ha⟩
theorem ref_behind {z:Zn} (ok:TailOk z) {n:Nat} (hn:(n:Int)=min (z.year+12) 9999-z.year+1) (h:z.table=[]∨z.happ z.lastT.sv (evT z.tail z.year n)=[]∨∃ x xs,z.happ z.lastT.sv (evT z.tail z.year n)=x :: xs∧z.lastAt<x.2.at_):z.behindB=true:=by
 have y1:=ok.y1
 have y2:=ok.y2
 unfold Zn.behindB
 rcases h with h|h
 ·rw [h];rfl
 have e:(10000-z.year).toNat=n+(10000-z.year-n).toNat:=by omega
 have eH:z.HF=z.happ z.lastT.sv (evT z.tail z.year n)++z.happ (z.aft z.lastT.sv (evT z.tail z.year n)) (evT z.tail (z.year+n) (10000-z.year-n).toNat):=by
  unfold Zn.HF
  rw [e,ZzJ,Zza]
 rcases h with h|⟨x,xs,h,hx⟩
 ·by_cases hc:z.year+12≤9999
  ·exfalso
   obtain ⟨r,hr⟩:=List.exists_mem_of_ne_nil _ ok.ne
   obtain ⟨x0,h1,h2,_⟩:=Zz2V ok (u:=max z.year 2) (n:=8) (by omega) (by omega) (by omega) (by omega) hr
   obtain ⟨g1,g2⟩:=mem_evT.1 h1
   have hm:x0∈evT z.tail z.year n:=mem_evT.2 ⟨⟨by omega,by omega⟩,g2⟩
   obtain ⟨t,ht,_⟩:=Zz1e ok ⟨ok.s1,ok.s2⟩ Zz1f x0 hm (by omega) (by omega)
   rw [h] at ht
   cases ht
  have:(10000-z.year-n).toNat=0:=by omega
  rw [eH,h,this,evT]
  simp [Zn.happ]
 rw [eH,h,List.cons_append]
 simp [hx]
end Go.Proofs.YtmmgdjgcikbhbaaGreat

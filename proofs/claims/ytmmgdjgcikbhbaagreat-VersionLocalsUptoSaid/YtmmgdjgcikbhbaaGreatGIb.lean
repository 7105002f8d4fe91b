/- Joined by merge.py: BetR. -/
import Derived.Test.YtmmgdjgcikbhbaaGreatGZk
/- The transitions in a time span, as the reference gathers them. No program in sight. -/
namespace Go.Proofs.YtmmgdjgcikbhbaaGreat
set_option linter.unusedSimpArgs false
set_option linter.unusedVariables false
open Go.Sort
theorem segG {z:Zn} (ok:TailOk z) {g t s:Int} (h1:z.year<g) (h2:g+9≤t) (h3:t≤9999) (hs : -10800≤s∧s≤10800) :
  ∃ P S,z.TT=P++trans z.lastT false (z.happ s (evT z.tail g (t-g+1).toNat))++S∧(∀ p∈P,p.1≤g+8)∧(∀ x∈S,t+1≤x.1):=by
 have y1:=ok.y1
 have y2:=ok.y2
 have hs0 : -10800≤z.lastT.sv∧z.lastT.sv≤10800:=⟨ok.s1,ok.s2⟩
 unfold Zn.TT Zn.HF
 have e1:(10000-z.year).toNat=(g-z.year).toNat+((t-g+1).toNat+(9999-t).toNat):=by omega
 have hne:∃ x0 rest,evT z.tail g (t-g+1).toNat=x0 :: rest∧x0.1≤g+8∧g≤x0.1∧x0.2∈yearF z.tail x0.1:=by
  have e2:(t-g+1).toNat=8+(t-g-7).toNat:=by omega
  rw [e2,ZzJ]
  obtain ⟨r,hr⟩:=List.exists_mem_of_ne_nil _ ok.ne
  obtain ⟨x,hx,_⟩:=Zz2V ok (u:=g) (n:=8) (by omega) (by omega) nlR (by omega) hr
  match hev:evT z.tail g 8,hx with
  | x0 :: rest,_ =>
   have hm:x0∈evT z.tail g 8:=by rw [hev];exact List.mem_cons_self
   obtain ⟨g1,g2⟩:=mem_evT.1 hm
   exact ⟨x0,_,rfl,by omega,by omega,g2⟩
 obtain ⟨x0,rest,hx,hx1,hx2,hx3⟩:=hne
 have hrest:∀ x∈x0 :: rest,(g≤x.1∧x.1≤t)∧x.2∈yearF z.tail x.1:=fun x hm=>by
  rw [←hx] at hm
  obtain ⟨g1,g2⟩:=mem_evT.1 hm
  exact ⟨by omega,g2⟩
 rw [e1,ZzJ,ZzJ,show z.year+((g-z.year).toNat:Int)=g by omega,show g+((t-g+1).toNat:Int)=t+1 by omega,Zza,Zza,hx]
 have hsA:=Zz2D ok hs0 (Zz1f (rs:=z.tail) (a:=z.year) (n:=(g-z.year).toNat))
 have hsB:=Zz2D ok hsA (xs:=x0 :: rest) fun x hm=>(hrest x hm).2
 have hA:∀ x∈z.happ z.lastT.sv (evT z.tail z.year (g-z.year).toNat),x.1≤g-1:=fun x hm=>by have:=Zz1t ok hs0 x hm;omega
 generalize z.happ z.lastT.sv (evT z.tail z.year (g-z.year).toNat)=A at *
 generalize z.aft z.lastT.sv (evT z.tail z.year (g-z.year).toNat)=sA at *
 have hC:∀ x∈z.happ (z.aft sA (x0 :: rest)) (evT z.tail (t+1) (9999-t).toNat),t+1≤x.1:=fun x hm=>(Zz1t ok hsB x hm).1
 generalize z.happ (z.aft sA (x0 :: rest)) (evT z.tail (t+1) (9999-t).toNat)=C at *
 rw [Zn.happ,Zn.happ,Zz4z ok hsA hx3 (by omega) (by omega),Zz4z ok hs hx3 (by omega) (by omega),if_neg (by decide),if_neg (by decide)]
 have hR:∀ x∈z.happ (z.rule x0.2.2).sv rest,x.1≤t:=fun x hm=>by
  obtain ⟨y,hy,g1,_⟩:=ZzZ ok (Zz6u ok (ZzX hx3)) (fun x hm=>(hrest x (List.mem_cons_of_mem _ hm)).2) x hm
  have:=(hrest y (List.mem_cons_of_mem _ hy)).1
  omega
 generalize z.happ (z.rule x0.2.2).sv rest=R at *
 have e5:∀ (b:Typ) (x:Int × Trn) (R:List (Int × Trn)),trans b false (x :: R)=trans x.2.ty true R:=fun b x R=>by rw [trans,if_neg (by simp)]
 have e6:∀ (b:Typ) (x:Int × Trn) (R:List (Int × Trn)),trans b true (x :: R)=(if x.2.ty≠b then [x] else [])++trans x.2.ty true R:=fun b x R=>by
  rw [trans]
  by_cases hx:x.2.ty=b <;> simp [hx]
 rw [Zzf,Zzf]
 simp only [Bool.true_or]
 rw [e5,e6]
 have ht:(z.hap1 sA x0).2.ty=(z.hap1 s x0).2.ty:=rfl
 have hy:(z.hap1 sA x0).1=x0.1:=rfl
 rw [←ht]
 refine ⟨trans z.lastT true A++(if (z.hap1 sA x0).2.ty≠lastTy z.lastT A then [z.hap1 sA x0] else []),trans (lastTy (lastTy z.lastT A) (z.hap1 sA x0 :: R)) true C,(by simp only [List.append_assoc]),fun p hp=>?_,fun x hm=>hC x ((Zzc _ _ _).subset hm)⟩
 rcases List.mem_append.1 hp with hp|hp
 ·have:=hA p ((Zzc _ _ _).subset hp);omega
 split at hp
 ·rw [List.mem_singleton] at hp;subst hp;omega
 cases hp
def Zn.refW (z:Zn) (g t:Int):List (Int × Trn):=trans z.lastT (g == z.year) (z.happ (if g≤z.year then z.lastT.sv else 0) (evT z.tail g (t-g+1).toNat))
theorem ref_bet {z:Zn} (ok:TailOk z) {a b Ya Yb:Int} (hab:a<b) (ha:YearOf a Ya) (hb:YearOf (b-1) Yb) :
  (z.refW (max z.year (Ya-40)) (min (Yb+1) 9999)).filter (fun x=>decide (inAB a b x))=z.TT.filter (fun x=>decide (inAB a b x)):=by
 have y1:=ok.y1
 have y2:=ok.y2
 have ya:=ha.y2
 have yb1:=hb.y1
 have yb2:=hb.y2
 have hyy:Ya≤Yb:=by
  rcases Int.lt_or_le Yb Ya with h|h
  ·exfalso
   have h1:=ha.lo
   have h2:=hb.hi
   have f1:=Zz15 (y:=Yb+1) (by omega) (Ya-(Yb+1)).toNat (by omega)
   rw [show Yb+1+((Ya-(Yb+1)).toNat:Int)=Ya by omega] at f1
   omega
  exact h
 have hlate:∀ x∈z.TT,Yb+2≤x.1→¬ inAB a b x:=fun x hx h hc=>by
  have:=Zz3b ok hb hx h
  have:=hc.2
  omega
 have hend:∀ x∈z.TT,x.1≤9999:=fun x hx=>(Zz4u ok hx).2.1
 have hs0 : -10800≤z.lastT.sv∧z.lastT.sv≤10800:=⟨ok.s1,ok.s2⟩
 by_cases hg:Ya-40≤z.year
 ·rw [Int.max_eq_left hg]
  unfold Zn.refW
  rw [beq_self_eq_true,if_pos (Int.le_refl _)]
  by_cases ht:min (Yb+1) 9999<z.year
  ·rw [show (min (Yb+1) 9999-z.year+1).toNat=0 by omega]
   show []=_
   refine (List.filter_eq_nil_iff.2 fun x hx hc=>?_).symm
   have:=(Zz4u ok hx).1
   exact hlate x hx (by omega) (of_decide_eq_true hc)
  have e1:(10000-z.year).toNat=(min (Yb+1) 9999-z.year+1).toNat+(9999-min (Yb+1) 9999).toNat:=by omega
  have hT:z.TT=trans z.lastT true (z.happ z.lastT.sv (evT z.tail z.year (min (Yb+1) 9999-z.year+1).toNat))++trans (lastTy z.lastT (z.happ z.lastT.sv (evT z.tail z.year (min (Yb+1) 9999-z.year+1).toNat))) true (z.happ (z.aft z.lastT.sv (evT z.tail z.year (min (Yb+1) 9999-z.year+1).toNat)) (evT z.tail (z.year+((min (Yb+1) 9999-z.year+1).toNat:Int)) (9999-min (Yb+1) 9999).toNat)):=by
   unfold Zn.TT Zn.HF
   rw [e1,ZzJ,Zza,Zzf]
   simp only [Bool.true_or]
  have hs1:=Zz2D ok hs0 (Zz1f (rs:=z.tail) (a:=z.year) (n:=(min (Yb+1) 9999-z.year+1).toNat))
  have hS:∀ x∈trans (lastTy z.lastT (z.happ z.lastT.sv (evT z.tail z.year (min (Yb+1) 9999-z.year+1).toNat))) true (z.happ (z.aft z.lastT.sv (evT z.tail z.year (min (Yb+1) 9999-z.year+1).toNat)) (evT z.tail (z.year+((min (Yb+1) 9999-z.year+1).toNat:Int)) (9999-min (Yb+1) 9999).toNat)),min (Yb+1) 9999+1≤x.1:=fun x hx=>by
   have:=Zz1t ok hs1 x ((Zzc _ _ _).subset hx)
   omega
  have hm:=fun x (hx:x∈trans (lastTy z.lastT (z.happ z.lastT.sv (evT z.tail z.year (min (Yb+1) 9999-z.year+1).toNat))) true (z.happ (z.aft z.lastT.sv (evT z.tail z.year (min (Yb+1) 9999-z.year+1).toNat)) (evT z.tail (z.year+((min (Yb+1) 9999-z.year+1).toNat:Int)) (9999-min (Yb+1) 9999).toNat)))=>show x∈z.TT by rw [hT];exact List.mem_append_right _ hx
  rw [hT,List.filter_append]
  have e2:(trans (lastTy z.lastT (z.happ z.lastT.sv (evT z.tail z.year (min (Yb+1) 9999-z.year+1).toNat))) true (z.happ (z.aft z.lastT.sv (evT z.tail z.year (min (Yb+1) 9999-z.year+1).toNat)) (evT z.tail (z.year+((min (Yb+1) 9999-z.year+1).toNat:Int)) (9999-min (Yb+1) 9999).toNat))).filter (fun x=>decide (inAB a b x))=[]:=List.filter_eq_nil_iff.2 fun x hx hc=>by
   have h1:=hS x hx
   have h2:=hend x (hm x hx)
   exact hlate x (hm x hx) (by omega) (of_decide_eq_true hc)
  rw [e2,List.append_nil]
 have hg2:max z.year (Ya-40)=Ya-40:=by omega
 rw [hg2]
 unfold Zn.refW
 rw [if_neg hg,show (Ya-40 == z.year)=false from beq_eq_false_iff_ne.2 (by omega)]
 obtain ⟨P,S,hT,hP,hS⟩:=segG ok (g:=Ya-40) (t:=min (Yb+1) 9999) (s:=0) (by omega) (by omega) (by omega) (by decide)
 generalize trans z.lastT false (z.happ 0 (evT z.tail (Ya-40) (min (Yb+1) 9999-(Ya-40)+1).toNat))=W at *
 have hPm:∀ x∈P,x∈z.TT:=fun x hx=>by rw [hT];simp [hx]
 have hSm:∀ x∈S,x∈z.TT:=fun x hx=>by rw [hT];simp [hx]
 rw [hT,List.filter_append,List.filter_append]
 have e1:P.filter (fun x=>decide (inAB a b x))=[]:=List.filter_eq_nil_iff.2 fun x hx hc=>by
  have h1:=hP x hx
  have h2:=Zz2d ok ha (hPm x hx) (by omega)
  have h3:=(of_decide_eq_true hc:inAB a b x).1
  omega
 have e2:S.filter (fun x=>decide (inAB a b x))=[]:=List.filter_eq_nil_iff.2 fun x hx hc=>by
  have h1:=hS x hx
  have h2:=hend x (hSm x hx)
  exact hlate x (hSm x hx) (by omega) (of_decide_eq_true hc)
 rw [e1,e2,List.nil_append,List.append_nil]
def Zn.arnd (z:Zn) (y:Int):List (Int × Trn):=z.TT.filter fun x=>decide ((y-46≤z.year∨y-24≤x.1)∧x.1≤y+24)
def Zn.refA (z:Zn) (y:Int):List (Int × Trn):=(z.refW (max z.year (y-46)) (min (y+24) 9999)).filter fun x=>decide (y-46≤z.year∨y-24≤x.1)
theorem TT_pre {z:Zn} (ok:TailOk z) {t:Int} (h1:z.year≤t) (h2:t≤9999):z.refW z.year t=z.TT.filter fun x=>decide (x.1≤t):=by
 have hs0 : -10800≤z.lastT.sv∧z.lastT.sv≤10800:=⟨ok.s1,ok.s2⟩
 unfold Zn.refW
 rw [beq_self_eq_true,if_pos (Int.le_refl _)]
 have e1:(10000-z.year).toNat=(t-z.year+1).toNat+(9999-t).toNat:=by omega
 have hT:z.TT=trans z.lastT true (z.happ z.lastT.sv (evT z.tail z.year (t-z.year+1).toNat))++trans (lastTy z.lastT (z.happ z.lastT.sv (evT z.tail z.year (t-z.year+1).toNat))) true (z.happ (z.aft z.lastT.sv (evT z.tail z.year (t-z.year+1).toNat)) (evT z.tail (z.year+((t-z.year+1).toNat:Int)) (9999-t).toNat)):=by
  unfold Zn.TT Zn.HF
  rw [e1,ZzJ,Zza,Zzf]
  simp only [Bool.true_or]
 have hs1:=Zz2D ok hs0 (Zz1f (rs:=z.tail) (a:=z.year) (n:=(t-z.year+1).toNat))
 have hL:∀ x∈trans z.lastT true (z.happ z.lastT.sv (evT z.tail z.year (t-z.year+1).toNat)),x.1≤t:=fun x hx=>by
  have:=Zz1t ok hs0 x ((Zzc _ _ _).subset hx)
  omega
 have hS:∀ x∈trans (lastTy z.lastT (z.happ z.lastT.sv (evT z.tail z.year (t-z.year+1).toNat))) true (z.happ (z.aft z.lastT.sv (evT z.tail z.year (t-z.year+1).toNat)) (evT z.tail (z.year+((t-z.year+1).toNat:Int)) (9999-t).toNat)),t+1≤x.1:=fun x hx=>by
  have:=Zz1t ok hs1 x ((Zzc _ _ _).subset hx)
  omega
 rw [hT,List.filter_append,List.filter_eq_self.2 (fun x hx=>dTt (hL x hx)),List.filter_eq_nil_iff.2 (fun x hx hc=>by have:=hS x hx;have:=of_decide_eq_true hc;omega),List.append_nil]
theorem ref_arnd {z:Zn} (ok:TailOk z) {y:Int} (h1:z.year≤y) (h2:y≤9999):z.refA y=z.arnd y:=by
 have y1:=ok.y1
 have hend:∀ x∈z.TT,x.1≤9999:=fun x hx=>(Zz4u ok hx).2.1
 unfold Zn.refA Zn.arnd
 by_cases hg:y-46≤z.year
 ·rw [Int.max_eq_left hg,TT_pre ok (by omega) (by omega),List.filter_filter]
  refine List.filter_congr fun x hx=>?_
  have:=hend x hx
  rw [←Bool.decide_and,decide_eq_decide]
  omega
 rw [Int.max_eq_right (by omega)]
 unfold Zn.refW
 rw [if_neg hg,show (y-46 == z.year)=false from beq_eq_false_iff_ne.2 (by omega)]
 obtain ⟨P,S,hT,hP,hS⟩:=segG ok (g:=y-46) (t:=min (y+24) 9999) (s:=0) (by omega) (by omega) (by omega) (by decide)
 have hW:∀ x∈trans z.lastT false (z.happ 0 (evT z.tail (y-46) (min (y+24) 9999-(y-46)+1).toNat)),x.1≤min (y+24) 9999:=fun x hx=>by
  have:=Zz1t ok (by decide) x ((Zzc _ _ _).subset hx)
  omega
 generalize trans z.lastT false (z.happ 0 (evT z.tail (y-46) (min (y+24) 9999-(y-46)+1).toNat))=W at *
 have hSm:∀ x∈S,x∈z.TT:=fun x hx=>by rw [hT];simp [hx]
 rw [hT,List.filter_append,List.filter_append]
 have e1:P.filter (fun x=>decide ((y-46≤z.year∨y-24≤x.1)∧x.1≤y+24))=[]:=List.filter_eq_nil_iff.2 fun x hx hc=>by
  have:=hP x hx
  have:=of_decide_eq_true hc
  omega
 have e2:S.filter (fun x=>decide ((y-46≤z.year∨y-24≤x.1)∧x.1≤y+24))=[]:=List.filter_eq_nil_iff.2 fun x hx hc=>by
  have:=hS x hx
  have:=hend x (hSm x hx)
  have:=of_decide_eq_true hc
  omega
 rw [e1,e2,List.nil_append,List.append_nil]
 refine List.filter_congr fun x hx=>?_
 have:=hW x hx
 rw [decide_eq_decide]
 omega
theorem Zz40 {α:Type} {p q:α→Bool}:∀ {M:List α} {x:α},M.find? p=some x→q x=true→(M.filter q).find? p=some x
 | [],_,h,_=>by cases h
 | y :: M,x,h,hq=>by
  rw [List.find?_cons] at h
  cases hp:p y
  ·rw [hp] at h
   dsimp only at h
   rw [List.filter_cons]
   split
   ·rw [List.find?_cons,hp]
    exact Zz40 h hq
   exact Zz40 h hq
  rw [hp] at h
  injection h with h
  subst h
  rw [List.filter_cons,if_pos hq,List.find?_cons,hp]
theorem Zz2A {α:Type} {p q:α→Bool} {M:List α} (h:M.find? p=none):(M.filter q).find? p=none:=by
 rw [List.find?_eq_none] at h ⊢
 exact fun x hx=>h x (List.mem_filter.1 hx).1
theorem ref_last {z:Zn} (ok:TailOk z) {t Y:Int} (hY:YearOf t Y) :
  ((z.arnd (max Y z.year)).reverse.find? (fun x=>decide (x.2.at_≤t))).or ((z.arnd z.year).reverse.find? (fun x=>decide (x.2.at_≤t)))=z.TT.reverse.find? (fun x=>decide (x.2.at_≤t)):=by
 have y1:=ok.y1
 have y2:=ok.y2
 have Y1:=hY.y1
 have Y2:=hY.y2
 have er:∀ y,(z.arnd y).reverse=z.TT.reverse.filter fun x=>decide ((y-46≤z.year∨y-24≤x.1)∧x.1≤y+24):=fun y=>by unfold Zn.arnd;rw [List.filter_reverse]
 rw [er,er]
 cases hf:z.TT.reverse.find? (fun x=>decide (x.2.at_≤t)) with
 | none=>rw [Zz2A hf,Zz2A hf];rfl
 | some x =>
  have hx:x∈z.TT:=by simpa using List.mem_of_find?_eq_some hf
  have hat:x.2.at_≤t:=by simpa using List.find?_some hf
  have hbd:=Zz4u ok hx
  have hnl:x.1≤Y+1:=by
   rcases Int.lt_or_le (Y+1) x.1 with h|h
   ·have:=Zz3b ok hY hx (by omega);omega
   exact h
  by_cases hq:max Y z.year-46≤z.year∨max Y z.year-24≤x.1
  ·rw [Zz40 hf (dTt ⟨hq,by omega⟩)];rfl
  have hmax:max Y z.year=Y:=by omega
  rw [hmax] at hq ⊢
  have hlast:∀ u∈z.TT,u.2.at_≤t→u.2.at_≤x.2.at_:=fun u hu h=>by
   obtain ⟨A,B,hAB,hA⟩:=List.find?_eq_some_iff_append.1 hf |>.2
   have hu2:u∈z.TT.reverse:=List.mem_reverse.2 hu
   rw [hAB] at hu2
   rcases List.mem_append.1 hu2 with h3|h3
   ·have:=hA u h3
    simp at this
    omega
   rcases List.mem_cons.1 h3 with rfl|h3
   ·exact Int.le_refl _
   have hT:z.TT=B.reverse++[x]++A.reverse:=by
    have:=congrArg List.reverse hAB
    simpa using this
   have hasc:=Zz4Q ok
   rw [hT] at hasc
   have:=(List.pairwise_append.1 (List.pairwise_append.1 hasc).1).2.2 u (List.mem_reverse.2 h3) x (List.mem_singleton.2 rfl)
   exact Int.le_of_lt this.2
  have hno:∀ u∈z.TT,¬ (Y-24≤u.1∧u.1≤Y-2):=fun u hu h=>by
   have h3:=Zz2d ok hY hu h.2
   have h4:=hlast u hu (by omega)
   have h5:=Zz5o ok hx hu (by omega)
   omega
  obtain ⟨h3,c,h4⟩:=Zz2o ok (u:=Y-24) (v:=Y-2) (by omega) (by omega) (by omega) (by omega) hno
  have h5:=same_all ok h4 (by omega)
  obtain ⟨_,_,_,_,_,h6⟩:=seg ok (f:=z.year) (t:=z.year+9) (Int.le_refl _) (by omega) (by omega)
  have h7:x.1≤z.year+9:=h6 x (by rw [←h5];exact hx)
  have e0:z.TT.reverse.filter (fun x=>decide ((Y-46≤z.year∨Y-24≤x.1)∧x.1≤Y+24))=[]:=List.filter_eq_nil_iff.2 fun u hu hc=>by
   have:=h3 u (List.mem_reverse.1 hu)
   have:=of_decide_eq_true hc
   omega
  rw [e0,Zz40 hf (dTt ⟨.inl (by omega),by omega⟩)]
  rfl
end Go.Proofs.YtmmgdjgcikbhbaaGreat

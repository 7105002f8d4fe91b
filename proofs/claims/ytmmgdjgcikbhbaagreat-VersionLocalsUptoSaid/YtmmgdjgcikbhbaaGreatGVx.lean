/- Joined by merge.py: ResP, VerP2, VerP3. -/
import Derived.Test.YtmmgdjgcikbhbaaGreatGVp
/- Local time by local time: between the cuts of version.cutsOf a resolution is constant, or goes on with the local time. No program in sight. -/
namespace Go.Proofs.YtmmgdjgcikbhbaaGreat
set_option linter.unusedSimpArgs false
set_option linter.unusedVariables false
theorem Zz4A {α:Type} (k:α→Int):∀ {A B:List α},A.Pairwise (fun x y=>k x<k y)→B.Pairwise (fun x y=>k x<k y)→(∀ x,x∈A↔x∈B)→A=B
 | [],[],_,_,_=>rfl
 | [],b :: B,_,_,h=>absurd ((h b).2 List.mem_cons_self) (by simp)
 | a :: A,[],_,_,h=>absurd ((h a).1 List.mem_cons_self) (by simp)
 | a :: A,b :: B,hA,hB,h=>by
  obtain ⟨a1,a2⟩:=List.pairwise_cons.1 hA
  obtain ⟨b1,b2⟩:=List.pairwise_cons.1 hB
  have hab:a=b:=by
   rcases List.mem_cons.1 ((h a).1 List.mem_cons_self) with h1|h1
   ·exact h1
   rcases List.mem_cons.1 ((h b).2 List.mem_cons_self) with h2|h2
   ·exact h2.symm
   have:=a1 b h2
   have:=b1 a h1
   omega
  subst hab
  congr 1
  refine Zz4A k a2 b2 fun x=>⟨fun hx=>?_,fun hx=>?_⟩
  ·rcases List.mem_cons.1 ((h x).1 (List.mem_cons_of_mem _ hx)) with rfl|h1
   ·have:=a1 x hx;omega
   exact h1
  rcases List.mem_cons.1 ((h x).2 (List.mem_cons_of_mem _ hx)) with rfl|h1
  ·have:=b1 x hx;omega
  exact h1
/-! ### offsets ahead of a transition -/
theorem Zz6Y {z:Zn} (hv:z.valid=true) {A B u:Int} (h1:A-1≤u) (h2:u<B):z.typF u=typL (z.typF (A-1)) (z.betF A B) u:=by
 by_cases hAB:A≤B
 ·have hA:=T_asc hv
  obtain ⟨P1,P2,P3,hT,hb,l1,l2,l3⟩:∃ P1 P2 P3,z.T=P1++(P2++P3)∧z.betF A B=P2∧(∀ x∈P1,x.at_<A)∧(∀ x∈P2,A≤x.at_)∧(∀ x∈P3,B≤x.at_) :=
   ⟨_,_,_,Zz6f hA hAB,rfl,fun x hx=>by simpa using (List.mem_filter.1 hx).2,fun x hx=>by
    have:=(List.mem_filter.1 hx).2
    simp at this
    exact this.1,fun x hx=>by simpa using (List.mem_filter.1 hx).2⟩
  have e1:z.typF (A-1)=typL z.first P1 u:=by
   rw [typF_L,hT,ZzQ,Zz12 (B:=P2++P3)]
   ·exact Zz3h (t:=A-1) (u:=u) (fun x hx=>by have:=l1 x hx;omega) (fun x hx=>by have:=l1 x hx;omega)
   intro x hx
   rcases List.mem_append.1 hx with hx|hx
   ·have:=l2 x hx;omega
   have:=l3 x hx;omega
  have e2:z.typF u=typL (typL z.first P1 u) P2 u:=by
   rw [typF_L,hT,ZzQ,ZzQ,Zz12 (B:=P3)]
   intro x hx
   have:=l3 x hx
   omega
  rw [e2,e1,hb]
 have e0:z.betF A B=[]:=by
  unfold Zn.betF
  rw [List.filter_eq_nil_iff]
  intro x _
  simp
  omega
 rw [e0]
 obtain rfl:u=A-1:=by omega
 rfl
def chainS:Int→List Trn→List Skip
 | _,[]=>[]
 | o,x :: xs=>(if o<x.ty.off then [⟨x.at_,o,x.ty.off⟩] else [])++chainS x.ty.off xs
theorem Zz2X {B:Int}:∀ {f o b:Int} {l:List Trn},l.Pairwise (fun x y=>x.at_<y.at_)→(∀ x∈l,f<x.at_)→skipsF b false (piecesF B f o l)=(if b<o then [⟨f,b,o⟩] else [])++chainS o l
 | f,o,b,[],_,_=>by
  rw [piecesF,skipsF,skipsF,chainS]
  by_cases h:b<o
  ·rw [if_pos ⟨rfl,h⟩,if_pos h];rfl
  rw [if_neg (fun k=>h k.2),if_neg h];rfl
 | f,o,b,x :: xs,hA,hf=>by
  obtain ⟨g1,g2⟩:=List.pairwise_cons.1 hA
  rw [piecesF,if_pos (hf x List.mem_cons_self),skipsF,Zz2X g2 g1,chainS]
  by_cases h:b<o
  ·rw [if_pos ⟨rfl,h⟩,if_pos h];rfl
  rw [if_neg (fun k=>h k.2),if_neg h];rfl
theorem chain_mem {ty:Typ}:∀ {l:List Trn} {s:Skip},l.Pairwise (fun x y=>x.at_<y.at_)→(s∈chainS ty.off l↔∃ x∈l,s=⟨x.at_,(typL ty l (x.at_-1)).off,x.ty.off⟩∧(typL ty l (x.at_-1)).off<x.ty.off):=by
 intro l
 induction l generalizing ty with
 | nil=>intro s _;simp [chainS]
 | cons x xs ih =>
  intro s hA
  obtain ⟨g1,g2⟩:=List.pairwise_cons.1 hA
  rw [chainS,List.mem_append,ih (ty:=x.ty) g2]
  have e0:typL ty (x :: xs) (x.at_-1)=ty:=Zz12 fun y hy=>by
   rcases List.mem_cons.1 hy with rfl|hy
   ·omega
   have:=g1 y hy;omega
  have e1:∀ y∈xs,typL ty (x :: xs) (y.at_-1)=typL x.ty xs (y.at_-1):=fun y hy=>by
   rw [typL,if_pos (by have:=g1 y hy;omega)]
  constructor
  ·rintro (h|⟨y,hy,h⟩)
   ·refine ⟨x,List.mem_cons_self,?_⟩
    rw [e0]
    split at h
    ·rename_i hc
     exact ⟨List.mem_singleton.1 h,hc⟩
    cases h
   refine ⟨y,List.mem_cons_of_mem _ hy,?_⟩
   rw [e1 y hy]
   exact h
  rintro ⟨y,hy,h⟩
  rcases List.mem_cons.1 hy with rfl|hy
  ·rw [e0] at h
   left
   rw [if_pos h.2]
   exact List.mem_singleton.2 h.1
  rw [e1 y hy] at h
  exact .inr ⟨y,hy,h⟩
theorem chain_at {o:Int}:∀ {l:List Trn} {s:Skip},s∈chainS o l→∃ x∈l,s.at_=x.at_:=by
 intro l
 induction l generalizing o with
 | nil=>intro s h;cases h
 | cons x xs ih =>
  intro s h
  rw [chainS] at h
  rcases List.mem_append.1 h with h|h
  ·split at h
   ·exact ⟨x,List.mem_cons_self,by rw [List.mem_singleton.1 h]⟩
   cases h
  obtain ⟨y,hy,e⟩:=ih h
  exact ⟨y,List.mem_cons_of_mem _ hy,e⟩
theorem Zz3W {o:Int}:∀ {l:List Trn},l.Pairwise (fun x y=>x.at_<y.at_)→(chainS o l).Pairwise (fun x y=>x.at_<y.at_):=by
 intro l
 induction l generalizing o with
 | nil=>intro _;exact List.Pairwise.nil
 | cons x xs ih =>
  intro hA
  obtain ⟨g1,g2⟩:=List.pairwise_cons.1 hA
  rw [chainS]
  refine List.pairwise_append.2 ⟨?_,ih g2,fun s hs t ht=>?_⟩
  ·split
   ·exact List.pairwise_singleton _ _
   exact List.Pairwise.nil
  split at hs
  ·rw [List.mem_singleton.1 hs]
   obtain ⟨y,hy,e⟩:=chain_at ht
   rw [e]
   exact g1 y hy
  cases hs
def Zn.Sk (z:Zn) (s:Skip):Prop:=∃ x∈z.T,-62135596800<x.at_∧s=⟨x.at_,z.offF (x.at_-1),x.ty.off⟩∧z.offF (x.at_-1)<x.ty.off
theorem Zz1R {z:Zn} (hv:z.valid=true) {A B:Int} (hAB:A<B):z.skips A B=chainS (z.offF A) (z.betF (A+1) B):=by
 unfold Zn.skips Zn.pieces
 rw [if_pos hAB]
 have hs:z.betF A B=z.betF A (A+1)++z.betF (A+1) B:=asc_split (T_asc hv) (by omega) (by omega)
 have hA:=Zz10 hv (A+1) B
 have hm:=ZzM (z:=z) (a:=A+1) (b:=B)
 have key:∀ o,o=z.offF A→skipsF 0 true (piecesF B A o (z.betF (A+1) B))=chainS (z.offF A) (z.betF (A+1) B):=by
  rintro o rfl
  cases hl:z.betF (A+1) B with
  | nil=>rw [piecesF,skipsF,if_neg (by simp),skipsF];rfl
  | cons x xs =>
   rw [hl] at hA hm
   obtain ⟨g1,g2⟩:=List.pairwise_cons.1 hA
   have hx:=hm x List.mem_cons_self
   rw [piecesF,if_pos (by omega),skipsF,if_neg (by simp),Zz2X g2 g1,chainS]
 rw [hs]
 have hb:=Zz10 hv A (A+1)
 have hbm:=ZzM (z:=z) (a:=A) (b:=A+1)
 have ht:=Zz20 hv (a:=A) (b:=A+1) (t:=A) (Int.le_refl _) (by omega)
 cases hl:z.betF A (A+1) with
 | nil=>rw [List.nil_append];exact key _ rfl
 | cons x xs =>
  rw [hl] at hb hbm ht
  have hx:=hbm x List.mem_cons_self
  cases xs with
  | nil =>
   rw [List.singleton_append,piecesF,if_neg (by omega)]
   refine key _ ?_
   unfold Zn.offF
   rw [ht,typL,if_pos (by omega),typL]
  | cons y ys =>
   have h1:=(List.pairwise_cons.1 hb).1 y List.mem_cons_self
   have h2:=hbm y (by simp)
   omega
theorem Zz2C {z:Zn} (hv:z.valid=true) {A B:Int} (hAB:A<B) {s:Skip}:s∈z.skips A B↔∃ x∈z.betF (A+1) B,s=⟨x.at_,z.offF (x.at_-1),x.ty.off⟩∧z.offF (x.at_-1)<x.ty.off:=by
 rw [Zz1R hv hAB]
 unfold Zn.offF
 rw [chain_mem (Zz10 hv _ _)]
 have e:∀ x∈z.betF (A+1) B,typL (z.typF A) (z.betF (A+1) B) (x.at_-1)=z.typF (x.at_-1):=fun x hx=>by
  have:=ZzM x hx
  rw [Zz6Y hv (A:=A+1) (B:=B) (u:=x.at_-1) (by omega) (by omega),show A+1-1=A by omega]
 constructor
 ·rintro ⟨x,hx,h⟩
  rw [e x hx] at h
  exact ⟨x,hx,h⟩
 rintro ⟨x,hx,h⟩
 rw [←e x hx] at h
 exact ⟨x,hx,h⟩
theorem off_T {z:Zn} (hv:z.valid=true) {x:Trn} (hx:x∈z.T):z.offF x.at_=x.ty.off:=by
 have hb:x∈z.betF x.at_ (x.at_+1):=List.mem_filter.2 ⟨hx,dTt (by omega)⟩
 have hA:=Zz10 hv x.at_ (x.at_+1)
 have hm:=ZzM (z:=z) (a:=x.at_) (b:=x.at_+1)
 unfold Zn.offF
 rw [Zz20 hv (a:=x.at_) (b:=x.at_+1) (t:=x.at_) (Int.le_refl _) (by omega)]
 cases hl:z.betF x.at_ (x.at_+1) with
 | nil=>rw [hl] at hb;cases hb
 | cons y ys =>
  rw [hl] at hb hA hm
  have hy:=hm y List.mem_cons_self
  cases ys with
  | nil =>
   rw [List.mem_singleton.1 hb,typL,if_pos (Int.le_refl _),typL]
  | cons u us =>
   have h1:=(List.pairwise_cons.1 hA).1 u List.mem_cons_self
   have h2:=hm u (by simp)
   omega
theorem Zz2Q {z:Zn} (hv:z.valid=true) {l:Int} (hl : -62135596800≤l∧l<253402300800) {s:Skip}:(s∈z.skips (wideA l) (wideB (l+1))∧inSkip l s=true)↔z.Sk s∧inSkip l s=true:=by
 have hab:wideA l<wideB (l+1):=by unfold wideA wideB;omega
 rw [Zz2C hv hab]
 constructor
 ·rintro ⟨⟨x,hx,h1,h2⟩,h3⟩
  have hm:=ZzM x hx
  refine ⟨⟨x,(List.mem_filter.1 hx).1,?_,h1,h2⟩,h3⟩
  unfold wideA at hm
  omega
 rintro ⟨⟨x,hx,h0,h1,h2⟩,h3⟩
 refine ⟨⟨x,List.mem_filter.2 ⟨hx,dTt ?_⟩,h1,h2⟩,h3⟩
 have hT:=T_in hv x hx
 have ho:=Zz17 hv (x.at_-1)
 have ho2:=Zz17 hv x.at_
 rw [off_T hv hx] at ho2
 subst h1
 unfold inSkip at h3
 simp only [decide_eq_true_eq] at h3
 unfold wideA wideB
 omega
/-! ### the cuts -/
def chainC:Int→List Trn→List Int
 | _,[]=>[]
 | o,x :: xs=>[x.at_+o,x.at_+x.ty.off,-62135596800+x.ty.off,253402300800+x.ty.off]++chainC x.ty.off xs
def cutA (a:Int):Int:=max (-62135596800) (a-187200)
def cutB (b:Int):Int:=min 253402300800 (b+187200)
def Zn.cut0 (z:Zn) (a:Int):Int:=if -62135596800<cutA a then z.offF (cutA a-1) else z.offF (cutA a)
def Zn.cutsF (z:Zn) (a b:Int):List Int:=[-62135596800+z.cut0 a,253402300800+z.cut0 a,-62135596800+z.offF (cutA a),253402300800+z.offF (cutA a)]++chainC (z.cut0 a) (z.betF (cutA a) (cutB b))
theorem Zz6j {o:Int}:∀ {l:List Trn} {x:Trn},x∈l→x.at_+x.ty.off∈chainC o l ∧ -62135596800+x.ty.off∈chainC o l∧253402300800+x.ty.off∈chainC o l:=by
 intro l
 induction l generalizing o with
 | nil=>intro x h;cases h
 | cons y ys ih =>
  intro x h
  rw [chainC]
  rcases List.mem_cons.1 h with rfl|h
  ·simp
  obtain ⟨h1,h2,h3⟩:=ih (o:=y.ty.off) h
  exact ⟨List.mem_append_right _ h1,List.mem_append_right _ h2,List.mem_append_right _ h3⟩
theorem Zz4C {ty:Typ}:∀ {l:List Trn} {x:Trn},l.Pairwise (fun x y=>x.at_<y.at_)→x∈l→x.at_+(typL ty l (x.at_-1)).off∈chainC ty.off l:=by
 intro l
 induction l generalizing ty with
 | nil=>intro x _ h;cases h
 | cons y ys ih =>
  intro x hA h
  obtain ⟨g1,g2⟩:=List.pairwise_cons.1 hA
  rw [chainC]
  rcases List.mem_cons.1 h with rfl|h
  ·rw [show typL ty (x :: ys) (x.at_-1)=ty from Zz12 fun u hu=>by
    rcases List.mem_cons.1 hu with rfl|hu
    ·omega
    have:=g1 u hu;omega]
   simp
  rw [show typL ty (y :: ys) (x.at_-1)=typL y.ty ys (x.at_-1) by rw [typL,if_pos (by have:=g1 x h;omega)]]
  exact List.mem_append_right _ (ih g2 h)
def Zn.cutsR (z:Zn) (a b:Int):List Int:=[-62135596800+z.offF (cutA a),253402300800+z.offF (cutA a)]++chainC (z.cut0 a) (z.betF (cutA a) (cutB b))
theorem cutsR_sub {z:Zn} {a b c:Int} (h:c∈z.cutsR a b):c∈z.cutsF a b :=
 List.mem_cons_of_mem _ (List.mem_cons_of_mem _ h)
theorem Zz3Y {z:Zn} (hv:z.valid=true) {a b u:Int} (h1:cutA a≤u) (h2:u<cutB b) : -62135596800+z.offF u∈z.cutsR a b∧253402300800+z.offF u∈z.cutsR a b:=by
 unfold Zn.cutsR
 have ht:=Zz20 hv h1 h2
 have hm:typL (z.typF (cutA a)) (z.betF (cutA a) (cutB b)) u=z.typF (cutA a)∨∃ x∈z.betF (cutA a) (cutB b),typL (z.typF (cutA a)) (z.betF (cutA a) (cutB b)) u=x.ty:=by
  rw [typL_rev]
  cases hf:(z.betF (cutA a) (cutB b)).reverse.find? (fun x=>decide (x.at_≤u)) with
  | none=>exact .inl rfl
  | some x=>exact .inr ⟨x,List.mem_reverse.1 (List.mem_of_find?_eq_some hf),rfl⟩
 rcases hm with hm|⟨x,hx,hm⟩
 ·have e:z.offF u=z.offF (cutA a):=by unfold Zn.offF;rw [ht,hm]
  rw [e]
  simp
 have e:z.offF u=x.ty.off:=by unfold Zn.offF;rw [ht,hm]
 rw [e]
 have:=Zz6j (o:=z.cut0 a) hx
 exact ⟨List.mem_append_right _ this.2.1,List.mem_append_right _ this.2.2⟩
theorem Zz5t {z:Zn} {a b:Int} {x:Trn} (hx:x∈z.betF (cutA a) (cutB b)):x.at_+x.ty.off∈z.cutsR a b ∧ -62135596800+x.ty.off∈z.cutsR a b∧253402300800+x.ty.off∈z.cutsR a b:=by
 have:=Zz6j (o:=z.cut0 a) hx
 unfold Zn.cutsR
 exact ⟨List.mem_append_right _ this.1,List.mem_append_right _ this.2.1,List.mem_append_right _ this.2.2⟩
theorem Zz5u {z:Zn} (hv:z.valid=true) {a b:Int} {x:Trn} (hx:x∈z.betF (cutA a) (cutB b)) (h0 : -62135596800<x.at_):x.at_+z.offF (x.at_-1)∈z.cutsR a b∧(cutA a<x.at_ → -62135596800+z.offF (x.at_-1)∈z.cutsR a b∧253402300800+z.offF (x.at_-1)∈z.cutsR a b):=by
 have hm:=ZzM x hx
 have hA:=Zz10 hv (cutA a) (cutB b)
 by_cases h1 : -62135596800<cutA a
 ·have h2:z.cut0 a=(z.typF (cutA a-1)).off:=if_pos h1
  have h3:=Zz4C (ty:=z.typF (cutA a-1)) hA hx
  rw [←Zz6Y hv (A:=cutA a) (B:=cutB b) (u:=x.at_-1) (by omega) (by omega)] at h3
  refine ⟨?_,?_⟩
  ·unfold Zn.cutsR
   rw [h2]
   exact List.mem_append_right _ h3
  exact fun h4=>Zz3Y hv (by omega) (by omega)
 have h2:z.cut0 a=(z.typF (cutA a)).off:=if_neg h1
 have h5:cutA a=-62135596800:=by unfold cutA at *;omega
 have h3:=Zz4C (ty:=z.typF (cutA a)) hA hx
 rw [←Zz20 hv (a:=cutA a) (b:=cutB b) (t:=x.at_-1) (by omega) (by omega)] at h3
 refine ⟨?_,fun h4=>Zz3Y hv (by omega) (by omega)⟩
 unfold Zn.cutsR
 rw [h2]
 exact List.mem_append_right _ h3
/-! ### between the cuts -/
structure Quiet (z:Zn) (a b f t:Int):Prop where
 v:z.valid=true
 a0 : -62135596800≤a
 b0:b≤253402300800
 f0:a≤f
 t0:t≤b
 no:∀ c∈z.cutsR a b,¬ (f<c∧c<t)
theorem Zz47 {z:Zn} (hv:z.valid=true) {u v:Int} (h:u≤v) (hno:∀ x∈z.T,u<x.at_→¬ x.at_≤v):z.offF v=z.offF u:=by
 unfold Zn.offF
 rw [Zz6Z hv h fun x hx=>?_]
 have hm:=ZzM x hx
 have:=hno x (List.mem_filter.1 hx).1
 omega
theorem first_T {z:Zn} (hv:z.valid=true) {u v:Int} (h:z.betF (u+1) (v+1)≠[]):∃ x∈z.T,u<x.at_∧x.at_≤v∧z.offF (x.at_-1)=z.offF u:=by
 have hA:=Zz10 hv (u+1) (v+1)
 cases hl:z.betF (u+1) (v+1) with
 | nil=>exact absurd hl h
 | cons x xs =>
  have hx:x∈z.betF (u+1) (v+1):=by rw [hl];exact List.mem_cons_self
  have hm:=ZzM x hx
  rw [hl] at hA
  refine ⟨x,(List.mem_filter.1 hx).1,by omega,by omega,?_⟩
  refine Zz47 hv (by omega) fun y hy h1 h2=>?_
  have hy2:y∈z.betF (u+1) (v+1):=List.mem_filter.2 ⟨hy,dTt (by omega)⟩
  rw [hl] at hy2
  rcases List.mem_cons.1 hy2 with rfl|hy2
  ·omega
  have:=(List.pairwise_cons.1 hA).1 y hy2
  omega
theorem last_T {z:Zn} (hv:z.valid=true) {u v:Int} (h:z.betF (u+1) (v+1)≠[]):∃ x∈z.T,u<x.at_∧x.at_≤v∧x.ty.off=z.offF v:=by
 have hA:=Zz10 hv (u+1) (v+1)
 rcases Zz5l (z.betF (u+1) (v+1)) with hl|⟨l,x,hl⟩
 ·exact absurd hl h
 have hx:x∈z.betF (u+1) (v+1):=by rw [hl];simp
 have hm:=ZzM x hx
 refine ⟨x,(List.mem_filter.1 hx).1,by omega,by omega,?_⟩
 rw [←off_T hv (List.mem_filter.1 hx).1]
 symm
 refine Zz47 hv (by omega) fun y hy h1 h2=>?_
 have hy2:y∈z.betF (u+1) (v+1):=List.mem_filter.2 ⟨hy,dTt (by omega)⟩
 rw [hl] at hy2 hA
 rcases List.mem_append.1 hy2 with hy2|hy2
 ·have:=(List.pairwise_append.1 hA).2.2 y hy2 x (by simp)
  omega
 rw [List.mem_singleton.1 hy2] at h1
 omega
theorem Zz6K {z:Zn} (hv:z.valid=true) {u v:Int} (h:u≤v):z.offF v=z.offF u∨z.betF (u+1) (v+1)≠[]:=by
 by_cases hb:z.betF (u+1) (v+1)=[]
 ·left
  refine Zz47 hv h fun x hx h1 h2=>?_
  have:x∈z.betF (u+1) (v+1):=List.mem_filter.2 ⟨hx,dTt (by omega)⟩
  rw [hb] at this
  cases this
 exact .inr hb
theorem Zz4W {z:Zn} {a b f t:Int} (q:Quiet z a b f t) {l:Int} (h1:f≤l) (h2:l<t) (u:Int):u∈z.insts f↔u+(l-f)∈z.insts l:=by
 have q1:=q.a0
 have q2:=q.b0
 have q3:=q.f0
 have q4:=q.t0
 rw [Zz2L q.v,Zz2L q.v]
 constructor
 ·rintro ⟨h3,h4⟩
  have ho:=Zz17 q.v u
  have hc:=Zz3Y q.v (a:=a) (b:=b) (u:=u) (by unfold cutA;omega) (by unfold cutB;omega)
  have n1:=q.no _ hc.2
  rcases Zz6K q.v (u:=u) (v:=u+(l-f)) (by omega) with e|e
  ·exact ⟨by omega,by omega⟩
  obtain ⟨x,hx,k1,k2,k3⟩:=first_T q.v e
  have hT:=T_in q.v x hx
  have hb:=Zz5u q.v (a:=a) (b:=b) (x:=x) (List.mem_filter.2 ⟨hx,dTt (by unfold cutA cutB;omega)⟩) (by omega)
  rw [k3] at hb
  have:=q.no _ hb.1
  omega
 rintro ⟨h3,h4⟩
 have ho:=Zz17 q.v (u+(l-f))
 have hc:=Zz3Y q.v (a:=a) (b:=b) (u:=u+(l-f)) (by unfold cutA;omega) (by unfold cutB;omega)
 have n1:=q.no _ hc.1
 rcases Zz6K q.v (u:=u) (v:=u+(l-f)) (by omega) with e|e
 ·exact ⟨by omega,by omega⟩
 obtain ⟨x,hx,k1,k2,k3⟩:=last_T q.v e
 have hT:=T_in q.v x hx
 have hb:=Zz5t (z:=z) (a:=a) (b:=b) (x:=x) (List.mem_filter.2 ⟨hx,dTt (by unfold cutA cutB;omega)⟩)
 rw [k3] at hb
 have:=q.no _ hb.1
 omega
theorem Zz7E {z:Zn} {a b f t:Int} (q:Quiet z a b f t) {l:Int} (h1:f≤l) (h2:l<t):z.insts l=(z.insts f).map (fun u=>u+(l-f)):=by
 refine Zz4A (fun x=>x) (Zz2J q.v l) ?_ fun x=>?_
 ·rw [List.pairwise_map]
  exact (Zz2J q.v f).imp fun h=>by omega
 rw [List.mem_map]
 constructor
 ·intro hx
  refine ⟨x-(l-f),(Zz4W q h1 h2 _).2 ?_,by omega⟩
  rwa [show x-(l-f)+(l-f)=x by omega]
 rintro ⟨u,hu,rfl⟩
 exact (Zz4W q h1 h2 u).1 hu
theorem Zz4X {z:Zn} {a b f t:Int} (q:Quiet z a b f t) {l:Int} (h1:f≤l) (h2:l<t) {s:Skip} (hs:z.Sk s):inSkip f s=inSkip l s:=by
 have q1:=q.a0
 have q2:=q.b0
 have q3:=q.f0
 have q4:=q.t0
 obtain ⟨x,hx,h0,rfl,h3⟩:=hs
 have hT:=T_in q.v x hx
 have ho:=Zz17 q.v (x.at_-1)
 have ho2:=Zz17 q.v x.at_
 rw [off_T q.v hx] at ho2
 unfold inSkip
 dsimp only
 rw [decide_eq_decide]
 by_cases hc:cutA a≤x.at_∧x.at_<cutB b
 ·have hb:x∈z.betF (cutA a) (cutB b):=List.mem_filter.2 ⟨hx,dTt hc⟩
  have n1:=q.no _ (Zz5u q.v (a:=a) (b:=b) hb h0).1
  have n2:=q.no _ (Zz5t (a:=a) (b:=b) hb).1
  omega
 unfold cutA cutB at hc
 omega
theorem quiet_find {z:Zn} {a b f t:Int} (q:Quiet z a b f t) {l:Int} (h1:f≤l) (h2:l<t):(z.skips (wideA l) (wideB (l+1))).reverse.find? (inSkip l)=(z.skips (wideA f) (wideB (f+1))).reverse.find? (inSkip f):=by
 have q1:=q.a0
 have q2:=q.b0
 have q3:=q.f0
 have q4:=q.t0
 have hA:∀ l,-62135596800≤l∧l<253402300800→(z.skips (wideA l) (wideB (l+1))).Pairwise (fun x y=>x.at_<y.at_):=fun l hl=>by
  rw [Zz1R q.v (by unfold wideA wideB;omega)]
  exact Zz3W (Zz10 q.v _ _)
 have e:(z.skips (wideA l) (wideB (l+1))).filter (inSkip l)=(z.skips (wideA f) (wideB (f+1))).filter (inSkip f):=by
  refine Zz4A Skip.at_ ((hA l (by omega)).filter _) ((hA f (by omega)).filter _) fun s=>?_
  rw [List.mem_filter,List.mem_filter,Zz2Q q.v (by omega),Zz2Q q.v (by omega)]
  constructor
  ·rintro ⟨k1,k2⟩
   exact ⟨k1,by rw [Zz4X q h1 h2 k1];exact k2⟩
  rintro ⟨k1,k2⟩
  exact ⟨k1,by rw [←Zz4X q h1 h2 k1];exact k2⟩
 rw [←List.head?_filter,←List.head?_filter,List.filter_reverse,List.filter_reverse,e]
def Shape (r:Int→Int × Int) (f t:Int):Prop:=∃ v e s:Int,(s=0∨s=1)∧(e≠0→v=0∧s=0)∧∀ l,f≤l→l<t→r l=(v+s*(l-f),e)
theorem ZzH {r:Int→Int × Int} {f t v e:Int} (he:e≠0→v=0) (h:∀ l,f≤l→l<t→r l=(v,e)):Shape r f t :=
 ⟨v,e,0,.inl rfl,fun k=>⟨he k,rfl⟩,fun l h1 h2=>by rw [h l h1 h2,Int.zero_mul,Int.add_zero]⟩
theorem Zz1D {r:Int→Int × Int} {f t v:Int} (h:∀ l,f≤l→l<t→r l=(v+(l-f),0)):Shape r f t :=
 ⟨v,0,1,.inr rfl,fun k=>absurd rfl k,fun l h1 h2=>by rw [h l h1 h2,Int.one_mul]⟩
theorem Zz1P {z:Zn} {a b f t:Int} (q:Quiet z a b f t) (g k:Int):Shape (fun l=>z.resV l g k) f t:=by
 have q1:=q.a0
 have q2:=q.b0
 have q3:=q.f0
 have q4:=q.t0
 by_cases hp:polB g k=false
 ·exact ZzH (v:=0) (e:=1) (fun _=>rfl) fun l h1 h2=>by
   unfold Zn.resV
   rw [if_pos (.inr hp)]
 have hr:∀ l,f≤l→l<t→z.resV l g k=z.resF l g k:=fun l h1 h2=>by
  unfold Zn.resV inTB
  rw [if_neg (by simp [q.v,hp]),if_neg (by simp;omega)]
 have hi:∀ l,f≤l→l<t→z.insts l=(z.insts f).map (fun u=>u+(l-f)):=fun l h1 h2=>Zz7E q h1 h2
 by_cases c1:(z.insts f).length=1
 ·refine Zz1D (v:=(z.insts f)[0]!) fun l h1 h2=>?_
  rw [hr l h1 h2]
  unfold Zn.resF
  rw [hi l h1 h2,if_pos (by rw [List.length_map];exact c1)]
  rw [getElem!_pos _ 0 (by rw [List.length_map];omega),getElem!_pos _ 0 (by omega),List.getElem_map]
 by_cases c2:1<(z.insts f).length
 ·have hn:∀ l,f≤l→l<t→z.resV l g k=(if k=1 then ((0:Int),(12:Int)) else if k=2 then ((z.insts f)[0]! + (l-f),(0:Int)) else ((z.insts f)[(z.insts f).length-1]! + (l-f),(0:Int))):=fun l h1 h2=>by
   rw [hr l h1 h2]
   unfold Zn.resF
   rw [hi l h1 h2,List.length_map,if_neg c1,if_pos c2,getElem!_pos (List.map _ _) 0 (by rw [List.length_map];omega),getElem!_pos (List.map _ _) ((z.insts f).length-1) (by rw [List.length_map];omega),getElem!_pos (z.insts f) 0 (by omega),getElem!_pos (z.insts f) ((z.insts f).length-1) (by omega),List.getElem_map,List.getElem_map]
  by_cases k1:k=1
  ·exact ZzH (v:=0) (e:=12) (fun _=>rfl) fun l h1 h2=>by rw [hn l h1 h2,if_pos k1]
  by_cases k2:k=2
  ·exact Zz1D fun l h1 h2=>by rw [hn l h1 h2,if_neg k1,if_pos k2]
  exact Zz1D fun l h1 h2=>by rw [hn l h1 h2,if_neg k1,if_neg k2]
 have hn:∀ l,f≤l→l<t→z.resV l g k=match (z.skips (wideA f) (wideB (f+1))).reverse.find? (inSkip f) with
   | none=>(0,2)
   | some x=>if (gapF g l x).2≠0 then (0,(gapF g l x).2) else if inTB (gapF g l x).1=true then ((gapF g l x).1,0) else (0,2):=fun l h1 h2=>by
  rw [hr l h1 h2]
  unfold Zn.resF
  rw [hi l h1 h2,List.length_map,if_neg c1,if_neg c2,quiet_find q h1 h2]
  cases (z.skips (wideA f) (wideB (f+1))).reverse.find? (inSkip f) <;> rfl
 by_cases hft:f<t
 ·cases hf:(z.skips (wideA f) (wideB (f+1))).reverse.find? (inSkip f) with
  | none =>
   rw [hf] at hn
   exact ZzH (v:=0) (e:=2) (fun _=>rfl) fun l h1 h2=>hn l h1 h2
  | some x =>
   rw [hf] at hn
   have hxs:x∈z.skips (wideA f) (wideB (f+1)):=List.mem_reverse.1 (List.mem_of_find?_eq_some hf)
   have hxi:inSkip f x=true:=List.find?_some hf
   obtain ⟨y,hy,hy0,rfl,hy1⟩:=((Zz2Q q.v (by omega)).1 ⟨hxs,hxi⟩).1
   have hT:=T_in q.v y hy
   have ho:=Zz17 q.v (y.at_-1)
   have ho2:=Zz17 q.v y.at_
   rw [off_T q.v hy] at ho2
   unfold inSkip at hxi
   simp only [decide_eq_true_eq] at hxi
   have hc:cutA a≤y.at_∧y.at_<cutB b:=by unfold cutA cutB;omega
   have hb:y∈z.betF (cutA a) (cutB b):=List.mem_filter.2 ⟨hy,dTt hc⟩
   have n1:=Zz5u q.v (a:=a) (b:=b) hb hy0
   have n2:=Zz5t (z:=z) (a:=a) (b:=b) hb
   have n3:=n1.2 (by unfold cutA;omega)
   have m1:=q.no _ n3.1
   have m2:=q.no _ n3.2
   have m3:=q.no _ n2.2.1
   have m4:=q.no _ n2.2.2
   unfold gapF at hn
   dsimp only at hn
   by_cases g1:g=1
   ·exact ZzH (v:=0) (e:=11) (fun _=>rfl) fun l h1 h2=>by rw [hn l h1 h2];simp [g1]
   by_cases g2:g=2
   ·by_cases hin:inTB (f-z.offF (y.at_-1))=true
    ·refine Zz1D (v:=f-z.offF (y.at_-1)) fun l h1 h2=>?_
     have:inTB (l-z.offF (y.at_-1))=true:=by unfold inTB at *;simp at *;omega
     rw [hn l h1 h2]
     simp [g2,this]
     omega
    refine ZzH (v:=0) (e:=2) (fun _=>rfl) fun l h1 h2=>?_
    have:inTB (l-z.offF (y.at_-1))=false:=by unfold inTB at *;simp at *;omega
    rw [hn l h1 h2]
    simp [g2,this]
   by_cases g3:g=3
   ·by_cases hin:inTB (f-y.ty.off)=true
    ·refine Zz1D (v:=f-y.ty.off) fun l h1 h2=>?_
     have:inTB (l-y.ty.off)=true:=by unfold inTB at *;simp at *;omega
     rw [hn l h1 h2]
     simp [g3,this]
     omega
    refine ZzH (v:=0) (e:=2) (fun _=>rfl) fun l h1 h2=>?_
    have:inTB (l-y.ty.off)=false:=by unfold inTB at *;simp at *;omega
    rw [hn l h1 h2]
    simp [g3,this]
   refine ZzH (v:=y.at_) (e:=0) (fun k=>absurd rfl k) fun l h1 h2=>?_
   have:inTB y.at_=true:=by unfold inTB;simp;omega
   rw [hn l h1 h2]
   simp [g1,g2,g3,this]
 exact ZzH (v:=0) (e:=2) (fun _=>rfl) fun l h1 h2=>by omega
/-! ### where two resolutions differ, in a piece -/
def partF (r q:Int→Int × Int) (s:Spn):List Spn :=
 if (r s.fr).2≠(q s.fr).2 then [s]
 else if (r s.fr).2≠0 then []
 else if (r (s.to-1)).1-(r s.fr).1=(q (s.to-1)).1-(q s.fr).1 then (if (r s.fr).1≠(q s.fr).1 then [s] else [])
 else
  let e:=if (r (s.to-1)).1-(r s.fr).1=s.to-1-s.fr then s.fr+(q s.fr).1-(r s.fr).1 else s.fr+(r s.fr).1-(q s.fr).1
  if e<s.fr∨s.to≤e then [s]
  else (if s.fr<e then [⟨s.fr,e⟩] else [])++(if e+1<s.to then [⟨e+1,s.to⟩] else [])
theorem part_has {r q:Int→Int × Int} {s:Spn} (hs:s.fr<s.to) (hr:Shape r s.fr s.to) (hq:Shape q s.fr s.to) (l:Int):hasL (partF r q s) l↔s.has l∧r l≠q l:=by
 obtain ⟨f,t⟩:=s
 dsimp only at *
 obtain ⟨v1,e1,s1,a1,b1,c1⟩:=hr
 obtain ⟨v2,e2,s2,a2,b2,c2⟩:=hq
 unfold partF
 dsimp only
 have hone:hasL [⟨f,t⟩] l↔(f≤l∧l<t):=ZzD
 have hh:(⟨f,t⟩:Spn).has l↔(f≤l∧l<t):=Iff.rfl
 rw [c1 f (Int.le_refl _) hs,c2 f (Int.le_refl _) hs,c1 (t-1) (by omega) (by omega),c2 (t-1) (by omega) (by omega)]
 dsimp only
 rw [show v1+s1*(f-f)=v1 by rw [Int.sub_self,Int.mul_zero,Int.add_zero],show v2+s2*(f-f)=v2 by rw [Int.sub_self,Int.mul_zero,Int.add_zero]]
 have hne:(f≤l∧l<t)→(r l≠q l↔¬ (v1+s1*(l-f)=v2+s2*(l-f)∧e1=e2)):=fun h=>by
  rw [c1 l h.1 h.2,c2 l h.1 h.2,Ne,Prod.mk.injEq]
 by_cases he:e1≠e2
 ·rw [if_pos he,hone,hh]
  exact ⟨fun h=>⟨h,(hne h).2 fun k=>he k.2⟩,fun h=>h.1⟩
 rw [if_neg he]
 have he':e1=e2:=Classical.not_not.1 he
 by_cases h0:e1≠0
 ·rw [if_pos h0]
  obtain ⟨rfl,rfl⟩:=b1 h0
  obtain ⟨rfl,rfl⟩:=b2 (he'▸h0)
  refine ⟨fun h=>absurd h (ZzY l),fun h=>absurd ⟨rfl,he'⟩ ((hne (hh.1 h.1)).1 h.2)⟩
 rw [if_neg h0]
 have i0:hasL ([]:List Spn) l↔False:=⟨ZzY l,False.elim⟩
 rcases a1 with rfl|rfl <;> rcases a2 with rfl|rfl <;> simp only [Int.zero_mul,Int.one_mul,Int.add_zero] at *
 ·rw [if_pos (by omega)]
  by_cases hv:v1≠v2
  ·rw [if_pos hv,hone,hh]
   exact ⟨fun h=>⟨h,(hne h).2 fun k=>hv k.1⟩,fun h=>h.1⟩
  rw [if_neg hv,i0,hh]
  exact ⟨False.elim,fun h=>(hne h.1).1 h.2 ⟨Classical.not_not.1 hv,he'⟩⟩
 ·by_cases hl:v1-v1=v2+(t-1-f)-v2
  ·rw [if_pos hl]
   by_cases hv:v1≠v2
   ·rw [if_pos hv,hone,hh]
    exact ⟨fun h=>⟨h,(hne h).2 fun k=>hv (by omega)⟩,fun h=>h.1⟩
   rw [if_neg hv,i0,hh]
   exact ⟨False.elim,fun h=>(hne h.1).1 h.2 ⟨by omega,he'⟩⟩
  have he2:(if v1-v1=t-1-f then f+v2-v1 else f+v1-v2)=f+v1-v2:=if_neg (by omega)
  rw [if_neg hl]
  simp only [he2]
  by_cases ho:f+v1-v2<f∨t≤f+v1-v2
  ·rw [if_pos ho,hone,hh]
   exact ⟨fun h=>⟨h,(hne h).2 fun k=>by omega⟩,fun h=>h.1⟩
  rw [if_neg ho,Zzm,hh]
  have p1:hasL (if f<f+v1-v2 then [⟨f,f+v1-v2⟩] else []) l↔(f≤l∧l<f+v1-v2):=by
   split
   ·exact ZzD
   rw [i0];exact ⟨False.elim,fun h=>by omega⟩
  have p2:hasL (if f+v1-v2+1<t then [⟨f+v1-v2+1,t⟩] else []) l↔(f+v1-v2+1≤l∧l<t):=by
   split
   ·exact ZzD
   rw [i0];exact ⟨False.elim,fun h=>by omega⟩
  rw [p1,p2]
  constructor
  ·intro h
   have hin:f≤l∧l<t:=by omega
   exact ⟨hin,(hne hin).2 fun k=>by omega⟩
  rintro ⟨h,k⟩
  have:=(hne h).1 k
  by_cases hx:v1=v2+(l-f)
  ·exact absurd ⟨hx,he'⟩ this
  omega
 ·by_cases hl:v1+(t-1-f)-v1=v2-v2
  ·rw [if_pos hl]
   by_cases hv:v1≠v2
   ·rw [if_pos hv,hone,hh]
    exact ⟨fun h=>⟨h,(hne h).2 fun k=>hv (by omega)⟩,fun h=>h.1⟩
   rw [if_neg hv,i0,hh]
   exact ⟨False.elim,fun h=>(hne h.1).1 h.2 ⟨by omega,he'⟩⟩
  have he2:(if v1+(t-1-f)-v1=t-1-f then f+v2-v1 else f+v1-v2)=f+v2-v1:=if_pos (by omega)
  rw [if_neg hl]
  simp only [he2]
  by_cases ho:f+v2-v1<f∨t≤f+v2-v1
  ·rw [if_pos ho,hone,hh]
   exact ⟨fun h=>⟨h,(hne h).2 fun k=>by omega⟩,fun h=>h.1⟩
  rw [if_neg ho,Zzm,hh]
  have p1:hasL (if f<f+v2-v1 then [⟨f,f+v2-v1⟩] else []) l↔(f≤l∧l<f+v2-v1):=by
   split
   ·exact ZzD
   rw [i0];exact ⟨False.elim,fun h=>by omega⟩
  have p2:hasL (if f+v2-v1+1<t then [⟨f+v2-v1+1,t⟩] else []) l↔(f+v2-v1+1≤l∧l<t):=by
   split
   ·exact ZzD
   rw [i0];exact ⟨False.elim,fun h=>by omega⟩
  rw [p1,p2]
  constructor
  ·intro h
   have hin:f≤l∧l<t:=by omega
   exact ⟨hin,(hne hin).2 fun k=>by omega⟩
  rintro ⟨h,k⟩
  have:=(hne h).1 k
  by_cases hx:v1+(l-f)=v2
  ·exact absurd ⟨hx,he'⟩ this
  omega
 rw [if_pos (by omega)]
 by_cases hv:v1≠v2
 ·rw [if_pos hv,hone,hh]
  exact ⟨fun h=>⟨h,(hne h).2 fun k=>hv (by omega)⟩,fun h=>h.1⟩
 rw [if_neg hv,i0,hh]
 exact ⟨False.elim,fun h=>(hne h.1).1 h.2 ⟨by omega,he'⟩⟩
/- version.Instants and version.Locals: how many pieces, and where two zones differ. No program in sight. -/
open Go.Sort
theorem Zz7N {z:Zn} (ok:TailOk z) {R Y:Nat} (hl:z.tail.length≤R) {a b:Int} (hY:b-a+2000000≤31536000*(Y:Int)):(z.TT.filter fun x=>decide (inAB a b x)).length≤R*(Y+1):=by
 cases h:z.TT.filter fun x=>decide (inAB a b x) with
 | nil=>exact Nat.zero_le _
 | cons x0 l =>
  have hA:=(Zz4Q ok).filter fun x=>decide (inAB a b x)
  rw [h] at hA
  have hx0:x0∈z.TT.filter fun x=>decide (inAB a b x):=by rw [h];exact List.mem_cons_self
  obtain ⟨m0,i0⟩:=List.mem_filter.1 hx0
  have i0:inAB a b x0:=of_decide_eq_true i0
  have b0:=Zz4u ok m0
  have y1:=ok.y1
  have key:∀ x∈z.TT.filter (fun x=>decide (inAB a b x)),x0.1≤x.1∧x.1≤x0.1+Y:=fun x hx=>by
   obtain ⟨m1,i1⟩:=List.mem_filter.1 hx
   have i1:inAB a b x:=of_decide_eq_true i1
   have b1:=Zz4u ok m1
   have hle:x0.1≤x.1:=by
    rw [h] at hx
    rcases List.mem_cons.1 hx with rfl|hx
    ·exact Int.le_refl _
    exact ((List.pairwise_cons.1 hA).1 x hx).1
   refine ⟨hle,?_⟩
   by_cases hle2:x.1≤x0.1+Y
   ·exact hle2
   exfalso
   have hf:=Zz3G (a:=x0.1) (b:=x.1) (by omega) hle
   unfold inAB at i0 i1
   unfold loL hiL at b0 b1
   omega
  have h2:(z.TT.filter fun x=>decide (inAB a b x)).length≤(z.TT.filter fun x=>decide (x0.1≤x.1∧x.1≤x0.1+Y)).length:=by
   have e:z.TT.filter (fun x=>decide (inAB a b x))=(z.TT.filter (fun x=>decide (inAB a b x))).filter (fun x=>decide (x0.1≤x.1∧x.1≤x0.1+Y)):=(List.filter_eq_self.2 fun x hx=>dTt (key x hx)).symm
   rw [e,List.filter_filter]
   rw [show (z.TT.filter fun x=>(decide (x0.1≤x.1∧x.1≤x0.1+Y) && decide (inAB a b x)))=(z.TT.filter fun x=>decide (x0.1≤x.1∧x.1≤x0.1+Y)).filter fun x=>decide (inAB a b x) by rw [List.filter_filter];congr 1;funext x;exact Bool.and_comm _ _]
   exact List.length_filter_le _ _
  have h3:=TT_win z x0.1 (x0.1+Y)
  have h4:z.tail.length*(x0.1+Y+1-x0.1).toNat≤R*(Y+1):=by
   rw [show (x0.1+(Y:Int)+1-x0.1).toNat=Y+1 by omega]
   exact Nat.mul_le_mul_right _ hl
  rw [h] at h2
  omega
theorem Zz1g {z:Zn} (hv:z.valid=true) {T R Y:Nat} (ht:z.table.length≤T) (hl:z.tail.length≤R) {a b:Int} (hY:b-a+2000000≤31536000*(Y:Int)):(z.betF a b).length≤T+R*(Y+1):=by
 have h0:=List.length_filter_le (fun x:Trn=>decide (a≤x.at_∧x.at_<b)) z.table
 by_cases hn:z.tail=[]
 ·unfold Zn.betF Zn.T
  rw [if_pos hn,List.append_nil]
  omega
 rw [Zz22 hn,List.length_append,List.length_map]
 have:=Zz7N (Zzu hv hn) hl hY
 omega
theorem cutA_le {a b:Int} (hab:a<b) (h1 : -62135596800≤a) (h2:b≤253402300800):cutA a<cutB b:=by unfold cutA cutB;omega
theorem Zz1i:∀ (o:Int) (l:List Trn),(chainC o l).length=4*l.length
 | o,[]=>rfl
 | o,x :: xs=>by rw [chainC,List.length_append,Zz1i];simp;omega
theorem Zz7a (z:Zn) (a b:Int):(z.cutsF a b).length=4+4*(z.betF (cutA a) (cutB b)).length:=by
 unfold Zn.cutsF
 rw [List.length_append,Zz1i]
 rfl
theorem flat_has {h:Spn→List Spn} {x:Int} {ps:List Spn}:hasL (ps.flatMap h) x↔∃ s∈ps,hasL (h s) x:=by
 unfold hasL
 constructor
 ·rintro ⟨s,hs,hx⟩
  obtain ⟨p,hp,hsp⟩:=List.mem_flatMap.1 hs
  exact ⟨p,hp,s,hsp,hx⟩
 rintro ⟨p,hp,s,hsp,hx⟩
 exact ⟨s,List.mem_flatMap.2 ⟨p,hp,hsp⟩,hx⟩
theorem Zz42 {h:Spn→List Spn} {k:Nat} (hk:∀ s,(h s).length≤k):∀ ps:List Spn,(ps.flatMap h).length≤k*ps.length
 | []=>Nat.zero_le _
 | s :: ps=>by
  have:=Zz42 hk ps
  have:=hk s
  rw [List.flatMap_cons,List.length_append,List.length_cons,Nat.mul_succ]
  omega
def typB2 (z q:Zn) (s:Spn):List Spn:=if z.typF s.fr≠q.typF s.fr then [s] else []
theorem Zz6n (z q:Zn):∀ ps:List Spn,ps.flatMap (typB2 z q)=difF z q ps
 | []=>rfl
 | s :: ps=>by
  rw [List.flatMap_cons,Zz6n z q ps]
  unfold typB2 difF
  by_cases h:z.typF s.fr≠q.typF s.fr
  ·rw [if_pos h,List.filter_cons_of_pos (by simpa using h)];rfl
  rw [if_neg h,List.filter_cons_of_neg (by simpa using h)];rfl
theorem typB2_len (z q:Zn) (s:Spn):(typB2 z q s).length≤1:=by unfold typB2;split <;> simp
theorem part_len (r q:Int→Int × Int) (s:Spn):(partF r q s).length≤2:=by
 unfold partF
 dsimp only
 repeat' split
 all_goals simp
theorem part_in {r q:Int→Int × Int} {s:Spn} (hs:s.fr<s.to):∀ p∈partF r q s,s.fr≤p.fr∧p.fr<p.to∧p.to≤s.to:=by
 unfold partF
 dsimp only
 have h1:∀ p∈[s],s.fr≤p.fr∧p.fr<p.to∧p.to≤s.to:=fun p hp=>by rw [List.mem_singleton.1 hp];omega
 have h0:∀ p∈([]:List Spn),s.fr≤p.fr∧p.fr<p.to∧p.to≤s.to:=fun p hp=>by cases hp
 split
 ·exact h1
 split
 ·exact h0
 split
 ·split
  ·exact h1
  exact h0
 generalize (if (r (s.to-1)).1-(r s.fr).1=s.to-1-s.fr then s.fr+(q s.fr).1-(r s.fr).1 else s.fr+(r s.fr).1-(q s.fr).1)=e
 split
 ·exact h1
 intro p hp
 rcases List.mem_append.1 hp with hp|hp
 ·split at hp
  ·rw [List.mem_singleton.1 hp];dsimp only;omega
  cases hp
 split at hp
 ·rw [List.mem_singleton.1 hp];dsimp only;omega
 cases hp
theorem quiet_of {z:Zn} (hv:z.valid=true) {a b:Int} (h1 : -62135596800≤a) (hab:a<b) (h2:b≤253402300800) {l:List Int} (hA:l.Pairwise (· ≤ ·)) (hz:∀ c∈z.cutsF a b,c∈l) {s:Spn} (hs:s∈piecesC b a l):Quiet z a b s.fr s.to:=by
 obtain ⟨g1,_,_⟩:=Zz16 b (f:=a) hA (by omega)
 obtain ⟨k1,k2⟩:=g1 s hs
 exact ⟨hv,h1,h2,k1.1,k1.2.2,fun c hc=>k2 c (hz c (cutsR_sub hc))⟩
theorem loc_has {z q:Zn} (hz:z.valid=true) (hq:q.valid=true) {a b:Int} (h1 : -62135596800≤a) (hab:a<b) (h2:b≤253402300800) {l:List Int} (hA:l.Pairwise (· ≤ ·)) (hb:b∈l) (hzc:∀ c∈z.cutsF a b,c∈l) (hqc:∀ c∈q.cutsF a b,c∈l) (g f x:Int) :
  hasL ((piecesC b a l).flatMap (partF (fun y=>z.resV y g f) (fun y=>q.resV y g f))) x↔(a≤x∧x<b)∧z.resV x g f≠q.resV x g f:=by
 obtain ⟨g1,_,g3⟩:=Zz16 b (f:=a) hA (by omega)
 rw [flat_has]
 have key:∀ s∈piecesC b a l,hasL (partF (fun y=>z.resV y g f) (fun y=>q.resV y g f) s) x↔s.has x∧z.resV x g f≠q.resV x g f:=fun s hs =>
  part_has (g1 s hs).1.2.1 (Zz1P (quiet_of hz h1 hab h2 hA hzc hs) g f) (Zz1P (quiet_of hq h1 hab h2 hA hqc hs) g f) x
 constructor
 ·rintro ⟨s,hs,hx⟩
  obtain ⟨k1,k2⟩:=(key s hs).1 hx
  have:=(g1 s hs).1
  unfold Spn.has at k1
  exact ⟨by omega,k2⟩
 rintro ⟨hx,hne⟩
 obtain ⟨s,hs,hh⟩:=g3 hb x hx.1 hx.2
 exact ⟨s,hs,(key s hs).2 ⟨hh,hne⟩⟩
/- Resolutions are bounded. No program in sight. -/
theorem inst_bd {z:Zn} (hv:z.valid=true) {l:Int} {i:Nat} (hi:i<(z.insts l).length) : -62135596800≤(z.insts l)[i]! ∧ (z.insts l)[i]! < 253402300800:=by
 have h:=((Zz2L hv).1 (List.getElem_mem hi)).1
 rw [getElem!_pos _ i hi]
 exact h
theorem Zz7J (z:Zn) (l g f:Int) : -253402300800≤(z.resV l g f).1∧(z.resV l g f).1≤253402300800:=by
 unfold Zn.resV
 split
 ·dsimp only;omega
 rename_i h
 have hv:z.valid=true:=by
  cases hz:z.valid
  ·exact absurd (.inl hz) h
  rfl
 split
 ·dsimp only;omega
 unfold Zn.resF
 split
 ·rename_i h1
  have:=inst_bd hv (l:=l) (i:=0) (by omega)
  dsimp only;omega
 split
 ·rename_i h2
  have a0:=inst_bd hv (l:=l) (i:=0) (by omega)
  have a1:=inst_bd hv (l:=l) (i:=(z.insts l).length-1) (by omega)
  split
  ·dsimp only;omega
  split
  ·dsimp only;omega
  dsimp only;omega
 split
 ·dsimp only;omega
 split
 ·dsimp only;omega
 split
 ·rename_i h5
  unfold inTB at h5
  simp only [decide_eq_true_eq] at h5
  dsimp only;omega
 dsimp only;omega
end Go.Proofs.YtmmgdjgcikbhbaaGreat

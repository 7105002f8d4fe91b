/- Joined by merge.py: LocR, PieR. -/
import Derived.Test.YtmmgdjgcikbhbaaGreatGIn
/- The runs in which two zones resolve local times differently, as the reference of layer 24 gathers them. No program in sight. -/
namespace Go.Proofs.YtmmgdjgcikbhbaaGreat
set_option linter.unusedSimpArgs false
set_option linter.unusedVariables false
open Go.Sort
def partR (r q:Int→Int × Int) (s:Spn):List Spn :=
 if (r s.fr).2≠0∨(q s.fr).2≠0 then (if (r s.fr).2=(q s.fr).2 then [] else [s])
 else
  let sl:=if 1<s.to-s.fr then ((r (s.fr+1)).1-(r s.fr).1)-((q (s.fr+1)).1-(q s.fr).1) else 0
  if sl=0 then (if (r s.fr).1=(q s.fr).1 then [] else [s])
  else
   let e:=s.fr+((q s.fr).1-(r s.fr).1)*sl
   if e<s.fr∨s.to≤e then [s]
   else (if s.fr<e then [⟨s.fr,e⟩] else [])++(if e+1<s.to then [⟨e+1,s.to⟩] else [])
theorem pair_ne {a b c d:Int}:((a,b):Int × Int)≠(c,d)↔a≠c∨b≠d:=by
 constructor
 ·intro h
  by_cases h1:a=c
  ·exact .inr fun h2=>h (by rw [h1,h2])
  exact .inl h1
 rintro (h|h) e
 ·exact h (congrArg Prod.fst e)
 exact h (congrArg Prod.snd e)
theorem has_two {f t e l:Int} (h1:f≤e) (h2:e<t):hasL ((if f<e then [(⟨f,e⟩:Spn)] else [])++(if e+1<t then [⟨e+1,t⟩] else [])) l↔(f≤l∧l<t)∧l≠e:=by
 rw [Zzm]
 have a1:hasL (if f<e then [(⟨f,e⟩:Spn)] else []) l↔f≤l∧l<e:=by
  split
  ·rw [ZzD];exact Iff.rfl
  exact ⟨fun h=>absurd h (ZzY l),fun h=>by omega⟩
 have a2:hasL (if e+1<t then [(⟨e+1,t⟩:Spn)] else []) l↔e+1≤l∧l<t:=by
  split
  ·rw [ZzD];exact Iff.rfl
  exact ⟨fun h=>absurd h (ZzY l),fun h=>by omega⟩
 rw [a1,a2]
 omega
theorem partR_has {r q:Int→Int × Int} {s:Spn} (hs:s.fr<s.to) (hr:Shape r s.fr s.to) (hq:Shape q s.fr s.to) (l:Int):hasL (partR r q s) l↔s.has l∧r l≠q l:=by
 obtain ⟨f,t⟩:=s
 obtain ⟨v1,e1,s1,k1,j1,g1⟩:=hr
 obtain ⟨v2,e2,s2,k2,j2,g2⟩:=hq
 unfold Spn.has
 dsimp only at *
 have r0:r f=(v1,e1):=by rw [g1 f (Int.le_refl _) hs,Int.sub_self,Int.mul_zero,Int.add_zero]
 have q0:q f=(v2,e2):=by rw [g2 f (Int.le_refl _) hs,Int.sub_self,Int.mul_zero,Int.add_zero]
 have key:(f≤l∧l<t)∧r l≠q l↔(f≤l∧l<t)∧(v1+s1*(l-f)≠v2+s2*(l-f)∨e1≠e2):=by
  constructor
  ·rintro ⟨h1,h2⟩
   rw [g1 l h1.1 h1.2,g2 l h1.1 h1.2,pair_ne] at h2
   exact ⟨h1,h2⟩
  rintro ⟨h1,h2⟩
  rw [g1 l h1.1 h1.2,g2 l h1.1 h1.2,pair_ne]
  exact ⟨h1,h2⟩
 rw [key]
 have one:hasL [(⟨f,t⟩:Spn)] l↔f≤l∧l<t:=by rw [ZzD];exact Iff.rfl
 have nil:hasL [] l↔False:=⟨ZzY l,False.elim⟩
 unfold partR
 dsimp only
 rw [r0,q0]
 dsimp only
 by_cases he:e1≠0∨e2≠0
 ·rw [if_pos he]
  by_cases hee:e1=e2
  ·subst hee
   have h0:e1≠0:=he.elim id id
   obtain ⟨rfl,rfl⟩:=j1 h0
   obtain ⟨rfl,rfl⟩:=j2 h0
   rw [if_pos rfl,nil]
   exact ⟨False.elim,fun h=>h.2.elim (fun h=>h rfl) (fun h=>h rfl)⟩
  rw [if_neg hee,one]
  exact ⟨fun h=>⟨h,.inr hee⟩,fun h=>h.1⟩
 rw [if_neg he]
 obtain rfl:e1=0:=by omega
 obtain rfl:e2=0:=by omega
 by_cases h1:1<t-f
 ·have r1:r (f+1)=(v1+s1*(f+1-f),0):=g1 (f+1) (by omega) (by omega)
  have q1:q (f+1)=(v2+s2*(f+1-f),0):=g2 (f+1) (by omega) (by omega)
  rw [show f+1-f=1 by omega,Int.mul_one] at r1 q1
  rw [if_pos h1,r1,q1]
  dsimp only
  rcases k1 with rfl|rfl <;> rcases k2 with rfl|rfl
  ·rw [if_pos (by omega)]
   by_cases hv:v1=v2
   ·rw [if_pos hv,nil]
    exact ⟨False.elim,fun h=>h.2.elim (fun h=>h (by omega)) (fun h=>h rfl)⟩
   rw [if_neg hv,one]
   exact ⟨fun h=>⟨h,.inl (by omega)⟩,fun h=>h.1⟩
  ·rw [if_neg (by omega),show v1+0-v1-(v2+1-v2)=-1 by omega]
   by_cases hx:f+(v2-v1) * -1<f∨t≤f+(v2-v1) * -1
   ·rw [if_pos hx,one]
    exact ⟨fun h=>⟨h,.inl (by omega)⟩,fun h=>h.1⟩
   rw [if_neg hx,has_two (by omega) (by omega)]
   omega
  ·rw [if_neg (by omega),show v1+1-v1-(v2+0-v2)=1 by omega]
   by_cases hx:f+(v2-v1)*1<f∨t≤f+(v2-v1)*1
   ·rw [if_pos hx,one]
    exact ⟨fun h=>⟨h,.inl (by omega)⟩,fun h=>h.1⟩
   rw [if_neg hx,has_two (by omega) (by omega)]
   omega
  rw [if_pos (by omega)]
  by_cases hv:v1=v2
  ·rw [if_pos hv,nil]
   exact ⟨False.elim,fun h=>h.2.elim (fun h=>h (by omega)) (fun h=>h rfl)⟩
  rw [if_neg hv,one]
  exact ⟨fun h=>⟨h,.inl (by omega)⟩,fun h=>h.1⟩
 rw [if_neg h1,if_pos rfl]
 have hl:f≤l∧l<t→l-f=0:=by omega
 by_cases hv:v1=v2
 ·rw [if_pos hv,nil]
  exact ⟨False.elim,fun h=>h.2.elim (fun h2=>h2 (by rw [hl h.1];omega)) (fun h=>h rfl)⟩
 rw [if_neg hv,one]
 exact ⟨fun h=>⟨h,.inl (by rw [hl h];omega)⟩,fun h=>h.1⟩
theorem partR_len (r q:Int→Int × Int) (s:Spn):(partR r q s).length≤2:=by
 unfold partR
 dsimp only
 repeat' split
 all_goals simp
theorem partR_in {r q:Int→Int × Int} {s:Spn} (hs:s.fr<s.to):(∀ p∈partR r q s,s.fr≤p.fr∧p.fr<p.to∧p.to≤s.to)∧(partR r q s).Pairwise (fun p q=>p.to≤q.fr):=by
 unfold partR
 dsimp only
 have h1:(∀ p∈[s],s.fr≤p.fr∧p.fr<p.to∧p.to≤s.to)∧[s].Pairwise (fun p q=>p.to≤q.fr):=⟨fun p hp=>by rw [List.mem_singleton.1 hp];omega,List.pairwise_singleton _ _⟩
 have h0:(∀ p∈([]:List Spn),s.fr≤p.fr∧p.fr<p.to∧p.to≤s.to)∧([]:List Spn).Pairwise (fun p q=>p.to≤q.fr):=⟨fun p hp=>(by cases hp),List.Pairwise.nil⟩
 split
 ·split
  ·exact h0
  exact h1
 generalize (if 1<s.to-s.fr then ((r (s.fr+1)).1-(r s.fr).1)-((q (s.fr+1)).1-(q s.fr).1) else 0)=sl
 split
 ·split
  ·exact h0
  exact h1
 generalize s.fr+((q s.fr).1-(r s.fr).1)*sl=e
 split
 ·exact h1
 rename_i he
 refine ⟨fun p hp=>?_,List.pairwise_append.2 ⟨?_,?_,fun x hx y hy=>?_⟩⟩
 ·rcases List.mem_append.1 hp with hp|hp
  ·split at hp
   ·rw [List.mem_singleton.1 hp];dsimp only;omega
   cases hp
  split at hp
  ·rw [List.mem_singleton.1 hp];dsimp only;omega
  cases hp
 ·split
  ·exact List.pairwise_singleton _ _
  exact List.Pairwise.nil
 ·split
  ·exact List.pairwise_singleton _ _
  exact List.Pairwise.nil
 split at hx
 ·split at hy
  ·rw [List.mem_singleton.1 hx,List.mem_singleton.1 hy];dsimp only;omega
  cases hy
 cases hx
def addL (out ps:List Spn):List Spn:=ps.foldl addS out
theorem addS_len (out:List Spn) (s:Spn):(addS out s).length≤out.length+1:=by
 unfold addS
 split
 ·rw [List.length_set];omega
 simp
theorem addL_len:∀ (ps out:List Spn),(addL out ps).length≤out.length+ps.length
 | [],out=>Nat.le_refl _
 | p :: ps,out=>by
  have h1:=addL_len ps (addS out p)
  have h2:=addS_len out p
  show (addL (addS out p) ps).length≤_
  rw [List.length_cons]
  omega
theorem addL_ok:∀ (ps:List Spn) (out:List Spn) (lo hi:Int),Canon out→lo≤hi→(∀ s∈out,s.to≤lo)→(∀ p∈ps,lo≤p.fr∧p.fr<p.to∧p.to≤hi)→ps.Pairwise (fun p q=>p.to≤q.fr) →
  Canon (addL out ps)∧(∀ t,hasL (addL out ps) t↔hasL out t∨hasL ps t)∧∀ s∈addL out ps,s.to≤hi
 | [],out,lo,hi,hc,hlh,hl,_,_=>⟨hc,fun t=>⟨.inl,fun h=>h.resolve_right (ZzY t)⟩,fun s hs=>by have:=hl s hs;omega⟩
 | p :: ps,out,lo,hi,hc,hlh,hl,hp,ha=>by
  have h1:=hp p List.mem_cons_self
  obtain ⟨a1,a2⟩:=List.pairwise_cons.1 ha
  obtain ⟨g1,g2,g3⟩:=addS_ok (out:=out) (x:=p.fr) (y:=p.to) hc (fun s hs=>by have:=hl s hs;omega) h1.2.1
  obtain ⟨k1,k2,k3⟩:=addL_ok ps (addS out p) p.to hi g1 h1.2.2 g3 (fun q hq=>⟨a1 q hq,(hp q (List.mem_cons_of_mem _ hq)).2⟩) a2
  refine ⟨k1,fun t=>?_,k3⟩
  show hasL (addL (addS out p) ps) t↔_
  rw [k2]
  have e:hasL (p :: ps) t↔(p.fr≤t∧t<p.to)∨hasL ps t:=by
   rw [show p :: ps=[p]++ps from rfl,Zzm,ZzD];exact Iff.rfl
  rw [e]
  have e2:hasL (addS out p) t↔hasL out t∨(p.fr≤t∧t<p.to):=g2 t
  rw [e2,or_assoc]
def runsG (h:Spn→List Spn):List Int→List Spn→List Spn
 | x :: y :: r,out=>runsG h (y :: r) (addL out (h ⟨x,y⟩))
 | [_],out=>out
 | [],out=>out
def pairsI:List Int→List Spn
 | x :: y :: r=>⟨x,y⟩ :: pairsI (y :: r)
 | [_]=>[]
 | []=>[]
theorem runsG_ok (h:Spn→List Spn) (hh:∀ s:Spn,s.fr<s.to→(∀ p∈h s,s.fr≤p.fr∧p.fr<p.to∧p.to≤s.to)∧(h s).Pairwise (fun p q=>p.to≤q.fr)) :
  ∀ (x:Int) (l:List Int) (out:List Spn),(x :: l).Pairwise (· < ·)→Canon out→(∀ s∈out,s.to≤x)→Canon (runsG h (x :: l) out)∧∀ t,hasL (runsG h (x :: l) out) t↔hasL out t∨∃ s∈pairsI (x :: l),hasL (h s) t
 | x,[],out,_,hc,_=>by
  have e:runsG h [x] out=out:=by rw [runsG]
  rw [e]
  exact ⟨hc,fun t=>⟨.inl,fun h=>h.resolve_right (fun ⟨s,hs,_⟩=>by rw [pairsI] at hs;cases hs)⟩⟩
 | x,y :: l,out,ha,hc,hl=>by
  obtain ⟨h1,h2⟩:=List.pairwise_cons.1 ha
  have hxy:=h1 y List.mem_cons_self
  obtain ⟨p1,p2⟩:=hh ⟨x,y⟩ hxy
  obtain ⟨g1,g2,g3⟩:=addL_ok (h ⟨x,y⟩) out x y hc (by omega) hl p1 p2
  obtain ⟨k1,k2⟩:=runsG_ok h hh y l (addL out (h ⟨x,y⟩)) h2 g1 g3
  rw [runsG]
  refine ⟨k1,fun t=>?_⟩
  rw [k2,g2,pairsI]
  constructor
  ·rintro ((h|h)|⟨s,hs,h⟩)
   ·exact .inl h
   ·exact .inr ⟨_,List.mem_cons_self,h⟩
   exact .inr ⟨s,List.mem_cons_of_mem _ hs,h⟩
  rintro (h|⟨s,hs,h⟩)
  ·exact .inl (.inl h)
  rcases List.mem_cons.1 hs with rfl|hs
  ·exact .inl (.inr h)
  exact .inr ⟨s,hs,h⟩
theorem Zz6N:∀ (x:Int) (l:List Int),(x :: l).Pairwise (· < ·)→∀ s∈pairsI (x :: l),s.fr∈x :: l∧s.to∈x :: l∧s.fr<s.to∧∀ c∈x :: l,¬ (s.fr<c∧c<s.to)
 | x,[],_,s,hs=>by rw [pairsI] at hs;cases hs
 | x,y :: l,ha,s,hs=>by
  obtain ⟨h1,h2⟩:=List.pairwise_cons.1 ha
  have hxy:=h1 y List.mem_cons_self
  rw [pairsI] at hs
  have hy:∀ v∈y :: l,y≤v:=fun v hv=>by
   rcases List.mem_cons.1 hv with rfl|hv
   ·exact Int.le_refl _
   exact Int.le_of_lt ((List.pairwise_cons.1 h2).1 v hv)
  rcases List.mem_cons.1 hs with rfl|hs
  ·refine ⟨List.mem_cons_self,List.mem_cons_of_mem _ List.mem_cons_self,hxy,fun c hc h=>?_⟩
   dsimp only at h
   rcases List.mem_cons.1 hc with rfl|hc
   ·omega
   have:=hy c hc;omega
  obtain ⟨k1,k2,k3,k4⟩:=Zz6N y l h2 s hs
  refine ⟨List.mem_cons_of_mem _ k1,List.mem_cons_of_mem _ k2,k3,fun c hc h=>?_⟩
  rcases List.mem_cons.1 hc with rfl|hc
  ·have:=hy s.fr k1;omega
  exact k4 c hc h
theorem Zz4R:∀ (x:Int) (l:List Int),(x :: l).Pairwise (· < ·)→∀ t,x≤t→(∃ v∈x :: l,t<v)→∃ s∈pairsI (x :: l),s.fr≤t∧t<s.to
 | x,[],_,t,h1,⟨v,hv,h2⟩=>by rw [List.mem_singleton.1 hv] at h2;omega
 | x,y :: l,ha,t,h1,⟨v,hv,h2⟩=>by
  rw [pairsI]
  rcases Int.lt_or_le t y with h3|h3
  ·exact ⟨_,List.mem_cons_self,h1,h3⟩
  have hv2:v∈y :: l:=by
   rcases List.mem_cons.1 hv with rfl|hv
   ·omega
   exact hv
  obtain ⟨s,hs,h4⟩:=Zz4R y l (List.pairwise_cons.1 ha).2 t h3 ⟨v,hv2,h2⟩
  exact ⟨s,List.mem_cons_of_mem _ hs,h4⟩
theorem Zz4E {b:Int}:∀ (S:List Spn) (l:List Int),b∈l→(∀ s∈S,s.to=b)→(endsI S l).length≤l.length+S.length
 | [],l,_,_=>by rw [endsI];simp
 | s :: S,l,hb,hS=>by
  rw [endsI,hS s List.mem_cons_self]
  have hb2:b∈insI l s.fr:=insI_mem.2 (.inl hb)
  have e:insI (insI l s.fr) b=insI l s.fr:=by unfold insI;rw [if_pos (by unfold insI at hb2;exact hb2)]
  rw [e]
  have h1:=Zz4E S (insI l s.fr) hb2 fun t ht=>hS t (List.mem_cons_of_mem _ ht)
  have h2:=Zz2m l s.fr
  rw [List.length_cons]
  omega
def cutS (z:Zn) (a b:Int):List Spn:=((z.cutsR a b).filter fun c=>decide (a<c∧c<b)).map fun c=>⟨c,b⟩
def endsL (za zb:Zn) (a b:Int):List Spn:=(⟨a,b⟩ :: cutS za a b)++cutS zb a b
def locR (za zb:Zn) (g f a b:Int):List Spn:=runsG (partR (fun y=>za.resV y g f) (fun y=>zb.resV y g f)) (endsI (endsL za zb a b) []) []
theorem cutS_mem {z:Zn} {a b:Int} {s:Spn}:s∈cutS z a b↔∃ c∈z.cutsR a b,(a<c∧c<b)∧s=⟨c,b⟩:=by
 unfold cutS
 rw [List.mem_map]
 constructor
 ·rintro ⟨c,hc,rfl⟩
  obtain ⟨h1,h2⟩:=List.mem_filter.1 hc
  exact ⟨c,h1,of_decide_eq_true h2,rfl⟩
 rintro ⟨c,h1,h2,rfl⟩
 exact ⟨c,List.mem_filter.2 ⟨h1,dTt h2⟩,rfl⟩
theorem Zz6w {za zb:Zn} {a b y:Int}:y∈endsI (endsL za zb a b) []↔y=a∨y=b∨(a<y∧y<b)∧(y∈za.cutsR a b∨y∈zb.cutsR a b):=by
 rw [Zz6s]
 unfold endsL
 constructor
 ·rintro (h|⟨s,hs,h⟩)
  ·cases h
  rcases List.mem_append.1 hs with hs|hs
  ·rcases List.mem_cons.1 hs with rfl|hs
   ·exact h.elim .inl fun h=>.inr (.inl h)
   obtain ⟨c,h1,h2,rfl⟩:=cutS_mem.1 hs
   rcases h with h|h
   ·dsimp only at h;subst h;exact .inr (.inr ⟨h2,.inl h1⟩)
   exact .inr (.inl h)
  obtain ⟨c,h1,h2,rfl⟩:=cutS_mem.1 hs
  rcases h with h|h
  ·dsimp only at h;subst h;exact .inr (.inr ⟨h2,.inr h1⟩)
  exact .inr (.inl h)
 rintro (rfl|rfl|⟨h1,h2|h2⟩)
 ·exact .inr ⟨_,List.mem_append_left _ List.mem_cons_self,.inl rfl⟩
 ·exact .inr ⟨_,List.mem_append_left _ List.mem_cons_self,.inr rfl⟩
 ·exact .inr ⟨_,List.mem_append_left _ (List.mem_cons_of_mem _ (cutS_mem.2 ⟨y,h2,h1,rfl⟩)),.inl rfl⟩
 exact .inr ⟨_,List.mem_append_right _ (cutS_mem.2 ⟨y,h2,h1,rfl⟩),.inl rfl⟩
theorem endsL_len (za zb:Zn) (a b:Int):(endsI (endsL za zb a b) []).length≤2+(cutS za a b).length+(cutS zb a b).length:=by
 unfold endsL
 rw [List.cons_append,endsI]
 have hb:b∈insI (insI [] a) b:=insI_mem.2 (.inr rfl)
 have h1:=Zz4E (cutS za a b++cutS zb a b) (insI (insI [] a) b) hb fun s hs=>by
  rcases List.mem_append.1 hs with hs|hs
  ·obtain ⟨c,_,_,rfl⟩:=cutS_mem.1 hs;rfl
  obtain ⟨c,_,_,rfl⟩:=cutS_mem.1 hs;rfl
 have h2:=Zz2m (insI [] a) b
 have h3:=Zz2m [] a
 rw [List.length_append] at h1
 simp at h3
 dsimp only at *
 omega
theorem ref_loc {za zb:Zn} (ha:za.valid=true) (hb:zb.valid=true) {a b:Int} (h1 : -62135596800≤a) (hab:a<b) (h2:b≤253402300800) (g f:Int) :
  Canon (locR za zb g f a b)∧∀ t,hasL (locR za zb g f a b) t↔(a≤t∧t<b)∧za.resV t g f≠zb.resV t g f:=by
 have hasc:=Zz24 (S:=endsL za zb a b) (l:=[]) List.Pairwise.nil
 have hmem:=fun y=>Zz6w (za:=za) (zb:=zb) (a:=a) (b:=b) (y:=y)
 unfold locR
 have hbd:∀ y∈endsI (endsL za zb a b) [],a≤y∧y≤b:=fun y hy=>by
  rcases (hmem y).1 hy with h|h|h <;> omega
 have hma:=(hmem a).2 (.inl rfl)
 have hmb:=(hmem b).2 (.inr (.inl rfl))
 generalize endsI (endsL za zb a b) []=L at *
 match L,hma with
 | x :: l,hma =>
  have hx:x=a:=by
   have h1:=(hbd x List.mem_cons_self).1
   rcases List.mem_cons.1 hma with h|h
   ·exact h.symm
   have:=(List.pairwise_cons.1 hasc).1 a h
   omega
  subst hx
  obtain ⟨g1,g2⟩:=runsG_ok (partR (fun y=>za.resV y g f) (fun y=>zb.resV y g f)) (fun s hs=>partR_in hs) x l [] hasc Zz23 (fun s hs=>by cases hs)
  refine ⟨g1,fun t=>?_⟩
  have key:∀ s∈pairsI (x :: l),(x≤s.fr∧s.to≤b)∧(hasL (partR (fun y=>za.resV y g f) (fun y=>zb.resV y g f) s) t↔s.has t∧za.resV t g f≠zb.resV t g f):=fun s hs=>by
   obtain ⟨m1,m2,m3,m4⟩:=Zz6N x l hasc s hs
   have b1:=hbd _ m1
   have b2:=hbd _ m2
   have q:∀ z:Zn,z.valid=true→(∀ y∈z.cutsR x b,x<y∧y<b→y∈x :: l)→Quiet z x b s.fr s.to:=fun z hz hc=>⟨hz,h1,h2,b1.1,b2.2,fun c hcc hlt=>m4 c (hc c hcc (by omega)) hlt⟩
   exact ⟨⟨b1.1,b2.2⟩,partR_has m3 (Zz1P (q za ha fun y hy hlt=>(hmem y).2 (.inr (.inr ⟨hlt,.inl hy⟩))) g f) (Zz1P (q zb hb fun y hy hlt=>(hmem y).2 (.inr (.inr ⟨hlt,.inr hy⟩))) g f) t⟩
  rw [g2]
  constructor
  ·rintro (h|⟨s,hs,h⟩)
   ·exact absurd h (ZzY t)
   obtain ⟨k0,k1⟩:=key s hs
   obtain ⟨k2,k3⟩:=k1.1 h
   unfold Spn.has at k2
   exact ⟨by omega,k3⟩
  rintro ⟨h3,h4⟩
  obtain ⟨s,hs,h5⟩:=Zz4R x l hasc t h3.1 ⟨b,hmb,h3.2⟩
  exact .inr ⟨s,hs,(key s hs).2.2 ⟨h5,h4⟩⟩
/- The reference of layer 23: pieces over a wider window, and what is found in them. No program in sight. -/
theorem Zz7C {b f o:Int} {L:List Trn} {k:Nat} (hk:k<L.length) (hle:f≤(L[k]!).at_) :
  piecesF b f o (L.drop k)=(if f<(L[k]!).at_ then [(⟨f,(L[k]!).at_,o⟩:Piece)] else [])++piecesF b (L[k]!).at_ (L[k]!).ty.off (L.drop (k+1)):=by
 rw [List.drop_eq_getElem_cons hk,piecesF,getElem!_pos L k hk] at *
 by_cases h:f<(L[k]).at_
 ·rw [if_pos h,if_pos h];rfl
 rw [if_neg h,if_neg h,List.nil_append]
 rw [show f=(L[k]).at_ by omega]
theorem pieces_fin {b f o:Int} {L:List Trn}:piecesF b f o (L.drop L.length)=[⟨f,b,o⟩]:=by
 rw [List.drop_length,piecesF]
theorem Zz1r {b:Int}:∀ {f o:Int} {l:List Trn},(piecesF b f o l).length≤l.length+1
 | f,o,[]=>by rw [piecesF];simp
 | f,o,x :: xs=>by
  rw [piecesF]
  split
  ·have:=Zz1r (b:=b) (f:=x.at_) (o:=x.ty.off) (l:=xs)
   simp only [List.length_cons];omega
  have:=Zz1r (b:=b) (f:=f) (o:=x.ty.off) (l:=xs)
  simp only [List.length_cons];omega
theorem inst_step {l:Int} {ps:List Piece} {k:Nat} (hk:k<ps.length) :
  instF l (ps.take (k+1))=instF l (ps.take k)++(if (ps[k]!).fr≤l-(ps[k]!).off∧l-(ps[k]!).off<(ps[k]!).to then [l-(ps[k]!).off] else []):=by
 unfold instF
 rw [List.take_succ_eq_append_getElem hk,List.filterMap_append,getElem!_pos ps k hk]
 congr 1
 rw [List.filterMap_cons]
 split
 ·rename_i h
  split at h
  ·cases h
  rename_i h2;rw [if_neg h2];rfl
 rename_i v h
 split at h
 ·rename_i h2;injection h with h;rw [if_pos h2,h];rfl
 cases h
theorem Zz44 {l:Int} {ps:List Piece}:(instF l ps).length≤ps.length:=List.length_filterMap_le _ _
theorem Zz6H {z:Zn} (hv:z.valid=true) (l:Int):instF l (z.pieces (cutA l) (cutB (l+1)))=z.insts l:=by
 have ok:=Zz1s hv (cutA l) (cutB (l+1))
 refine Zz4A (fun x=>x) (Zz39 ok.asc).1 (Zz2J hv l) fun t=>?_
 rw [Zz2L hv]
 constructor
 ·intro ht
  obtain ⟨p,hp,h1,h2,h3⟩:=(Zz39 ok.asc).2 t ht
  have hb:=ok.bd p hp
  have ho:=ok.off p hp t h1 h2
  unfold cutA cutB at hb
  exact ⟨by omega,by omega⟩
 rintro ⟨h1,h2⟩
 have hb:=Zz17 hv t
 obtain ⟨p,hp,h3,h4⟩:=ok.cov t (by unfold cutA;omega) (by unfold cutB;omega)
 have ho:=ok.off p hp t h3 h4
 unfold instF
 exact List.mem_filterMap.2 ⟨p,hp,by rw [if_pos (by omega)];congr 1;omega⟩
theorem skip_hereW {z:Zn} (hv:z.valid=true) {l:Int} (hl : -62135596800≤l∧l<253402300800) {s:Skip}:(s∈z.skips (cutA l) (cutB (l+1))∧inSkip l s=true)↔z.Sk s∧inSkip l s=true:=by
 have hab:cutA l<cutB (l+1):=by unfold cutA cutB;omega
 rw [Zz2C hv hab]
 constructor
 ·rintro ⟨⟨x,hx,h1,h2⟩,h3⟩
  have hm:=ZzM x hx
  refine ⟨⟨x,(List.mem_filter.1 hx).1,?_,h1,h2⟩,h3⟩
  unfold cutA at hm
  omega
 rintro ⟨⟨x,hx,h0,h1,h2⟩,h3⟩
 refine ⟨⟨x,List.mem_filter.2 ⟨hx,dTt ?_⟩,h1,h2⟩,h3⟩
 have hT:=T_in hv x hx
 have ho:=Zz17 hv (x.at_-1)
 have ho2:=Zz17 hv x.at_
 rw [off_T hv hx] at ho2
 subst h1
 unfold inSkip at h3
 simp only [decide_eq_true_eq] at h3
 unfold cutA cutB
 omega
theorem find_wide {z:Zn} (hv:z.valid=true) {l:Int} (hl : -62135596800≤l∧l<253402300800):(z.skips (wideA l) (wideB (l+1))).reverse.find? (inSkip l)=(z.skips (cutA l) (cutB (l+1))).reverse.find? (inSkip l):=by
 have hA:(z.skips (wideA l) (wideB (l+1))).Pairwise (fun x y=>x.at_<y.at_):=by
  rw [Zz1R hv (by unfold wideA wideB;omega)]
  exact Zz3W (Zz10 hv _ _)
 have hC:(z.skips (cutA l) (cutB (l+1))).Pairwise (fun x y=>x.at_<y.at_):=by
  rw [Zz1R hv (by unfold cutA cutB;omega)]
  exact Zz3W (Zz10 hv _ _)
 have e:(z.skips (wideA l) (wideB (l+1))).filter (inSkip l)=(z.skips (cutA l) (cutB (l+1))).filter (inSkip l):=by
  refine Zz4A Skip.at_ (hA.filter _) (hC.filter _) fun s=>?_
  rw [List.mem_filter,List.mem_filter,Zz2Q hv hl,skip_hereW hv hl]
 rw [←List.head?_filter,←List.head?_filter,List.filter_reverse,List.filter_reverse,e]
def skC (ps:List Piece) (l:Int) (i:Nat):Bool:=decide ((ps[i]!).fr+(ps[i-1]!).off≤l∧l<(ps[i]!).fr+(ps[i]!).off)
def skU (ps:List Piece) (l:Int):Nat→Nat
 | 0=>0
 | i+1=>if 0<i∧skC ps l i=true then i else skU ps l i
def skS (ps:List Piece) (i:Nat):Skip:=⟨(ps[i]!).fr,(ps[i-1]!).off,(ps[i]!).off⟩
theorem Zz5f:∀ (ps:List Piece) (p:Piece) (b:Int) (f:Bool),skipsF b f (ps++[p])=skipsF b f ps++(if (f && ps.isEmpty)=false∧(match ps.getLast? with|some q=>q.off|none=>b)<p.off then [⟨p.fr,(match ps.getLast? with|some q=>q.off|none=>b),p.off⟩] else [])
 | [],p,b,f=>by
  rw [List.nil_append]
  show skipsF b f [p]=_
  unfold skipsF
  cases f <;> simp [skipsF]
 | q :: ps,p,b,f=>by
  have ih:=Zz5f ps p q.off false
  have e:(match (q :: ps).getLast? with|some q=>q.off|none=>b)=(match ps.getLast? with|some q=>q.off|none=>q.off):=by
   cases ps with
   | nil=>rfl
   | cons r rs=>rw [List.getLast?_cons_cons];cases h:(r :: rs).getLast? with
    | none=>simp at h
    | some x=>rfl
  have e2:(f && (q :: ps).isEmpty)=false:=by simp
  have e3:(false && ps.isEmpty)=false:=rfl
  rw [e,e2]
  rw [e3] at ih
  rw [List.cons_append]
  unfold skipsF
  split
  ·rw [ih];rfl
  rw [ih]
theorem sk_find (ps:List Piece) (l:Int):∀ i,i≤ps.length→skU ps l i<max i 1∧(skipsF 0 true (ps.take i)).reverse.find? (inSkip l)=if skU ps l i=0 then none else some (skS ps (skU ps l i))
 | 0,_=>⟨by simp [skU],by simp [skU,skipsF]⟩
 | i+1,hi=>by
  obtain ⟨h0,ih⟩:=sk_find ps l i (by omega)
  rw [List.take_succ_eq_append_getElem (by omega),Zz5f]
  unfold skU
  cases i with
  | zero =>
   refine ⟨by simp [skU],?_⟩
   rw [if_neg (by simp),List.append_nil,ih]
   simp [skU]
  | succ j =>
   have hl:(ps.take (j+1)).getLast? = some ps[j]:=by
    rw [List.take_succ_eq_append_getElem (by omega),List.getLast?_concat]
   have he:(true && (ps.take (j+1)).isEmpty)=false:=by
    cases ps with
    | nil=>simp at hi
    | cons=>rfl
   rw [hl,he]
   dsimp only
   have e1:ps[j+1]! = ps[j+1]:=getElem!_pos ps (j+1) (by omega)
   have e2:ps[j+1-1]! = ps[j]:=by rw [Nat.add_sub_cancel];exact getElem!_pos ps j (by omega)
   have es:skS ps (j+1)=⟨ps[j+1].fr,ps[j].off,ps[j+1].off⟩:=by unfold skS;rw [e1,e2]
   by_cases hc:skC ps l (j+1)=true
   ·rw [if_pos ⟨by omega,hc⟩,if_neg (show ¬ (j+1=0) by omega),es]
    have hc2:(ps[j+1]).fr+(ps[j]).off≤l∧l<(ps[j+1]).fr+(ps[j+1]).off:=by
     unfold skC at hc
     rw [e1,e2] at hc
     exact of_decide_eq_true hc
    rw [if_pos ⟨rfl,by omega⟩,List.reverse_append]
    refine ⟨by omega,?_⟩
    rw [List.reverse_singleton,List.singleton_append,List.find?_cons]
    have:inSkip l ⟨ps[j+1].fr,ps[j].off,ps[j+1].off⟩=true:=by unfold inSkip;exact dTt hc2
    rw [this]
   rw [if_neg (fun h=>hc h.2)]
   refine ⟨by omega,?_⟩
   rw [←ih,List.reverse_append]
   split
   ·rw [List.reverse_singleton,List.singleton_append,List.find?_cons]
    have:inSkip l ⟨ps[j+1].fr,ps[j].off,ps[j+1].off⟩=false:=by
     unfold skC at hc
     rw [e1,e2] at hc
     unfold inSkip
     exact dFf (fun h=>hc (dTt h))
    rw [this]
   rfl
theorem sk_pieces {z:Zn} (hv:z.valid=true) {l:Int} (hl : -62135596800≤l∧l<253402300800) :
  skU (z.pieces (cutA l) (cutB (l+1))) l (z.pieces (cutA l) (cutB (l+1))).length<max (z.pieces (cutA l) (cutB (l+1))).length 1 ∧
  (z.skips (wideA l) (wideB (l+1))).reverse.find? (inSkip l)=if skU (z.pieces (cutA l) (cutB (l+1))) l (z.pieces (cutA l) (cutB (l+1))).length=0 then none else some (skS (z.pieces (cutA l) (cutB (l+1))) (skU (z.pieces (cutA l) (cutB (l+1))) l (z.pieces (cutA l) (cutB (l+1))).length)):=by
 obtain ⟨h1,h2⟩:=sk_find (z.pieces (cutA l) (cutB (l+1))) l _ nlR
 rw [List.take_length] at h2
 exact ⟨h1,by rw [find_wide hv hl];exact h2⟩
end Go.Proofs.YtmmgdjgcikbhbaaGreat

/- Joined by merge.py: VerP, CombP, MildQ, GapsQ. -/
import Derived.Test.YtmmgdjgcikbhbaaGreatGLa
/- What version.Instants finds: the pieces of a span between cuts, and those at which two zones differ. No program in sight. -/
namespace Go.Proofs.YtmmgdjgcikbhbaaGreat
set_option linter.unusedSimpArgs false
set_option linter.unusedVariables false
theorem Zz6Z {z:Zn} (hv:z.valid=true) {f t:Int} (h:f≤t) (hno:∀ x∈z.betF f (t+1),x.at_≤f):z.typF t=z.typF f:=by
 have e1:=Zz20 hv (a:=f) (b:=t+1) (t:=t) h (by omega)
 have e2:=Zz20 hv (a:=f) (b:=t+1) (t:=f) (Int.le_refl _) (by omega)
 exact e1.trans ((Zz3h (fun x hx=>by have:=hno x hx;omega) hno).trans e2.symm)
def piecesC (b:Int):Int→List Int→List Spn
 | _,[]=>[]
 | f,c :: l=>if f<c∧c≤b then ⟨f,c⟩ :: piecesC b c l else piecesC b f l
def lastC (b:Int):Int→List Int→Int
 | f,[]=>f
 | f,c :: l=>if f<c∧c≤b then lastC b c l else lastC b f l
theorem Zz1o (b c:Int):∀ (f:Int) (l:List Int),piecesC b f (l++[c])=piecesC b f l++(if lastC b f l<c∧c≤b then [⟨lastC b f l,c⟩] else [])∧lastC b f (l++[c])=if lastC b f l<c∧c≤b then c else lastC b f l
 | f,[]=>⟨rfl,rfl⟩
 | f,d :: l=>by
  rw [List.cons_append]
  by_cases h:f<d∧d≤b
  ·have e1:lastC b f (d :: l)=lastC b d l:=if_pos h
   have e2:lastC b f (d :: (l++[c]))=lastC b d (l++[c]):=if_pos h
   have e3:piecesC b f (d :: l)=⟨f,d⟩ :: piecesC b d l:=if_pos h
   have e4:piecesC b f (d :: (l++[c]))=⟨f,d⟩ :: piecesC b d (l++[c]):=if_pos h
   obtain ⟨h1,h2⟩:=Zz1o b c d l
   rw [e1,e2,e3,e4,h1,h2]
   exact ⟨rfl,rfl⟩
  have e1:lastC b f (d :: l)=lastC b f l:=if_neg h
  have e2:lastC b f (d :: (l++[c]))=lastC b f (l++[c]):=if_neg h
  have e3:piecesC b f (d :: l)=piecesC b f l:=if_neg h
  have e4:piecesC b f (d :: (l++[c]))=piecesC b f (l++[c]):=if_neg h
  obtain ⟨h1,h2⟩:=Zz1o b c f l
  rw [e1,e2,e3,e4,h1,h2]
  exact ⟨rfl,rfl⟩
theorem Zz13 (b:Int):∀ (f:Int) (l:List Int),(piecesC b f l).length≤l.length
 | f,[]=>Nat.le_refl _
 | f,d :: l=>by
  rw [piecesC]
  have h1:=Zz13 b d l
  have h2:=Zz13 b f l
  split <;> simp <;> omega
theorem Zz46 (b:Int):∀ (f:Int) (l:List Int),f≤b→f≤lastC b f l∧lastC b f l≤b
 | f,[],h=>⟨Int.le_refl _,h⟩
 | f,d :: l,h=>by
  rw [lastC]
  split
  ·rename_i hc
   have:=Zz46 b d l hc.2
   omega
  exact Zz46 b f l h
theorem Zz16 (b:Int):∀ {f:Int} {l:List Int},l.Pairwise (· ≤ ·)→f≤b →
  (∀ s∈piecesC b f l,(f≤s.fr∧s.fr<s.to∧s.to≤b)∧∀ c∈l,¬ (s.fr<c∧c<s.to))∧(piecesC b f l).Pairwise (fun s t=>s.to≤t.fr)∧(b∈l→∀ t,f≤t→t<b→hasL (piecesC b f l) t)
 | f,[],_,_=>⟨fun s h=>(by cases h),List.Pairwise.nil,fun h=>(by cases h)⟩
 | f,d :: l,hA,hf=>by
  rw [piecesC]
  obtain ⟨hd,hl⟩:=List.pairwise_cons.1 hA
  by_cases h:f<d∧d≤b
  ·rw [if_pos h]
   obtain ⟨g1,g2,g3⟩:=Zz16 b (f:=d) hl h.2
   refine ⟨fun s hs=>?_,List.pairwise_cons.2 ⟨fun t ht=>(g1 t ht).1.1,g2⟩,fun hb t h1 h2=>?_⟩
   ·rcases List.mem_cons.1 hs with rfl|hs
    ·refine ⟨⟨Int.le_refl _,h.1,h.2⟩,fun c hc=>?_⟩
     dsimp only
     rcases List.mem_cons.1 hc with rfl|hc
     ·omega
     have:=hd c hc;omega
    obtain ⟨k1,k2⟩:=g1 s hs
    refine ⟨by omega,fun c hc=>?_⟩
    rcases List.mem_cons.1 hc with rfl|hc
    ·omega
    exact k2 c hc
   rw [Zz6E]
   by_cases hc:t<d
   ·exact .inl ⟨h1,hc⟩
   right
   rcases List.mem_cons.1 hb with rfl|hb
   ·omega
   exact g3 hb t (by omega) h2
  rw [if_neg h]
  obtain ⟨g1,g2,g3⟩:=Zz16 b (f:=f) hl hf
  refine ⟨fun s hs=>?_,g2,fun hb t h1 h2=>?_⟩
  ·obtain ⟨k1,k2⟩:=g1 s hs
   refine ⟨k1,fun c hc=>?_⟩
   rcases List.mem_cons.1 hc with rfl|hc
   ·omega
   exact k2 c hc
  rcases List.mem_cons.1 hb with rfl|hb
  ·omega
  exact g3 hb t h1 h2
def atsF (l:List Trn):List Int:=l.map Trn.at_
def difF (z q:Zn) (ps:List Spn):List Spn:=ps.filter fun s=>decide (z.typF s.fr≠q.typF s.fr)
theorem difF_len (z q:Zn) (ps:List Spn):(difF z q ps).length≤ps.length:=List.length_filter_le _ _
theorem dif_has {z q:Zn} (hz:z.valid=true) (hq:q.valid=true) {a b:Int} (hab:a<b) {l:List Int} (hA:l.Pairwise (· ≤ ·)) (hb:b∈l) (h1:∀ x∈z.betF a b,x.at_∈l) (h2:∀ x∈q.betF a b,x.at_∈l) (t:Int) :
  hasL (difF z q (piecesC b a l)) t↔(a≤t∧t<b)∧z.typF t≠q.typF t:=by
 obtain ⟨g1,g2,g3⟩:=Zz16 b (f:=a) hA (by omega)
 have key:∀ s∈piecesC b a l,s.has t→∀ p:Zn,p.valid=true→(∀ x∈p.betF a b,x.at_∈l)→p.typF t=p.typF s.fr:=fun s hs hh p hp hm=>by
  obtain ⟨k1,k2⟩:=g1 s hs
  obtain ⟨k3,k4⟩:=hh
  refine Zz6Z hp k3 fun x hx=>?_
  have hx1:=ZzM x hx
  refine Int.not_lt.1 fun hlt=>?_
  have hx2:x∈p.betF a b:=by
   unfold Zn.betF at hx ⊢
   rw [List.mem_filter] at hx ⊢
   exact ⟨hx.1,dTt (by omega)⟩
  exact k2 _ (hm x hx2) (by omega)
 unfold difF
 constructor
 ·rintro ⟨s,hs,hh⟩
  obtain ⟨hs1,hs2⟩:=List.mem_filter.1 hs
  have k:=(g1 s hs1).1
  obtain ⟨k3,k4⟩:=hh
  refine ⟨⟨by omega,by omega⟩,?_⟩
  rw [key s hs1 ⟨k3,k4⟩ z hz h1,key s hs1 ⟨k3,k4⟩ q hq h2]
  simpa using hs2
 rintro ⟨⟨k1,k2⟩,hne⟩
 obtain ⟨s,hs,hh⟩:=g3 hb t k1 k2
 refine ⟨s,List.mem_filter.2 ⟨hs,dTt ?_⟩,hh⟩
 rw [←key s hs hh z hz h1,←key s hs hh q hq h2]
 exact hne
/- Going through two lists of canonical runs at the same time. No program in sight. -/
def endF (l:List Spn) (n:Nat):Int:=if n=2*l.length then 8796093022208 else if n % 2=0 then (l[n / 2]!).fr else (l[n / 2]!).to
structure Behind (l:List Spn) (i:Nat) (p:Int):Prop where
 le:i≤2*l.length
 lo:∀ j,j<i→endF l j≤p
 hi:∀ j,i≤j→j<2*l.length→p<endF l j
theorem end_fr {l:List Spn} {m:Nat} (h:m<l.length):endF l (2*m)=(l[m]!).fr:=by
 unfold endF
 rw [if_neg (by omega),if_pos (by omega),show 2*m / 2=m by omega]
theorem end_to {l:List Spn} {m:Nat} (h:m<l.length):endF l (2*m+1)=(l[m]!).to:=by
 unfold endF
 rw [if_neg (by omega),if_neg (by omega),show (2*m+1) / 2=m by omega]
structure Runs (l:List Spn):Prop where
 c:Canon l
 o:∀ s∈l,s.ok=true
theorem Runs.at {l:List Spn} (h:Runs l) {m:Nat} (hm:m<l.length) : -4398046511104≤(l[m]!).fr∧(l[m]!).to≤4398046511104∧(l[m]!).fr<(l[m]!).to:=by
 rw [getElem!_pos l m hm]
 exact Spn.ok_iff.1 (h.o _ (List.getElem_mem hm))
theorem Runs.bd {l:List Spn} (h:Runs l) {j:Nat} (hj:j<2*l.length) : -4398046511104≤endF l j∧endF l j≤4398046511104:=by
 have hm:j / 2<l.length:=by omega
 have:=h.at hm
 rcases Nat.mod_two_eq_zero_or_one j with h2|h2
 ·rw [show j=2*(j / 2) by omega,end_fr hm];omega
 rw [show j=2*(j / 2)+1 by omega,end_to hm];omega
theorem Runs.step {l:List Spn} (h:Runs l) {j:Nat} (hj:j+1<2*l.length):endF l j<endF l (j+1):=by
 rcases Nat.mod_two_eq_zero_or_one j with h2|h2
 ·obtain ⟨m,rfl⟩:∃ m,j=2*m:=⟨j / 2,by omega⟩
  have hm:m<l.length:=by omega
  have:=h.at hm
  rw [end_fr hm,end_to hm];omega
 obtain ⟨m,rfl⟩:∃ m,j=2*m+1:=⟨j / 2,by omega⟩
 have hm:m+1<l.length:=by omega
 have h3:=List.pairwise_iff_getElem.1 h.c.asc m (m+1) (by omega) hm (by omega)
 rw [show 2*m+1+1=2*(m+1) by omega,end_fr hm,end_to (by omega),getElem!_pos l m (by omega),getElem!_pos l (m+1) hm]
 exact h3
theorem Runs.mono {l:List Spn} (h:Runs l):∀ j k,j<k→k<2*l.length→endF l j<endF l k:=by
 intro j k hjk
 induction k with
 | zero=>omega
 | succ k ih =>
  intro hk
  have h1:=h.step hk
  rcases Nat.lt_or_eq_of_le (Nat.lt_succ_iff.1 hjk) with h2|h2
  ·have:=ih h2 (by omega)
   omega
  rw [h2];exact h1
def nxtF (l:List Spn) (i:Nat) (t:Int):Nat:=if endF l i=t then i+1 else i
def odd (i:Nat):Bool:=i % 2 == 1
def Rul (rule:Bool→Bool→Bool) (a b:List Spn) (x:Int):Prop:=∀ u v:Bool,(u=true↔hasL a x)→(v=true↔hasL b x)→rule u v=true
structure CombInv (rule:Bool→Bool→Bool) (a b:List Spn) (i k:Nat) (ins:Bool) (fr p:Int) (out:List Spn):Prop where
 ba:Behind a i p
 bb:Behind b k p
 r:rule (odd i) (odd k)=ins
 run:ins=true→fr≤p ∧ -4398046511104≤fr∧(∀ x,fr≤x→x≤p→Rul rule a b x)∧∀ s∈out,s.to<fr
 m:∀ x,hasL out x↔Rul rule a b x∧x<(if ins=true then fr else p+1)
 c:Runs out
 t:∀ s∈out,s.to≤p
 l:out.length≤i+k
 p2:p≤4398046511104
 f : -4398046511104≤fr∧fr≤4398046511104
structure CombAt (rule:Bool→Bool→Bool) (a b:List Spn) (i k:Nat) (ins:Bool) (p t:Int):Prop where
 ba:Behind a (nxtF a i t) t
 bb:Behind b (nxtF b k t) t
 lt:p<t
 bd : -4398046511104≤t∧t≤4398046511104
 mid:∀ x,p≤x→x<t→(Rul rule a b x↔ins=true)
 fin:Rul rule a b t↔rule (odd (nxtF a i t)) (odd (nxtF b k t))=true
 n:i+k<nxtF a i t+nxtF b k t
structure CombOk (rule:Bool→Bool→Bool) (a b out:List Spn):Prop where
 c:Runs out
 m:∀ x,hasL out x↔Rul rule a b x
 l:out.length≤2*a.length+2*b.length
/- How many transitions a span can have, by the number of rules. No program in sight. -/
open Go.Sort
theorem Zz78 (rs:List Rule) (u v a:Int):∀ n:Nat,((evT rs a n).filter fun x=>decide (u≤x.1∧x.1≤v)).length≤rs.length*(min (a+n) (v+1)-max a u).toNat
 | 0=>by simp [evT]
 | n+1=>by
  have ih:=Zz78 rs u v a n
  rw [evT,List.filter_append,List.length_append]
  by_cases h:u≤a+n∧a+n≤v
  ·have e:(min (a+((n+1:Nat):Int)) (v+1)-max a u).toNat=(min (a+(n:Int)) (v+1)-max a u).toNat+1:=by omega
   rw [e,Nat.mul_succ]
   have h1:(((yearF rs (a+n)).map fun x=>(a+(n:Int),x)).filter fun x=>decide (u≤x.1∧x.1≤v)).length≤rs.length :=
    nLt (List.length_filter_le _ _) (by rw [List.length_map];exact Zz1O _ _)
   omega
  have e:((yearF rs (a+n)).map fun x=>(a+(n:Int),x)).filter (fun x=>decide (u≤x.1∧x.1≤v))=[]:=List.filter_eq_nil_iff.2 fun x hx=>by
   obtain ⟨y,_,rfl⟩:=List.mem_map.1 hx
   simpa using h
  rw [e]
  refine nLt ih (Nat.mul_le_mul_left _ ?_)
  omega
theorem Zz5C (z:Zn):∀ (s:Int) (xs:List (Int × Int × Int)),((z.happ s xs).map Prod.fst).Sublist (xs.map Prod.fst)
 | s,[]=>by rw [Zn.happ];exact List.Sublist.refl _
 | s,x :: xs=>by
  rw [Zn.happ]
  split
  ·exact (Zz5C z _ xs).cons _
  exact (Zz5C z _ xs).cons_cons _
theorem Zz4F {α:Type} (p:Int→Bool) (l:List (Int × α)):(l.filter fun x=>p x.1).length=((l.map Prod.fst).filter p).length:=by
 rw [List.filter_map,List.length_map];rfl
theorem TT_win (z:Zn) (u v:Int):(z.TT.filter fun x=>decide (u≤x.1∧x.1≤v)).length≤z.tail.length*(v+1-u).toNat:=by
 have h1:(z.TT.filter fun x=>decide (u≤x.1∧x.1≤v)).length≤(z.HF.filter fun x=>decide (u≤x.1∧x.1≤v)).length:=((Zzc _ _ _).filter _).length_le
 have h2:(z.HF.filter fun x=>decide (u≤x.1∧x.1≤v)).length≤((evT z.tail z.year (10000-z.year).toNat).filter fun x=>decide (u≤x.1∧x.1≤v)).length:=by
  rw [Zz4F (fun y=>decide (u≤y∧y≤v)),Zz4F (fun y=>decide (u≤y∧y≤v))]
  exact ((Zz5C z _ _).filter _).length_le
 have h3:=Zz78 z.tail u v z.year (10000-z.year).toNat
 have h4:z.tail.length*(min (z.year+((10000-z.year).toNat:Int)) (v+1)-max z.year u).toNat≤z.tail.length*(v+1-u).toNat:=Nat.mul_le_mul_left _ (by omega)
 omega
theorem Zz3G {a b:Int} (h:1≤a) (hab:a≤b):Cv.first a+365*(b-a)≤Cv.first b:=by unfold Cv.first;omega
theorem Zz64 {z:Zn} (ok:TailOk z) (hl:z.tail.length≤12) {a b:Int} (hab:b-a≤1263000000):(z.TT.filter fun x=>decide (inAB a b x)).length≤504:=by
 cases h:z.TT.filter fun x=>decide (inAB a b x) with
 | nil=>exact Nat.zero_le _
 | cons x0 l =>
  have hA:=(Zz4Q ok).filter fun x=>decide (inAB a b x)
  rw [h] at hA
  have hx0:x0∈z.TT.filter fun x=>decide (inAB a b x):=by rw [h];exact List.mem_cons_self
  obtain ⟨m0,i0⟩:=List.mem_filter.1 hx0
  have i0:inAB a b x0:=of_decide_eq_true i0
  have b0:=Zz4u ok m0
  have y1:=ok.y1
  have key:∀ x∈z.TT.filter (fun x=>decide (inAB a b x)),x0.1≤x.1∧x.1≤x0.1+41:=fun x hx=>by
   obtain ⟨m1,i1⟩:=List.mem_filter.1 hx
   have i1:inAB a b x:=of_decide_eq_true i1
   have b1:=Zz4u ok m1
   have hle:x0.1≤x.1:=by
    rw [h] at hx
    rcases List.mem_cons.1 hx with rfl|hx
    ·exact Int.le_refl _
    exact ((List.pairwise_cons.1 hA).1 x hx).1
   have hf:=Zz3G (by omega) hle
   unfold inAB at i0 i1
   unfold loL hiL at b0 b1
   exact ⟨hle,by omega⟩
  have h2:(z.TT.filter fun x=>decide (inAB a b x)).length≤(z.TT.filter fun x=>decide (x0.1≤x.1∧x.1≤x0.1+41)).length:=by
   have e:z.TT.filter (fun x=>decide (inAB a b x))=(z.TT.filter (fun x=>decide (inAB a b x))).filter (fun x=>decide (x0.1≤x.1∧x.1≤x0.1+41)):=(List.filter_eq_self.2 fun x hx=>dTt (key x hx)).symm
   rw [e,List.filter_filter]
   rw [show (z.TT.filter fun x=>(decide (x0.1≤x.1∧x.1≤x0.1+41) && decide (inAB a b x)))=(z.TT.filter fun x=>decide (x0.1≤x.1∧x.1≤x0.1+41)).filter fun x=>decide (inAB a b x) by rw [List.filter_filter];congr 1;funext x;exact Bool.and_comm _ _]
   exact List.length_filter_le _ _
  have h3:=TT_win z x0.1 (x0.1+41)
  have h4:z.tail.length*(x0.1+41+1-x0.1).toNat≤12*42:=by
   rw [show (x0.1+41+1-x0.1).toNat=42 by omega]
   exact Nat.mul_le_mul_right _ hl
  rw [h] at h2
  omega
theorem Zz1F {z:Zn} (hv:z.valid=true) (ht:z.table.length≤300) (hl:z.tail.length≤12) {a b:Int} (hab:b-a≤1263000000):(z.betF a b).length≤804:=by
 by_cases hn:z.tail=[]
 ·unfold Zn.betF Zn.T
  rw [if_pos hn,List.append_nil]
  have:=List.length_filter_le (fun x:Trn=>decide (a≤x.at_∧x.at_<b)) z.table
  omega
 rw [Zz22 hn,List.length_append,List.length_map]
 have:=List.length_filter_le (fun x:Trn=>decide (a≤x.at_∧x.at_<b)) z.table
 have:=Zz64 (Zzu hv hn) hl hab
 omega
/- What local.Gaps and local.Folds gather, before it is joined. No program in sight. -/
def imgs (ps:List Piece):List Spn:=ps.map Piece.img
structure Pcs (ps:List Piece) (f b:Int):Prop where
 ct:contig f ps b
 lo : -62135596800≤f
 hi:b≤253402300800
 off:∀ p∈ps,-93600<p.off∧p.off<93600
structure Skips (ps:List Piece) (f b:Int) (L:List Skip):Prop where
 bd:∀ x∈L,f≤x.at_∧x.at_<b∧x.bef<x.aft∧(-93600<x.bef∧x.bef<93600)∧(-93600<x.aft∧x.aft<93600)
 asc:L.Pairwise (fun x y=>x.at_≤y.at_)
 frm:∀ x∈L,∃ p∈ps,x.at_+x.bef=p.to+p.off
/-! ### what is left of a skip -/
structure RestInv (x:Skip) (N r:List Spn):Prop where
 m:∀ y,hasL r y↔inSkip y x=true∧∀ s∈N,¬ s.has y
 asc:r.Pairwise (fun s t=>s.to≤t.fr)
 ok:∀ s∈r,s.ok=true
 f:∀ s∈r,s.fr=x.at_+x.bef∨∃ t∈N,s.fr=t.to
theorem RestInv.len {x:Skip} {N r:List Spn} (h:RestInv x N r):r.length≤N.length+1:=by
 have h1:(r.map Spn.fr).Pairwise (· < ·):=by
  rw [List.pairwise_map]
  refine List.pairwise_iff_getElem.2 fun i j hi hj hij=>?_
  have h2:=List.pairwise_iff_getElem.1 h.asc i j hi hj hij
  have h3:=Spn.ok_iff.1 (h.ok _ (List.getElem_mem hi))
  omega
 have:=Zz2i (S:=(x.at_+x.bef) :: N.map Spn.to) h1 fun a ha=>by
  obtain ⟨s,hs,rfl⟩:=List.mem_map.1 ha
  rcases h.f s hs with h2|⟨t,ht,h2⟩
  ·rw [h2];exact List.mem_cons_self
  rw [h2];exact List.mem_cons_of_mem _ (List.mem_map.2 ⟨t,ht,rfl⟩)
 simpa using this
structure GapOne (ps:List Piece) (x:Skip) (r:List Spn):Prop where
 m:∀ y,hasL r y↔inSkip y x=true∧∀ p∈ps,¬ p.img.has y
 ok:∀ s∈r,s.ok=true
 f:∀ s∈r,s.fr=x.at_+x.bef∨∃ p∈ps,s.fr=p.to+p.off
 l:r.length≤ps.length+1
structure GapsOk (ps:List Piece) (L:List Skip) (out:List Spn):Prop where
 m:∀ y,hasL out y↔(∃ x∈L,inSkip y x=true)∧∀ p∈ps,¬ p.img.has y
 ok:∀ s∈out,s.ok=true
 f:∀ s∈out,(∃ x∈L,s.fr=x.at_+x.bef)∨∃ p∈ps,s.fr=p.to+p.off
 l:out.length≤L.length*(ps.length+1)
/-! ### folds -/
structure FoldsOk (ps:List Piece) (P:Nat→Nat→Prop) (out:List Spn):Prop where
 m:∀ y,hasL out y↔∃ i j,P i j∧((imgs ps)[i]!).has y∧((imgs ps)[j]!).has y
 ok:∀ s∈out,s.ok=true
 f:∀ s∈out,∃ p∈ps,s.fr=p.fr+p.off
structure Marks (z:Zn) (a b:Int) (l:Int) (g f:Bool):Prop where
 gap:g=true→z.insts l=[]
 fold:f=true↔1<(z.insts l).length
 far:g=false → -62135596800+187200≤l→l<253402300800-187200→z.insts l≠[]
end Go.Proofs.YtmmgdjgcikbhbaaGreat

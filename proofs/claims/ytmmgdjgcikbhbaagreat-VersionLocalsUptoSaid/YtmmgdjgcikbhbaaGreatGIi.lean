/- Joined by merge.py: Ref22i, LastP, Ref22j, Ref22k, Ref22l. -/
import Derived.Test.YtmmgdjgcikbhbaaGreatJRef22v
import Derived.Test.YtmmgdjgcikbhbaaGreatGIb
import Derived.Test.YtmmgdjgcikbhbaaGreatGVl
/- The reference of layer 22: the transitions in a time span. -/
open Go.Value renaming int → C, string → E, slice → G
open Go.IntKind renaming i64 → D
open Option renaming none → H
open Go.Obj renaming cells → I
open Go.Ending renaming returned → J
namespace Go.Proofs.YtmmgdjgcikbhbaaGreat
set_option linter.unusedSimpArgs false
set_option linter.unusedVariables false
open Go.ChangeShapes Go.WideShapes Go.ChangeAt Go.RowKit
theorem Zz7I (a b:Int) (w:World):Calls Tryz.prog 64 #[.agg #[C D a,C D b]] w fun e w'=>e=J (.bool (spanV a b))∧Below w.heap.size w w':=by
 have HBZ:=Hh (show Below w.heap.size w (w.alloc (I #[C D a,C D b] 29)) from bLR.alloc nlR _)
 unfold spanV
 by_cases h1 : -62135596800≤a
 ·rw [dTt h1,Bool.true_and]
  by_cases h2:a<b
  ·rw [dTt h2,Bool.true_and]
   go_enter Tryz.func64,Tryz.ntmps64
   go_wp2
   go_ret
   exact ⟨rfl,HBZ.out⟩
  rw [dFf h2,Bool.false_and]
  go_enter Tryz.func64,Tryz.ntmps64
  go_wp2
  go_ret
  exact ⟨ret1 (vbool (by simp)),HBZ.out⟩
 rw [dFf h1,Bool.false_and]
 go_enter Tryz.func64,Tryz.ntmps64
 go_wp2
 go_ret
 exact ⟨ret1 (vbool (by simp)),HBZ.out⟩
def hapB (LT:Typ) (K:Bool) (a b:Int) (L:List (Int × Trn)):List Trn:=((trans LT K L).filter fun x=>decide (inAB a b x)).map Prod.snd
theorem hapB_step {LT:Typ} {K:Bool} {a b:Int} {L:List (Int × Trn)} {k:Nat} (hk:k<L.length) :
  hapB LT K a b (L.take (k+1))=hapB LT K a b (L.take k)++(if ((K || decide (0<k))=true∧(L[k]!).2.ty≠lastTy LT (L.take k))∧a≤(L[k]!).2.at_∧(L[k]!).2.at_<b then [(L[k]!).2] else [])∧lastTy LT (L.take (k+1))=(L[k]!).2.ty:=by
 rw [List.take_succ_eq_append_getElem hk,Zz2n,getElem!_pos L k hk]
 refine ⟨?_,rfl⟩
 have e:(K || !(L.take k).isEmpty)=(K || decide (0<k)):=by
  congr 1
  cases k with
  | zero=>simp
  | succ k=>cases L with
   | nil=>simp at hk
   | cons=>simp
 unfold hapB
 rw [Zzf,Zz4s,e,List.filter_append,List.map_append]
 congr 1
 split
 ·rename_i h1
  by_cases h2:inAB a b L[k]
  ·rw [List.filter_cons,if_pos (dTt h2),if_pos (show _∧a≤_∧_<b from ⟨h1,h2⟩)];rfl
  rw [List.filter_cons,if_neg (fun h=>h2 (of_decide_eq_true h)),if_neg (fun h=>h2 h.2)];rfl
 rename_i h1
 rw [if_neg (fun h=>h1 h.1)];rfl
theorem hapB_len {LT:Typ} {K:Bool} {a b:Int} {L:List (Int × Trn)} {k:Nat}:(hapB LT K a b (L.take k)).length≤k:=by
 unfold hapB
 rw [List.length_map]
 have h1:=List.length_filter_le (fun x=>decide (inAB a b x)) (trans LT K (L.take k))
 have h2:=(Zzc LT K (L.take k)).length_le
 rw [List.length_take] at h2
 omega
theorem bet_ref {z:Zn} (ok:TailOk z) (hn:z.tail≠[]) {a b Ya Yb:Int} (hab:a<b) (ha:YearOf a Ya) (hb:YearOf (b-1) Yb) {F:Int} (hF:F=max z.year (Ya-40)) :
  z.betF a b=z.table.filter (inP a b)++hapB z.lastT (F == z.year) a b (z.happ (if F≤z.year then z.lastT.sv else 0) (evT z.tail F (min (Yb+1) 9999-F+1).toNat)):=by
 subst hF
 rw [Zz22 hn,←ref_bet ok hab ha hb]
 rfl
theorem Zz6U {α:Type} [Inhabited α] {enc:α→List Value} {K:Nat} {w:World} {v:Value} {es:List α} {q:Nat} (h:Rd enc K w v es) (hne:0<es.length→∀ g,v.ownBlock=some g→g≠q) (x y z:Value):Rd enc K (((w.setCell ⟨q,0,H⟩ x).setCell ⟨q,1,H⟩ y).setCell ⟨q,2,H⟩ z) v es:=by
 rcases h with ⟨h0,A,c,hv⟩|⟨g,off,c,rfl,hg,hc⟩
 ·exact .inl ⟨h0,A,c,hv⟩
 by_cases h0:es.length=0
 ·exact .inl ⟨List.eq_nil_of_length_eq_zero h0,some ⟨g,off,H⟩,c,by rw [h0]⟩
 have hgq:=hne (by omega) g rfl
 refine .inr ⟨g,off,c,rfl,by simpa using hg,fun j hj i u hu=>?_⟩
 have hn:∀ i' o':Nat,(⟨q,i',H⟩:Addr)≠⟨g,o',H⟩:=fun i' o' e=>by injection e with e1;exact hgq e1.symm
 rw [setNe _ _ _ _ (hn _ _),setNe _ _ _ _ (hn _ _),setNe _ _ _ _ (hn _ _)]
 exact hc j hj i u hu
theorem appS {w2 wq wa w8:World} {u:Value} {g7 o:Nat} {v0 v1 v2 v3:Value} (hA:Below wq.heap.size wq wa) (hg:wa.grownBy w8 u.ownBlock) (hne:u.ownBlock≠some g7) (hlt:g7<wq.heap.size) (c0:wq.cell? ⟨g7,o,H⟩=some v0) (c1:wq.cell? ⟨g7,o+1,H⟩=some v1) (c2:wq.cell? ⟨g7,o+2,H⟩=some v2) (c3:wq.cell? ⟨g7,o+3,H⟩=some v3) (hB:Below w2.heap.size w2 w8) :
  Below w2.heap.size w2 w8∧w8.cell? ⟨g7,o,H⟩=some v0∧w8.cell? ⟨g7,o+1,H⟩=some v1∧w8.cell? ⟨g7,o+2,H⟩=some v2∧w8.cell? ⟨g7,o+3,H⟩=some v3:=by
 have hla:=nLl hlt hA.size
 have key:∀ i v,wq.cell? ⟨g7,i,H⟩=some v→w8.cell? ⟨g7,i,H⟩=some v:=fun i v h=>(hg.cell_far ⟨g7,i,H⟩ hla (fun e=>hne e.symm)).trans ((hA.cell (p:=⟨g7,i,H⟩) hlt).trans h)
 exact ⟨hB,key _ _ c0,key _ _ c1,key _ _ c2,key _ _ c3⟩
theorem appK {wq wd w8:World} {u:Value} {q gg g7 o7 n c7:Nat} {ob:Obj} {cs:Array Value} {T:TypeId} {L:List (Int × Trn)} (hD:Below wq.heap.size wq wd) (hg:(wd.alloc ob).grownBy w8 u.ownBlock) (hat:u.ownBlock=some gg∨gg=(wd.alloc ob).heap.size) (kb:Blk wq q cs T) (hq:u.ownBlock≠some q) (RW:Rd encH 5 wq (G (some ⟨g7,o7,H⟩) n c7) L) (hlt:g7<wq.heap.size) (hne:u.ownBlock≠some g7) (n' cap:Nat) :
  Blk w8 q cs T∧Rd encH 5 w8 (G (some ⟨g7,o7,H⟩) n c7) L∧(Value.slice (some ⟨gg,0,H⟩) n' cap).ownBlock≠some q∧Hid (∀ g,(Value.slice (some ⟨g7,o7,H⟩) n c7).ownBlock=some g→(Value.slice (some ⟨gg,0,H⟩) n' cap).ownBlock≠some g):=by
 have hA:Below wq.heap.size wq (wd.alloc ob):=hD.alloc hD.size _
 have hz:=hA.size
 have hql:=kb.lt
 have key:∀ b,b<wq.heap.size→u.ownBlock≠some b→gg≠b:=fun b hb hu e=>by
  subst e
  rcases hat with h|h
  ·exact hu h
  omega
 refine ⟨(kb.below hA hql).kept hg (fun e=>hq e.symm),(RW.on hA).grown hg hg.size (fun g h=>?_),fun e=>?_,Hh fun g h e=>?_⟩
 ·have hh:g7=g:=by simpa [Value.ownBlock] using h
  subst hh;exact hne
 ·exact key q hql hq (by simpa [Value.ownBlock] using e)
 have hh:g7=g:=by simpa [Value.ownBlock] using h
 subst hh;exact key g7 hlt hne (by simpa [Value.ownBlock] using e)
theorem Zz2P {w:World} {base n k:Nat} {e:TypeId} {v:Value} {xs:List Value} (h:w.ownsRow base e k v n xs):∃ A c,v=G A n c:=by
 rcases h.2 with ⟨rfl,rfl⟩|⟨g,cap,cur,rfl,_⟩
 ·exact ⟨none,0,rfl⟩
 exact ⟨_,_,rfl⟩
theorem r22_hapE (z:Zn) (vT vR:Value) (F B:Int) (w:World) (ok:TailOk z) (hl:z.table.length≤1000000) (hll:z.tail.length≤12) (hT:Rd Trn.cells 4 w vT z.table) (hR:Rd Rule.cells 11 w vR z.tail) (hfs:z.form.size≤2000000) (h1:z.year≤F) (h2:F≤9999) (n:Nat) (hn:n=(min B 9999-F+1).toNat) (hn1:n≤200) :
  Calls Tryz.prog 66 #[z.v vT vR,C D F,C D B] w fun e w'=>∃ v,e=J v∧Rd encH 5 w' v (z.happ (if F≤z.year then z.lastT.sv else 0) (evT z.tail F n))∧Below w.heap.size w w'∧∀ g,v.ownBlock=some g→w.heap.size≤g:=by
 have y1:=ok.y1
 have y2:=ok.y2
 by_cases h:F≤z.year
 ·obtain rfl:F=z.year:=by omega
  rw [if_pos (Int.le_refl _)]
  exact r22_hapA z vT vR z.year B w hl hll hT hR hfs ok.y1 y2 (Int.le_refl _) n hn hn1 ⟨ok.o1,ok.o2⟩ ⟨ok.s1,ok.s2⟩ fun r hr=>Zz6u ok hr
 rw [if_neg h]
 exact r22_hapB z vT vR F B w hl hll hT hR hfs ok.y1 y2 (by omega) h2 n hn hn1 ⟨ok.o1,ok.o2⟩ fun r hr=>Zz6u ok hr
set_option maxRecDepth 100000 in
set_option maxHeartbeats 8000000 in
theorem Zz3K (z:Zn) (vT vR:Value) (a b:Int) (w:World) (hT:Rd Trn.cells 4 w vT z.table) (hR:Rd Rule.cells 11 w vR z.tail) (hfs:z.form.size≤2000000) (hll:z.tail.length≤12) (hl:z.table.length≤1000) (hv:z.valid=true) (hsp:spanV a b=true) (hab:b-a≤3200000000) (hcnt:(z.betF a b).length≤1000) :
  Calls Tryz.prog 29 #[z.v vT vR,.agg #[C D a,C D b]] w fun e w'=>∃ v,e=J (.tuple #[v,C D 0])∧Rd Trn.cells 4 w' v (z.betF a b)∧Below w.heap.size w w':=by
 have hsb : -62135596800≤a∧a<b∧b≤253402300800:=by
  unfold spanV at hsp
  simp at hsp
  omega
 have HV:=Hh (fun W (hb:Below w.heap.size w W)=>Zz55 z vT vR W (hT.on hb) (hR.on hb) hfs hll)
 rw [hv] at HV
 have HSP:=Hh (fun W=>Zz7I a b W)
 rw [hsp] at HSP
 obtain ⟨Ya,hYa,HYA0⟩:=Zz4j a hsb.1 (by omega)
 obtain ⟨Yb,hYb,HYB0⟩:=Zz4j (b-1) (by omega) (by omega)
 have HYA:=Hh HYA0
 have HYB:=Hh HYB0
 clear HYA0 HYB0
 have HEN:=Hh (fun W (hb:Below w.heap.size w W)=>r22_end z vT vR W (by omega) (hT.on hb))
 have HT:=Hh hT
 have HR:=Hh hR
 have HCN:=Hh hcnt
 have HVD:=Hh hv
 obtain ⟨i0,hi0,hz0,hz1,hz2⟩:=info_parts infoT
 have HHP:=Hh (fun (ok:TailOk z) F B W h1 h2 n hn hn1 (hb:Below w.heap.size w W)=>r22_hapE z vT vR F B W ok (by omega) hll (hT.on hb) (hR.on hb) hfs h1 h2 n hn hn1)
 obtain ⟨AT,cT,rfl⟩:=Zzb hT
 obtain ⟨AR,cR,rfl⟩:=Zzb hR
 have kz:=(Blk.new w #[E z.nm,C D z.first.off,C D z.first.sv,E z.first.nm,G AT z.table.length cT,G AR z.tail.length cR,C D z.off,E z.form,C D z.year] 27).alloc (I #[C D a,C D b] 29)
 have ki:=Blk.new (w.alloc (I #[E z.nm,C D z.first.off,C D z.first.sv,E z.first.nm,G AT z.table.length cT,G AR z.tail.length cR,C D z.off,E z.form,C D z.year] 27)) #[C D a,C D b] 29
 rw [World.size_alloc] at ki
 have hB0:Below w.heap.size w ((w.alloc (I #[E z.nm,C D z.first.off,C D z.first.sv,E z.first.nm,G AT z.table.length cT,G AR z.tail.length cR,C D z.off,E z.form,C D z.year] 27)).alloc (I #[C D a,C D b] 29)):=(bLR.alloc nlR _).alloc (by simp) _
 clear hT hR hcnt hv hsp
 unfold Zn.v at HV HEN HHP ⊢
 go_enter Tryz.func29,Tryz.ntmps29
 go_wp2_with fail
 generalize (w.alloc (I #[E z.nm,C D z.first.off,C D z.first.sv,E z.first.nm,G AT z.table.length cT,G AR z.tail.length cR,C D z.off,E z.form,C D z.year] 27)).alloc (I #[C D a,C D b] 29)=W0 at *
 refine (HV.out _ hB0).mono ?_
 rintro e w1 ⟨rfl,hb1⟩
 have kz1:=kz.below hb1 kz.lt
 have ki1:=ki.below hb1 ki.lt
 have x0:=ki1.cl 0 _ rfl
 have x1:=ki1.cl 1 _ rfl
 go_wp2_with fail
 refine (HSP.out _).mono ?_
 rintro e w2 ⟨rfl,hb2⟩
 have kz2:=kz1.below hb2 kz1.lt
 have ki2:=ki1.below hb2 ki1.lt
 have hB2:Below w.heap.size w w2:=(hB0.trans (hb1.mono hB0.size)).trans (hb2.mono (nLt hB0.size hb1.size))
 clear x0 x1 kz ki kz1 ki1 hb1 hb2 hB0 HV HSP
 have KZ:=Hh kz2
 have KI:=Hh ki2
 have hzl:=kz2.lt
 have hil:=ki2.lt
 have HB2:=Hh hB2
 clear kz2 ki2
 go_wp2
 go_loopw [6,7] (fun v6 i wr=>∃ k:Nat,k≤z.table.length∧i=C D k∧wr.ownsRow w2.heap.size 57 4 v6 ((z.table.take k).filter (inP a b)).length (((z.table.take k).filter (inP a b)).flatMap Trn.cells)∧Below w2.heap.size w2 wr) (fun _ i _=>z.table.length-(intOf i).toNat)
 case atStart=>exact ⟨0,Nat.zero_le _,rfl,⟨by simp,.inl ⟨rfl,by simp⟩⟩,Below.refl _ _⟩
 case round =>
  obtain ⟨k,hk,rfl,hown,hbr⟩:=hrel
  have hbr0:Below w.heap.size w wr:=hB2.trans (hbr.mono hB2.size)
  have hszb:=hbr.size
  have kzr:=KZ.out.below hbr hzl
  have kir:=KI.out.below hbr hil
  have z4:=kzr.cl 4 _ rfl
  have z5:=kzr.cl 5 _ rfl
  have s0:=kir.cl 0 _ rfl
  have s1:=kir.cl 1 _ rfl
  have hzr:w.heap.size<wr.heap.size:=nLl hzl hszb
  have hlo:=Zz6z (p:=inP a b) (l:=z.table) (k:=k)
  by_cases hlt:k<z.table.length
  ·obtain ⟨gT,oT,hAT,hgT,hcT⟩:∃ gT oT,AT=some ⟨gT,oT,H⟩∧gT<wr.heap.size∧∀ i u,(Trn.cells z.table[k]!)[i]? = some u→wr.cell? ⟨gT,oT+k*4+i,H⟩=some u:=by
    rcases HT.out.on hbr0 with ⟨e,_⟩|⟨gT,oT,c',hv,hgT,hcT⟩
    ·rw [e] at hlt;simp at hlt
    injection hv with e1 _ _
    exact ⟨gT,oT,e1,hgT,fun i u hu=>hcT k hlt i u hu⟩
   subst hAT
   have e0:=hcT 0 _ rfl
   have e1:=hcT 1 _ rfl
   have e2:=hcT 2 _ rfl
   have e3:=hcT 3 _ rfl
   rw [Nat.add_zero] at e0
   have HFS:=Hh (Zz3F (p:=inP a b) hlt)
   generalize z.table[k]! = x at *
   obtain ⟨xa,xt⟩:=x
   dsimp only at *
   generalize (z.table.take k).filter (inP a b)=O at *
   have HOWN:=Hh hown
   clear hcT hown kzr kir
   by_cases h1:a≤xa
   ·have d1:decide (a≤xa)=true:=dTt h1
    by_cases h2:xa<b
    ·have d2:decide (xa<b)=true:=dTt h2
     have HF:=Hh (show (z.table.take (k+1)).filter (inP a b)=O++[⟨xa,xt⟩] by rw [HFS.out,if_pos (show inP a b ⟨xa,xt⟩=true from dTt ⟨h1,h2⟩)])
     clear HFS
     go_wp2_with fail
     go_quiet (fail)
     have hd3:Below wr.heap.size wr (wr.drewN nq):=Zz1 bLR nq
     have hbn:=hbr.trans (hd3.mono hbr.size)
     have HON:=Hh (Zz8 HOWN.out hd3)
     have c0:=(hd3.cell (p:=⟨gT,oT+k*4,H⟩) hgT).trans e0
     have c1:=(hd3.cell (p:=⟨gT,oT+k*4+1,H⟩) hgT).trans e1
     have c2:=(hd3.cell (p:=⟨gT,oT+k*4+2,H⟩) hgT).trans e2
     have c3:=(hd3.cell (p:=⟨gT,oT+k*4+3,H⟩) hgT).trans e3
     have z4':=(hd3.cell (p:=⟨w.heap.size,4,H⟩) hzr).trans z4
     have hszn:=hbn.size
     clear e0 e1 e2 e3 z4 z5 s0 s1 hbr0
     generalize wr.drewN nq=wq at *
     go_wp2_with (at_builtin;refine wpList_append_own _ rfl _ _ _ rfl w2.heap.size 57 i0 _ 4 40 Tryz.underlying24 hi0 hz0 hz1 hz2 rfl (by decide) _ _ _ rfl (HON.out.alloc _) ⟨_,0,H⟩ 1 1 (Trn.cells ⟨xa,xt⟩) rfl rfl (Zz5 (by simp) _) (Zz1z _) (by simp only [maxLen];omega) (by omega) (by simp;omega) ?_;intro v' w3 hown3 hg3 _)
     have hB9:Below w2.heap.size w2 w3:=Zz3 HON.out nlR (hbn.alloc hbn.size _) hg3
     go_roundw
     case rel=>exact ⟨k+1,by omega,by go_num,by rw [HF.out];exact Zzp (es:=O) (x:=(⟨xa,xt⟩:Trn)) hown3,hB9⟩
     case measure=>simp [intOf];omega
    have d2:decide (xa<b)=false:=dFf h2
    have HF:=Hh (show (z.table.take (k+1)).filter (inP a b)=O by rw [HFS.out,if_neg (by unfold inP;simp;omega),List.append_nil])
    clear HFS
    go_wp2_with fail
    go_quiet (fail)
    have hd3:Below wr.heap.size wr (wr.drewN nq):=Zz1 bLR nq
    have hbn:=hbr.trans (hd3.mono hbr.size)
    have HON:=Hh (Zz8 HOWN.out hd3)
    have c0:=(hd3.cell (p:=⟨gT,oT+k*4,H⟩) hgT).trans e0
    have c1:=(hd3.cell (p:=⟨gT,oT+k*4+1,H⟩) hgT).trans e1
    have c2:=(hd3.cell (p:=⟨gT,oT+k*4+2,H⟩) hgT).trans e2
    have c3:=(hd3.cell (p:=⟨gT,oT+k*4+3,H⟩) hgT).trans e3
    have z4':=(hd3.cell (p:=⟨w.heap.size,4,H⟩) hzr).trans z4
    have hszn:=hbn.size
    clear e0 e1 e2 e3 z4 z5 s0 s1 hbr0
    generalize wr.drewN nq=wq at *
    go_wp2
    go_roundw
    case rel=>exact ⟨k+1,by omega,by go_num,by rw [HF.out];exact HON.out,hbn⟩
    case measure=>simp [intOf];omega
   have d1:decide (a≤xa)=false:=dFf h1
   have HF:=Hh (show (z.table.take (k+1)).filter (inP a b)=O by rw [HFS.out,if_neg (by unfold inP;simp;omega),List.append_nil])
   clear HFS
   go_wp2_with fail
   go_quiet (fail)
   have hd3:Below wr.heap.size wr (wr.drewN nq):=Zz1 bLR nq
   have hbn:=hbr.trans (hd3.mono hbr.size)
   have HON:=Hh (Zz8 HOWN.out hd3)
   have c0:=(hd3.cell (p:=⟨gT,oT+k*4,H⟩) hgT).trans e0
   have c1:=(hd3.cell (p:=⟨gT,oT+k*4+1,H⟩) hgT).trans e1
   have c2:=(hd3.cell (p:=⟨gT,oT+k*4+2,H⟩) hgT).trans e2
   have c3:=(hd3.cell (p:=⟨gT,oT+k*4+3,H⟩) hgT).trans e3
   have z4':=(hd3.cell (p:=⟨w.heap.size,4,H⟩) hzr).trans z4
   have hszn:=hbn.size
   clear e0 e1 e2 e3 z4 z5 s0 s1 hbr0
   generalize wr.drewN nq=wq at *
   go_wp2
   go_roundw
   case rel=>exact ⟨k+1,by omega,by go_num,by rw [HF.out];exact HON.out,hbn⟩
   case measure=>simp [intOf];omega
  have hke:k=z.table.length:=by omega
  subst hke
  rw [List.take_length] at hown hlo
  by_cases h0:z.tail=[]
  ·have hbF:z.betF a b=z.table.filter (inP a b):=by
    unfold Zn.betF Zn.T
    rw [if_pos h0,List.append_nil];rfl
   have hc:=HCN.out
   rw [hbF] at hc
   have HBF:=Hh hbF
   have d5:decide ((1000:Int)<((z.table.filter (inP a b)).length:Int))=false:=dFf (by omega)
   rw [h0,List.length_nil] at z5
   clear hbF
   generalize hO:z.table.filter (inP a b)=O at *
   clear hO
   obtain ⟨A6,c6,rfl⟩:=Zz2P hown
   go_wp2_with fail
   go_ret2
   exact ⟨_,rfl,by rw [HBF.out];exact Zz7 ZzO hown rfl,hbr0⟩
  have hne0:decide ((0:Int)<(z.tail.length:Int))=true:=by
   have:0<z.tail.length:=List.length_pos_iff.2 h0
   simp;omega
  have hpos:0<z.tail.length:=List.length_pos_iff.2 h0
  have ok:=Zzu HVD.out h0
  have y1:=ok.y1
  have y2:=ok.y2
  have Ya1:=hYa.y1
  have Ya2:=hYa.y2
  have Yb1:=hYb.y1
  have Yb2:=hYb.y2
  have z8:=kzr.cl 8 _ rfl
  obtain ⟨A6,c6,rfl⟩:=Zz2P hown
  have hir:w.heap.size+1<wr.heap.size:=nLl hil hszb
  have pz8:∀ q:Bel wr.heap.size wr,q.w1.cell? ⟨w.heap.size,8,H⟩=some (C D z.year):=fun q=>(Zzi q _ _ hzr).trans z8
  have ps0:∀ q:Bel wr.heap.size wr,q.w1.cell? ⟨w.heap.size+1,0,H⟩=some (C D a):=fun q=>(Zzi q _ _ hir).trans s0
  go_wp2_with fail
  refine Zzr (by kernel_rfl) (by kernel_rfl) ?_
  repeat (go_big_quiet_step ((go_at_call 65;exact bel_of nlR (HYA.out _))))
  refine wpQuiet_nil ?_
  intro w5 hw5
  obtain ⟨⟨w5',hb5⟩,hw2⟩:=hw5
  subst hw2
  obtain ⟨F,hF⟩:∃ F,max z.year (Ya-40)=F:=⟨_,rfl⟩
  have hB5:Below w2.heap.size w2 w5:=hbr.trans (hb5.mono hbr.size)
  have hB50:Below w.heap.size w w5:=hB2.trans (hB5.mono hB2.size)
  have kz5:=KZ.out.below hB5 hzl
  have ki5:=KI.out.below hB5 hil
  have HO5:=Hh (Zz8 hown hb5)
  clear pz8 ps0 z4 z5 s0 s1 z8 kzr kir hown
  rw [hF]
  have y0:=kz5.cl 0 _ rfl
  have y1':=kz5.cl 1 _ rfl
  have y2':=kz5.cl 2 _ rfl
  have y3:=kz5.cl 3 _ rfl
  have y4:=kz5.cl 4 _ rfl
  have y5:=kz5.cl 5 _ rfl
  have y6:=kz5.cl 6 _ rfl
  have y7:=kz5.cl 7 _ rfl
  have y8:=kz5.cl 8 _ rfl
  have s1:=ki5.cl 1 _ rfl
  have hz5:w.heap.size<w5.heap.size:=nLl hzl hB5.size
  have hi5:w.heap.size+1<w5.heap.size:=nLl hil hB5.size
  have hdr:Below w5.heap.size w5 w5.drew:=Zz1 (Below.refl w5.heap.size w5) 1
  have HS:=Hh (fun w' (hb:Below w5.heap.size w5 w')=>And.intro hb (And.intro ((hb.cell (p:=⟨w.heap.size,0,H⟩) hz5).trans y0) (And.intro ((hb.cell (p:=⟨w.heap.size,1,H⟩) hz5).trans y1') (And.intro ((hb.cell (p:=⟨w.heap.size,2,H⟩) hz5).trans y2') (And.intro ((hb.cell (p:=⟨w.heap.size,3,H⟩) hz5).trans y3) (And.intro ((hb.cell (p:=⟨w.heap.size,4,H⟩) hz5).trans y4) (And.intro ((hb.cell (p:=⟨w.heap.size,5,H⟩) hz5).trans y5) (And.intro ((hb.cell (p:=⟨w.heap.size,6,H⟩) hz5).trans y6) (And.intro ((hb.cell (p:=⟨w.heap.size,7,H⟩) hz5).trans y7) (And.intro ((hb.cell (p:=⟨w.heap.size,8,H⟩) hz5).trans y8) ((hb.cell (p:=⟨w.heap.size+1,1,H⟩) hi5).trans s1)))))))))))
  have hF1:z.year≤F:=by omega
  have hF2:F≤9999:=by omega
  have hwb1:IntKind.i64.wrap (b-1)=b-1:=by rw [IntKind.wrap_i64];omega
  have hwy:IntKind.i64.wrap (Yb+1)=Yb+1:=by rw [IntKind.wrap_i64];omega
  have hnn:(min (Yb+1) 9999-F+1).toNat≤200:=by
   have h1:=hYa.lo
   have h2:=hYa.hi
   have h3:=hYb.lo
   have h4:Yb-Ya≤110:=by
    rcases Int.lt_or_le Yb (Ya+1) with h|h
    ·omega
    have f1:=Zz15 (y:=Ya+1) (by omega) (Yb-(Ya+1)).toNat (by omega)
    rw [show Ya+1+((Yb-(Ya+1)).toNat:Int)=Yb by omega] at f1
    omega
   omega
  have HHB:=Hh (fun W hb=>HHP.out ok F (Yb+1) W hF1 hF2 (min (Yb+1) 9999-F+1).toNat rfl hnn hb)
  have HBR:=Hh (bet_ref ok h0 hsb.2.1 hYa hYb hF.symm)
  have HOK:=Hh ok
  have HYa:=Hh hYa
  have HYb:=Hh hYb
  have hLl:(z.happ (if F≤z.year then z.lastT.sv else 0) (evT z.tail F (min (Yb+1) 9999-F+1).toNat)).length≤2400:=by
   have h0:=Zz1y z (if F≤z.year then z.lastT.sv else 0) (evT z.tail F (min (Yb+1) 9999-F+1).toNat)
   have h1:=Zz2w z.tail F (min (Yb+1) 9999-F+1).toNat
   rw [←Zz2v,List.length_map] at h1
   have h2:=Nat.mul_le_mul hnn hll
   omega
  clear HHP ok hYa hYb hnn
  generalize z.happ (if F≤z.year then z.lastT.sv else 0) (evT z.tail F (min (Yb+1) 9999-F+1).toNat)=L at *
  go_wp2_with fail
  go_region_held3 (fun w'=>Below w5.heap.size w5 w'∧w'.cell? ⟨w.heap.size,0,H⟩=some (E z.nm)∧w'.cell? ⟨w.heap.size,1,H⟩=some (C D z.first.off)∧w'.cell? ⟨w.heap.size,2,H⟩=some (C D z.first.sv)∧w'.cell? ⟨w.heap.size,3,H⟩=some (E z.first.nm)∧w'.cell? ⟨w.heap.size,4,H⟩=some (G AT z.table.length cT)∧w'.cell? ⟨w.heap.size,5,H⟩=some (G AR z.tail.length cR)∧w'.cell? ⟨w.heap.size,6,H⟩=some (C D z.off)∧w'.cell? ⟨w.heap.size,7,H⟩=some (E z.form)∧w'.cell? ⟨w.heap.size,8,H⟩=some (C D z.year)∧w'.cell? ⟨w.heap.size+1,1,H⟩=some (C D b)) (first|exact HS.out _ hdr|exact HS.out _ K7|exact HS.out _ K6|go_keep)
   (first|(go_at_call 65;(try rw [hwb1]);refine (HYB.out _).mono ?_;rintro e w6 ⟨rfl,hb6⟩;have K6:=hdr.trans (hb6.mono hdr.size);clear HYB)|(go_at_call 66;(try rw [hwy]);refine (HHB.out _ (hB50.trans (K6.mono hB50.size))).mono ?_;rintro e w7 ⟨v7,rfl,r7,hb7,f7⟩;have K7:=K6.trans (hb7.mono K6.size);have R7:=Hh r7;have F7:=Hh (fun g hg=>nLt K6.size (f7 g hg));clear r7 f7))
  have hB7:Below w2.heap.size w2 w7:=hB5.trans (K7.mono hB5.size)
  have hB70:Below w.heap.size w w7:=hB2.trans (hB7.mono hB2.size)
  have HO7:=Hh (Zz8 HO5.out K7)
  have kz7:=KZ.out.below hB7 hzl
  have ki7:=KI.out.below hB7 hil
  have x0:=kz7.cl 0 _ rfl
  have x1:=kz7.cl 1 _ rfl
  have x2:=kz7.cl 2 _ rfl
  have x3:=kz7.cl 3 _ rfl
  have x4:=kz7.cl 4 _ rfl
  have x5:=kz7.cl 5 _ rfl
  have x6:=kz7.cl 6 _ rfl
  have x7:=kz7.cl 7 _ rfl
  have x8:=kz7.cl 8 _ rfl
  obtain ⟨A7,c7,rfl⟩:=Zzb R7.out
  have hb6':=hb6.size
  clear y0 y1' y2' y3 y4 y5 y6 y7 y8 HS hdr HHB kz5 ki5 s1
  go_wp2_with fail
  refine (HEN.out _ hB70).mono ?_
  rintro e w8 ⟨rfl,hb8⟩
  have hB8:Below w2.heap.size w2 w8:=hB7.trans (hb8.mono hB7.size)
  have HO8:=Hh (Zz8 HO7.out hb8)
  have R8:=Hh (R7.out.on hb8)
  have kb:=Blk.new w8 #[C D z.lastT.off,C D z.lastT.sv,E z.lastT.nm] 23
  clear x0 x1 x2 x3 x4 x5 x6 x7 x8 kz7 ki7
  have hbW:Below w8.heap.size w8 (w8.alloc (I #[C D z.lastT.off,C D z.lastT.sv,E z.lastT.nm] 23)):=Zz6 _ _
  have hB9:Below w2.heap.size w2 (w8.alloc (I #[C D z.lastT.off,C D z.lastT.sv,E z.lastT.nm] 23)):=hB8.trans (hbW.mono hB8.size)
  have HO9:=Hh (Zz8 HO8.out hbW)
  have R9:=Hh (R8.out.on hbW)
  have hq2:w2.heap.size≤w8.heap.size:=hB8.size
  have hqo:(Value.slice A6 (z.table.filter (inP a b)).length c6).ownBlock≠some w8.heap.size:=Zz2N HO8.out nlR
  have hgo:∀ g,(Value.slice A7 L.length c7).ownBlock=some g→(Value.slice A6 (z.table.filter (inP a b)).length c6).ownBlock≠some g:=fun g hg=>Zz2N HO5.out (F7.out g hg)
  have HQ7:=Hh (show 0<L.length→∀ g,(Value.slice A7 L.length c7).ownBlock=some g→g≠w8.heap.size from fun hp g hg=>by
   rcases R8.out with ⟨h0,_⟩|⟨g',off,c,hv,hg',_⟩
   ·rw [h0] at hp;cases hp
   rw [hv] at hg;have hgg:g'=g:=by simpa [Value.ownBlock] using hg
   omega)
  go_wp2_with fail
  generalize hW9:w8.alloc (I #[C D z.lastT.off,C D z.lastT.sv,E z.lastT.nm] 23)=W9 at *
  generalize w8.heap.size=q at *
  obtain ⟨T0,hT0⟩:∃ T0,z.table.filter (inP a b)=T0:=⟨_,rfl⟩
  obtain ⟨LT,hLT⟩:∃ LT,z.lastT=LT:=⟨_,rfl⟩
  obtain ⟨K,hK⟩:∃ K,(F == z.year)=K:=⟨_,rfl⟩
  have hbet:z.betF a b=T0++hapB LT K a b L:=by rw [←hT0,←hLT,←hK];exact HBR.out
  have HBET:=Hh hbet
  rw [hT0] at hlo HO9 hqo hgo ⊢
  rw [hLT] at kb
  clear hbet HBR HO5 HO7 HO8 R7 R8 hW9 hbW hLT hT0
  go_loopw [6,11,12] (fun v6 v11 _ wr=>∃ k:Nat,k≤L.length∧v11=C D k∧wr.ownsRow w2.heap.size 57 4 v6 (T0++hapB LT K a b (L.take k)).length ((T0++hapB LT K a b (L.take k)).flatMap Trn.cells)∧Below w2.heap.size w2 wr∧Blk wr q #[C D (lastTy LT (L.take k)).off,C D (lastTy LT (L.take k)).sv,E (lastTy LT (L.take k)).nm] 23∧v6.ownBlock≠some q∧Hid (Rd encH 5 wr (G A7 L.length c7) L)∧Hid (∀ g,(Value.slice A7 L.length c7).ownBlock=some g→v6.ownBlock≠some g)) (fun _ i _ _=>L.length-(intOf i).toNat)
  case atStart=>exact ⟨0,Nat.zero_le _,rfl,(by simpa [hapB,trans] using HO9.out),hB9,kb,hqo,R9,hgo⟩
  case round =>
   obtain ⟨k,hk,rfl,hown,hbr,kbr,hqn,R9,HGN⟩:=hrel
   by_cases hlt:k<L.length
   ·have hst:=hapB_step (LT:=LT) (K:=K) (a:=a) (b:=b) hlt
    have hln:=hapB_len (LT:=LT) (K:=K) (a:=a) (b:=b) (L:=L) (k:=k)
    obtain ⟨g7,o7,hA7,hg7,hc7⟩:∃ g off,A7=some ⟨g,off,H⟩∧g<wr.heap.size∧∀ i u,(encH L[k]!)[i]? = some u→wr.cell? ⟨g,off+k*5+i,H⟩=some u:=by
     rcases R9.out with ⟨h0,_⟩|⟨g,off,c',hv',hg,hc⟩
     ·rw [h0] at hlt;simp at hlt
     injection hv' with hv1 _ _
     exact ⟨g,off,hv1,hg,fun i u hu=>hc k hlt i u hu⟩
    subst hA7
    have e0:=hc7 0 _ rfl
    have e1:=hc7 1 _ rfl
    have e2:=hc7 2 _ rfl
    have e3:=hc7 3 _ rfl
    rw [Nat.add_zero] at e0
    have hne7:u6.ownBlock≠some g7:=HGN.out g7 rfl
    generalize (L[k]!).2=x at *
    obtain ⟨xa,xt⟩:=x
    dsimp only at e0 e1 e2 e3 hst
    generalize lastTy LT (L.take k)=bt at *
    have kzr:=KZ.out.below hbr hzl
    have kir:=KI.out.below hbr hil
    have z8:=kzr.cl 8 _ rfl
    have s0:=kir.cl 0 _ rfl
    have s1:=kir.cl 1 _ rfl
    have q0:=kbr.cl 0 _ rfl
    have q1:=kbr.cl 1 _ rfl
    have q2:=kbr.cl 2 _ rfl
    have HST:=Hh hst
    have HOWN:=Hh hown
    clear hst hown hc7
    have hnet:=fun W=>neTy xt bt W
    have hgd:=gdTy
    by_cases hkp:0<k
    have HKN:=Hh (show (K || decide (0<k))=true by rw [dTt hkp,Bool.or_true])
    have hki:decide ((0:Int)<(k:Int))=true:=dTt (by omega)
    by_cases h1:xt=bt
    have d1:decide (xt=bt)=true:=dTt h1
    have HF:=Hh (show T0++hapB LT K a b (L.take (k+1))=T0++hapB LT K a b (L.take k) by rw [HST.out.1,if_neg (fun h=>h.1.2 h1),List.append_nil])
    clear h1
    have SK:=True.intro
    rotate_left
    have d1:decide (xt=bt)=false:=dFf h1
    by_cases h2:a≤xa
    have d2:decide (a≤xa)=true:=dTt h2
    by_cases h3:xa<b
    have d3:decide (xa<b)=true:=dTt h3
    have HF:=Hh (show T0++hapB LT K a b (L.take (k+1))=(T0++hapB LT K a b (L.take k))++[⟨xa,xt⟩] by rw [HST.out.1,if_pos ⟨⟨HKN.out,h1⟩,h2,h3⟩,List.append_assoc])
    clear h1
    have AP:=True.intro
    rotate_left
    have d3:decide (xa<b)=false:=dFf h3
    have HF:=Hh (show T0++hapB LT K a b (L.take (k+1))=T0++hapB LT K a b (L.take k) by rw [HST.out.1,if_neg (fun h=>h3 h.2.2),List.append_nil])
    clear h1
    have SK:=True.intro
    rotate_left
    have d2:decide (a≤xa)=false:=dFf h2
    have HF:=Hh (show T0++hapB LT K a b (L.take (k+1))=T0++hapB LT K a b (L.take k) by rw [HST.out.1,if_neg (fun h=>h2 h.2.1),List.append_nil])
    clear h1
    have SK:=True.intro
    rotate_left
    have hki:decide ((0:Int)<(k:Int))=false:=dFf (by omega)
    by_cases hKv:K=true
    have hKx:(F == z.year)=true:=hK.trans hKv
    have HKN:=Hh (show (K || decide (0<k))=true by rw [hKv,Bool.true_or])
    clear hKv hK
    by_cases h1:xt=bt
    have d1:decide (xt=bt)=true:=dTt h1
    have HF:=Hh (show T0++hapB LT K a b (L.take (k+1))=T0++hapB LT K a b (L.take k) by rw [HST.out.1,if_neg (fun h=>h.1.2 h1),List.append_nil])
    clear h1
    have SK:=True.intro
    rotate_left
    have d1:decide (xt=bt)=false:=dFf h1
    by_cases h2:a≤xa
    have d2:decide (a≤xa)=true:=dTt h2
    by_cases h3:xa<b
    have d3:decide (xa<b)=true:=dTt h3
    have HF:=Hh (show T0++hapB LT K a b (L.take (k+1))=(T0++hapB LT K a b (L.take k))++[⟨xa,xt⟩] by rw [HST.out.1,if_pos ⟨⟨HKN.out,h1⟩,h2,h3⟩,List.append_assoc])
    clear h1
    have AP:=True.intro
    rotate_left
    have d3:decide (xa<b)=false:=dFf h3
    have HF:=Hh (show T0++hapB LT K a b (L.take (k+1))=T0++hapB LT K a b (L.take k) by rw [HST.out.1,if_neg (fun h=>h3 h.2.2),List.append_nil])
    clear h1
    have SK:=True.intro
    rotate_left
    have d2:decide (a≤xa)=false:=dFf h2
    have HF:=Hh (show T0++hapB LT K a b (L.take (k+1))=T0++hapB LT K a b (L.take k) by rw [HST.out.1,if_neg (fun h=>h2 h.2.1),List.append_nil])
    clear h1
    have SK:=True.intro
    rotate_left
    have hKf:K=false:=by simpa using hKv
    have hKx:(F == z.year)=false:=hK.trans hKf
    have HF:=Hh (show T0++hapB LT K a b (L.take (k+1))=T0++hapB LT K a b (L.take k) by rw [HST.out.1,if_neg (fun h=>by have:=h.1.1;rw [hKf,dFf hkp] at this;cases this),List.append_nil])
    clear hKv hKf hK
    have SK:=True.intro
    all_goals first
     | (
       have TK:=SK;clear TK SK
       go_wp2_with fail
       go_quiet (fail)
       have hd3:Below wr.heap.size wr (wr.drewN nq):=Zz1 bLR nq
       have hbn:=hbr.trans (hd3.mono hbr.size)
       have HON:=Hh (Zz8 HOWN.out hd3)
       have kbn:=kbr.below hd3 kbr.lt
       have R9n:=Hh (R9.out.on hd3)
       have c0:=(hd3.cell (p:=⟨g7,o7+k*5,H⟩) hg7).trans e0
       have c1:=(hd3.cell (p:=⟨g7,o7+k*5+1,H⟩) hg7).trans e1
       have c2:=(hd3.cell (p:=⟨g7,o7+k*5+2,H⟩) hg7).trans e2
       have c3:=(hd3.cell (p:=⟨g7,o7+k*5+3,H⟩) hg7).trans e3
       have hg7n:=nLl hg7 hd3.size
       have hszn:=hbn.size
       clear e0 e1 e2 e3 q0 q1 q2 z8 s0 s1 kbr R9 hd3 hg7 hbr kzr kir
       generalize wr.drewN nq=wq at *
       have KB:=kbn
       have OW:=HON.out
       have BW:=hbn
       have RW:=R9n.out
       have hqx:=hqn
       have p0:=KB.cl 0 _ rfl
       have p1:=KB.cl 1 _ rfl
       have p2:=KB.cl 2 _ rfl
       have f0:=KB.frozen 0
       have f1:=KB.frozen 1
       have f2:=KB.frozen 2
       have KB3:=Hh (KB.set3 (C D xt.off) (C D xt.sv) (E xt.nm))
       have HO3:=Hh (ownsRow_setCell_other (a:=⟨q,2,H⟩) (ownsRow_setCell_other (a:=⟨q,1,H⟩) (ownsRow_setCell_other (a:=⟨q,0,H⟩) OW hqx (C D xt.off)) hqx (C D xt.sv)) hqx (E xt.nm))
       have HB3:=Hh (Zze BW hq2 (C D xt.off) (C D xt.sv) (E xt.nm))
       have HR3:=Hh (Zz6U RW HQ7.out (C D xt.off) (C D xt.sv) (E xt.nm))
       clear KB OW BW RW hqx
       go_wp2
       go_roundw
       case rel=>exact ⟨k+1,by omega,by go_num,by rw [HF.out];exact HO3.out,HB3.out,by rw [HST.out.2];exact KB3.out,hqn,HR3.out,HGN⟩
       case measure=>simp [intOf];omega)
     | (
       have TK:=AP;clear TK AP
       go_wp2_with fail
       go_quiet (fail)
       have hd3:Below wr.heap.size wr (wr.drewN nq):=Zz1 bLR nq
       have hbn:=hbr.trans (hd3.mono hbr.size)
       have HON:=Hh (Zz8 HOWN.out hd3)
       have kbn:=kbr.below hd3 kbr.lt
       have R9n:=Hh (R9.out.on hd3)
       have c0:=(hd3.cell (p:=⟨g7,o7+k*5,H⟩) hg7).trans e0
       have c1:=(hd3.cell (p:=⟨g7,o7+k*5+1,H⟩) hg7).trans e1
       have c2:=(hd3.cell (p:=⟨g7,o7+k*5+2,H⟩) hg7).trans e2
       have c3:=(hd3.cell (p:=⟨g7,o7+k*5+3,H⟩) hg7).trans e3
       have hg7n:=nLl hg7 hd3.size
       have hszn:=hbn.size
       clear e0 e1 e2 e3 q0 q1 q2 z8 s0 s1 kbr R9 hd3 hg7 hbr kzr kir
       generalize wr.drewN nq=wq at *
       have hlo2:(T0++hapB LT K a b (L.take k)).length≤1000+200000:=by rw [List.length_append];omega
       generalize T0++hapB LT K a b (L.take k)=O at *
       have hdrb:Below wq.heap.size wq wq.drew:=Zz1 bLR 1
       have HOD:=Hh (Zz8 HON.out hdrb)
       have HS:=Hh (fun w' (hb:Below wq.heap.size wq w')=>And.intro (hbn.trans (hb.mono hbn.size)) (And.intro ((hb.cell (p:=⟨g7,o7+k*5,H⟩) hg7n).trans c0) (And.intro ((hb.cell (p:=⟨g7,o7+k*5+1,H⟩) hg7n).trans c1) (And.intro ((hb.cell (p:=⟨g7,o7+k*5+2,H⟩) hg7n).trans c2) ((hb.cell (p:=⟨g7,o7+k*5+3,H⟩) hg7n).trans c3)))))
       have HQK:=Hh kbn
       have HN7:=Hh hne7
       have HBN:=Hh hbn
       clear kbn hne7
       go_wp2_with fail
       go_region_held3 (fun w'=>Below w2.heap.size w2 w'∧w'.cell? ⟨g7,o7+k*5,H⟩=some (C D xa)∧w'.cell? ⟨g7,o7+k*5+1,H⟩=some (C D xt.off)∧w'.cell? ⟨g7,o7+k*5+2,H⟩=some (C D xt.sv)∧w'.cell? ⟨g7,o7+k*5+3,H⟩=some (E xt.nm)) (first|exact HS.out _ hdrb|exact HS.out _ (hdrb.alloc hdrb.size _)|exact K8|go_keep)
        ((refine step_append_lies _ (by rfl) _ _ _ (by rfl) w2.heap.size 57 i0 _ 4 40 Tryz.underlying24 hi0 hz0 hz1 hz2 rfl (by omega) _ _ _ (by rfl) (HOD.out.alloc _) ⟨_,0,H⟩ 1 1 (Trn.cells ⟨xa,xt⟩) (by rfl) (by rfl) (World.news_of_block (cs:=(Trn.cells ⟨xa,xt⟩).toArray) (t:=57) (fr:=(0,0)) (heap_alloc_new _ _)) (Zz1z _) (by omega) (by simp only [maxLen];omega) (by omega) (by have:=HBN.out.size;simp;omega) _ rfl ?_;intro gg cap w8 hown8 hg8 hat8 hlt8;have hA8:=hdrb.alloc hdrb.size (I (Trn.cells ⟨xa,xt⟩).toArray 57);have B8:=Zz3 HON.out nlR (HBN.out.trans (hA8.mono HBN.out.size)) hg8;have K8:=appS hA8 hg8 HN7.out hg7n c0 c1 c2 c3 B8))
       obtain ⟨KB,RW,hqx,HGX⟩:=appK hdrb hg8 hat8 HQK.out hqn R9n.out hg7n HN7.out (O.length+1) cap
       have OW:=Zzp (es:=O) (x:=(⟨xa,xt⟩:Trn)) hown8
       have BW:=K8.1
       have c0':=K8.2.1
       have c1':=K8.2.2.1
       have c2':=K8.2.2.2.1
       have c3':=K8.2.2.2.2
       clear c0 c1 c2 c3 HS hdrb HOD HON
       have p0:=KB.cl 0 _ rfl
       have p1:=KB.cl 1 _ rfl
       have p2:=KB.cl 2 _ rfl
       have f0:=KB.frozen 0
       have f1:=KB.frozen 1
       have f2:=KB.frozen 2
       have KB3:=Hh (KB.set3 (C D xt.off) (C D xt.sv) (E xt.nm))
       have HO3:=Hh (ownsRow_setCell_other (a:=⟨q,2,H⟩) (ownsRow_setCell_other (a:=⟨q,1,H⟩) (ownsRow_setCell_other (a:=⟨q,0,H⟩) OW hqx (C D xt.off)) hqx (C D xt.sv)) hqx (E xt.nm))
       have HB3:=Hh (Zze BW hq2 (C D xt.off) (C D xt.sv) (E xt.nm))
       have HR3:=Hh (Zz6U RW HQ7.out (C D xt.off) (C D xt.sv) (E xt.nm))
       clear KB OW BW RW
       go_wp2
       go_roundw
       case rel=>exact ⟨k+1,by omega,by go_num,by rw [HF.out];exact HO3.out,HB3.out,by rw [HST.out.2];exact KB3.out,hqx,HR3.out,HGX⟩
       case measure=>simp [intOf];omega)
   have hkl:k=L.length:=by omega
   subst hkl
   rw [List.take_length] at hown
   rw [←HBET.out] at hown
   have hc:=HCN.out
   have hB20:Below w.heap.size w wr:=hB2.trans (hbr.mono hB2.size)
   obtain ⟨A9,c9,rfl⟩:=Zz2P hown
   generalize hBE:z.betF a b=B at *
   have HBE:=Hh hBE
   have HOWN:=Hh hown
   clear hBE hown
   have d5:decide ((1000:Int)<(B.length:Int))=false:=dFf (by omega)
   go_wp2_with fail
   go_ret2
   exact ⟨_,rfl,by rw [HBE.out];exact Zz7 ZzO HOWN.out rfl,hB20⟩
/- The last transition that is at most an instant, as the reference looks for it. No program in sight. -/
def leq (t:Int) (x:Trn):Bool:=decide (x.at_≤t)
def Zn.arn (z:Zn) (y:Int):List Trn:=(z.arnd y).map Prod.snd
theorem Zz1Y (l:List (Int × Trn)) (t:Int):(l.map Prod.snd).reverse.find? (leq t)=(l.reverse.find? fun x=>decide (x.2.at_≤t)).map Prod.snd:=by
 rw [←List.map_reverse,List.find?_map]
 rfl
theorem last_tail {z:Zn} (ok:TailOk z) (hn:z.tail≠[]) {t Y:Int} (hY:YearOf t Y) :
  z.prevF t=(((z.arn (max Y z.year)).reverse.find? (leq t)).or ((z.arn z.year).reverse.find? (leq t))).or (z.table.reverse.find? (leq t)):=by
 unfold Zn.prevF Zn.T Zn.arn
 rw [if_neg hn,List.reverse_append,List.find?_append]
 show ((z.TT.map Prod.snd).reverse.find? (leq t)).or (z.table.reverse.find? (leq t))=_
 rw [Zz1Y,Zz1Y,Zz1Y,←ref_last ok hY]
 congr 1
 cases List.find? (fun x=>decide (x.2.at_≤t)) (z.arnd (max Y z.year)).reverse <;> rfl
theorem last_none {z:Zn} (hn:z.tail=[]) (t:Int):z.prevF t=z.table.reverse.find? (leq t):=by
 unfold Zn.prevF Zn.T
 rw [if_pos hn,List.append_nil]
 rfl
theorem Zz4n {α:Type} [Inhabited α] {l:List α} {p:α→Bool} {k:Nat} (hk:k<l.length) :
  (l.take (k+1)).reverse.find? p=if p l[k]! = true then some l[k]! else (l.take k).reverse.find? p:=by
 rw [List.take_succ_eq_append_getElem hk,List.reverse_append,getElem!_pos l k hk]
 simp only [List.reverse_cons,List.reverse_nil,List.nil_append,List.singleton_append,List.find?_cons]
 cases p l[k] <;> simp
def arB (LT:Typ) (K:Bool) (y:Int) (L:List (Int × Trn)):List Trn:=((trans LT K L).filter fun x=>K || decide (y-24≤x.1)).map Prod.snd
theorem arB_step {LT:Typ} {K:Bool} {y:Int} {L:List (Int × Trn)} {k:Nat} (hk:k<L.length) :
  arB LT K y (L.take (k+1))=arB LT K y (L.take k)++(if ((K || decide (0<k))=true∧(L[k]!).2.ty≠lastTy LT (L.take k))∧(K || decide (y-24≤(L[k]!).1))=true then [(L[k]!).2] else [])∧lastTy LT (L.take (k+1))=(L[k]!).2.ty:=by
 rw [List.take_succ_eq_append_getElem hk,Zz2n,getElem!_pos L k hk]
 refine ⟨?_,rfl⟩
 have e:(K || !(L.take k).isEmpty)=(K || decide (0<k)):=by
  congr 1
  cases k with
  | zero=>simp
  | succ k=>cases L with
   | nil=>simp at hk
   | cons=>simp
 unfold arB
 rw [Zzf,Zz4s,e,List.filter_append,List.map_append]
 congr 1
 split
 ·rename_i h1
  by_cases h2:(K || decide (y-24≤(L[k]).1))=true
  ·rw [List.filter_cons,if_pos h2,if_pos ⟨h1,h2⟩];rfl
  rw [List.filter_cons,if_neg h2,if_neg (fun h=>h2 h.2)];rfl
 rename_i h1
 rw [if_neg (fun h=>h1 h.1)];rfl
theorem arB_len {LT:Typ} {K:Bool} {y:Int} {L:List (Int × Trn)} {k:Nat}:(arB LT K y (L.take k)).length≤k:=by
 unfold arB
 rw [List.length_map]
 have h1:=List.length_filter_le (fun x=>K || decide (y-24≤x.1)) (trans LT K (L.take k))
 have h2:=(Zzc LT K (L.take k)).length_le
 rw [List.length_take] at h2
 omega
theorem arn_ref {z:Zn} (ok:TailOk z) {y:Int} (h1:z.year≤y) (h2:y≤9999) :
  z.arn y=arB z.lastT (decide (y-46≤z.year)) y (z.happ (if y-46≤z.year then z.lastT.sv else 0) (evT z.tail (max z.year (y-46)) (min (y+24) 9999-max z.year (y-46)+1).toNat)):=by
 unfold Zn.arn
 rw [←ref_arnd ok h1 h2]
 unfold Zn.refA Zn.refW arB
 have e1:(max z.year (y-46) == z.year)=decide (y-46≤z.year):=by
  rw [Bool.eq_iff_iff,beq_iff_eq,decide_eq_true_eq]
  omega
 have e2:(max z.year (y-46)≤z.year)=(y-46≤z.year):=by
  rw [eq_iff_iff];omega
 simp only [e1,e2]
 congr 1
 refine List.filter_congr fun x _=>?_
 rw [Bool.eq_iff_iff]
 simp
/- The reference of layer 22: the transitions of the tail near a year. Printed by gen_ref22j.py. -/
theorem arn_len {z:Zn} (ok:TailOk z) {y:Int} (h1:z.year≤y) (h2:y≤9999) (hll:z.tail.length≤12):(z.arn y).length≤1000:=by
 rw [arn_ref ok h1 h2]
 have h3:=arB_len (LT:=z.lastT) (K:=decide (y-46≤z.year)) (y:=y) (L:=z.happ (if y-46≤z.year then z.lastT.sv else 0) (evT z.tail (max z.year (y-46)) (min (y+24) 9999-max z.year (y-46)+1).toNat)) (k:=(z.happ (if y-46≤z.year then z.lastT.sv else 0) (evT z.tail (max z.year (y-46)) (min (y+24) 9999-max z.year (y-46)+1).toNat)).length)
 rw [List.take_length] at h3
 have h4:=Zz1y z (if y-46≤z.year then z.lastT.sv else 0) (evT z.tail (max z.year (y-46)) (min (y+24) 9999-max z.year (y-46)+1).toNat)
 have h5:=Zz2w z.tail (max z.year (y-46)) (min (y+24) 9999-max z.year (y-46)+1).toNat
 rw [←Zz2v,List.length_map] at h5
 have h6:=Nat.mul_le_mul (show (min (y+24) 9999-max z.year (y-46)+1).toNat≤71 by omega) hll
 omega
theorem r22_hapM (z:Zn) (vT vR:Value) (f B:Int) (w:World) (ok:TailOk z) (hl:z.table.length≤1000000) (hll:z.tail.length≤12) (hT:Rd Trn.cells 4 w vT z.table) (hR:Rd Rule.cells 11 w vR z.tail) (hfs:z.form.size≤2000000) (h2:f≤9999) (n:Nat) (hn:n=(min B 9999-max z.year f+1).toNat) (hn1:n≤200) :
  Calls Tryz.prog 66 #[z.v vT vR,C D f,C D B] w fun e w'=>∃ v,e=J v∧Rd encH 5 w' v (z.happ (if f≤z.year then z.lastT.sv else 0) (evT z.tail (max z.year f) n))∧Below w.heap.size w w'∧∀ g,v.ownBlock=some g→w.heap.size≤g:=by
 have y2:=ok.y2
 by_cases h:f≤z.year
 ·rw [if_pos h,show max z.year f=z.year by omega]
  rw [show max z.year f=z.year by omega] at hn
  exact r22_hapA z vT vR f B w hl hll hT hR hfs ok.y1 y2 h n hn hn1 ⟨ok.o1,ok.o2⟩ ⟨ok.s1,ok.s2⟩ fun r hr=>Zz6u ok hr
 rw [if_neg h,show max z.year f=f by omega]
 rw [show max z.year f=f by omega] at hn
 exact r22_hapB z vT vR f B w hl hll hT hR hfs ok.y1 y2 (by omega) h2 n hn hn1 ⟨ok.o1,ok.o2⟩ fun r hr=>Zz6u ok hr
theorem Zz3r (z:Zn) (vT vR:Value) (y:Int) (w:World) (hR:Rd Rule.cells 11 w vR z.tail) (h0:z.tail=[]) :
  Calls Tryz.prog 104 #[z.v vT vR,C D y] w fun e w'=>e=J (G none 0 0)∧Below w.heap.size w w':=by
 obtain ⟨AR,cR,rfl⟩:=Zzb hR
 have hB0:Below w.heap.size w (w.alloc (I #[E z.nm,C D z.first.off,C D z.first.sv,E z.first.nm,vT,G AR z.tail.length cR,C D z.off,E z.form,C D z.year] 27)):=bLR.alloc nlR _
 rw [h0,List.length_nil] at hB0 ⊢
 unfold Zn.v
 clear hR h0
 go_enter Tryz.func104,Tryz.ntmps104
 go_wp2
 go_ret
 exact ⟨rfl,hB0⟩
set_option maxRecDepth 100000 in
set_option maxHeartbeats 1000000 in
theorem Zz56 (z:Zn) (vT vR:Value) (y:Int) (w:World) (hT:Rd Trn.cells 4 w vT z.table) (hR:Rd Rule.cells 11 w vR z.tail) (hfs:z.form.size≤2000000) (hll:z.tail.length≤12) (hl:z.table.length≤1000) (hv:z.valid=true) (h0:z.tail≠[]) (hy1:1≤y) (hy2:y≤9999) :
  Calls Tryz.prog 104 #[z.v vT vR,C D y] w fun e w'=>∃ v,e=J v∧Rd Trn.cells 4 w' v (z.arn (max y z.year))∧Below w.heap.size w w':=by
 have ok:=Zzu hv h0
 have y1:=ok.y1
 have y2:=ok.y2
 obtain ⟨Y,hY⟩:∃ Y,max y z.year=Y:=⟨_,rfl⟩
 have hY1:z.year≤Y:=by omega
 have hY2:Y≤9999:=by omega
 obtain ⟨i0,hi0,hz0,hz1,hz2⟩:=info_parts infoT
 have HEN:=Hh (fun W (hb:Below w.heap.size w W)=>r22_end z vT vR W (by omega) (hT.on hb))
 have HHB:=Hh (fun W (hb:Below w.heap.size w W)=>r22_hapM z vT vR (Y-46) (Y+24) W ok (by omega) hll (hT.on hb) (hR.on hb) hfs (by omega) (min (Y+24) 9999-max z.year (Y-46)+1).toNat rfl (by omega))
 have HAR:=arn_ref ok hY1 hY2
 have hLl:(z.happ (if Y-46≤z.year then z.lastT.sv else 0) (evT z.tail (max z.year (Y-46)) (min (Y+24) 9999-max z.year (Y-46)+1).toNat)).length≤2400:=by
  have h0:=Zz1y z (if Y-46≤z.year then z.lastT.sv else 0) (evT z.tail (max z.year (Y-46)) (min (Y+24) 9999-max z.year (Y-46)+1).toNat)
  have h1:=Zz2w z.tail (max z.year (Y-46)) (min (Y+24) 9999-max z.year (Y-46)+1).toNat
  rw [←Zz2v,List.length_map] at h1
  have h2:=Nat.mul_le_mul (show (min (Y+24) 9999-max z.year (Y-46)+1).toNat≤71 by omega) hll
  omega
 generalize z.happ (if Y-46≤z.year then z.lastT.sv else 0) (evT z.tail (max z.year (Y-46)) (min (Y+24) 9999-max z.year (Y-46)+1).toNat)=L at *
 obtain ⟨K,hK⟩:∃ K,decide (Y-46≤z.year)=K:=⟨_,rfl⟩
 obtain ⟨LT,hLT⟩:∃ LT,z.lastT=LT:=⟨_,rfl⟩
 rw [hK,hLT] at HAR
 have HAR:=Hh HAR
 have hpos:0<z.tail.length:=List.length_pos_iff.2 h0
 have d0:((z.tail.length:Int) == 0)=false:=by
  rw [beq_eq_false_iff_ne];omega
 have hw46:IntKind.i64.wrap (Y-46)=Y-46:=by rw [IntKind.wrap_i64];omega
 have hw24:IntKind.i64.wrap (Y-24)=Y-24:=by rw [IntKind.wrap_i64];omega
 obtain ⟨AT,cT,rfl⟩:=Zzb hT
 obtain ⟨AR,cR,rfl⟩:=Zzb hR
 have kz:=Blk.new w #[E z.nm,C D z.first.off,C D z.first.sv,E z.first.nm,G AT z.table.length cT,G AR z.tail.length cR,C D z.off,E z.form,C D z.year] 27
 have hB0:Below w.heap.size w (w.alloc (I #[E z.nm,C D z.first.off,C D z.first.sv,E z.first.nm,G AT z.table.length cT,G AR z.tail.length cR,C D z.off,E z.form,C D z.year] 27)):=bLR.alloc nlR _
 have HW46:=Hh hw46
 have HW24:=Hh hw24
 clear hT hR hv ok hfs hw46 hw24
 unfold Zn.v at HEN HHB ⊢
 rw [hY]
 have HY:=Hh hY
 clear hY
 go_enter Tryz.func104,Tryz.ntmps104
 go_wp2_with fail
 rw [HY.out]
 have hk0z:w.heap.size<(w.alloc (I #[E z.nm,C D z.first.off,C D z.first.sv,E z.first.nm,G AT z.table.length cT,G AR z.tail.length cR,C D z.off,E z.form,C D z.year] 27)).heap.size:=kz.lt
 generalize w.alloc (I #[E z.nm,C D z.first.off,C D z.first.sv,E z.first.nm,G AT z.table.length cT,G AR z.tail.length cR,C D z.off,E z.form,C D z.year] 27)=W0 at *
 refine (HHB.out _ hB0).mono ?_
 rintro e w7 ⟨v7,rfl,r7,hb7,f7⟩
 have hB7:Below w.heap.size w w7:=hB0.trans (hb7.mono hB0.size)
 have R7:=Hh r7
 have F7:=Hh f7
 have KZ:=Hh (kz.below hb7 kz.lt)
 have hzl:=KZ.out.lt
 have kz7:=KZ.out
 have x0:=kz7.cl 0 _ rfl
 have x1:=kz7.cl 1 _ rfl
 have x2:=kz7.cl 2 _ rfl
 have x3:=kz7.cl 3 _ rfl
 have x4:=kz7.cl 4 _ rfl
 have x5:=kz7.cl 5 _ rfl
 have x6:=kz7.cl 6 _ rfl
 have x7:=kz7.cl 7 _ rfl
 have x8:=kz7.cl 8 _ rfl
 obtain ⟨A7,c7,rfl⟩:=Zzb R7.out
 have hsz7:=hB7.size
 clear r7 f7 kz HHB
 go_wp2_with fail
 refine (HEN.out _ hB7).mono ?_
 rintro e w8 ⟨rfl,hb8⟩
 rw [hLT]
 have hB8:Below w.heap.size w w8:=hB7.trans (hb8.mono hB7.size)
 have R8:=Hh (R7.out.on hb8)
 have KZ8:=Hh (KZ.out.below hb8 hzl)
 have kb:=Blk.new w8 #[C D LT.off,C D LT.sv,E LT.nm] 23
 clear x0 x1 x2 x3 x4 x5 x6 x7 x8 kz7
 have hbW:Below w8.heap.size w8 (w8.alloc (I #[C D LT.off,C D LT.sv,E LT.nm] 23)):=Zz6 _ _
 have hB9:Below w.heap.size w (w8.alloc (I #[C D LT.off,C D LT.sv,E LT.nm] 23)):=hB8.trans (hbW.mono hB8.size)
 have R9:=Hh (R8.out.on hbW)
 have KZ9:=Hh (KZ8.out.below hbW KZ8.out.lt)
 have hq2:w.heap.size≤w8.heap.size:=hB8.size
 have hzq:w.heap.size<w8.heap.size:=KZ8.out.lt
 have HQ7:=Hh (show 0<L.length→∀ g,(Value.slice A7 L.length c7).ownBlock=some g→g≠w8.heap.size from fun hp g hg=>by
  rcases R8.out with ⟨h0,_⟩|⟨g',off,c,hv,hg',_⟩
  ·rw [h0] at hp;cases hp
  rw [hv] at hg;have hgg:g'=g:=by simpa [Value.ownBlock] using hg
  omega)
 have HGZ:=Hh (show ∀ g,(Value.slice A7 L.length c7).ownBlock=some g→g≠w.heap.size from fun g hg=>by have h1:=F7.out g hg;have h2:=hk0z;omega)
 clear hb7 hb8 hB7 hsz7 R7 R8 KZ KZ8 hLT
 go_wp2_with fail
 generalize hW9:w8.alloc (I #[C D LT.off,C D LT.sv,E LT.nm] 23)=W9 at *
 generalize w8.heap.size=q at *
 clear hW9 hbW
 go_loopw [6,8,9] (fun v6 v8 _ wr=>∃ k:Nat,k≤L.length∧v8=C D k∧wr.ownsRow w.heap.size 57 4 v6 (arB LT K Y (L.take k)).length ((arB LT K Y (L.take k)).flatMap Trn.cells)∧Below w.heap.size w wr∧Blk wr q #[C D (lastTy LT (L.take k)).off,C D (lastTy LT (L.take k)).sv,E (lastTy LT (L.take k)).nm] 23∧v6.ownBlock≠some q∧Hid (Rd encH 5 wr (G A7 L.length c7) L)∧Hid (∀ g,(Value.slice A7 L.length c7).ownBlock=some g→v6.ownBlock≠some g)∧Hid (Blk wr w.heap.size #[E z.nm,C D z.first.off,C D z.first.sv,E z.first.nm,G AT z.table.length cT,G AR z.tail.length cR,C D z.off,E z.form,C D z.year] 27)∧v6.ownBlock≠some w.heap.size) (fun _ v8 _ _=>L.length-(intOf v8).toNat)
 case atStart=>exact ⟨0,Nat.zero_le _,rfl,⟨by simp [arB,trans],.inl ⟨by simp [arB,trans],by simp [arB,trans]⟩⟩,hB9,kb,by simp [Value.ownBlock],R9,Hh (fun g _=>by simp [Value.ownBlock]),KZ9,by simp [Value.ownBlock]⟩
 case round =>
  obtain ⟨k,hk,rfl,hown,hbr,kbr,hqn,R9,HGN,KZr,hzn⟩:=hrel
  by_cases hlt:k<L.length
  ·have hst:=arB_step (LT:=LT) (K:=K) (y:=Y) hlt
   have hln:=arB_len (LT:=LT) (K:=K) (y:=Y) (L:=L) (k:=k)
   obtain ⟨g7,o7,hA7,hg7,hc7⟩:∃ g off,A7=some ⟨g,off,H⟩∧g<wr.heap.size∧∀ i u,(encH L[k]!)[i]? = some u→wr.cell? ⟨g,off+k*5+i,H⟩=some u:=by
    rcases R9.out with ⟨h0,_⟩|⟨g,off,c',hv',hg,hc⟩
    ·rw [h0] at hlt;simp at hlt
    injection hv' with hv1 _ _
    exact ⟨g,off,hv1,hg,fun i u hu=>hc k hlt i u hu⟩
   subst hA7
   have e0:=hc7 0 _ rfl
   have e1:=hc7 1 _ rfl
   have e2:=hc7 2 _ rfl
   have e3:=hc7 3 _ rfl
   have e4:=hc7 4 _ rfl
   rw [Nat.add_zero] at e0
   have hne7:u6.ownBlock≠some g7:=HGN.out g7 rfl
   have hgz:g7≠w.heap.size:=HGZ.out g7 rfl
   generalize L[k]! = xx at *
   obtain ⟨xy,xa,xt⟩:=xx
   dsimp only at e0 e1 e2 e3 e4 hst
   generalize lastTy LT (L.take k)=bt at *
   have z8:=KZr.out.cl 8 _ rfl
   have hzw:w.heap.size<wr.heap.size:=KZr.out.lt
   have q0:=kbr.cl 0 _ rfl
   have q1:=kbr.cl 1 _ rfl
   have q2:=kbr.cl 2 _ rfl
   have HST:=Hh hst
   have HOWN:=Hh hown
   clear hst hown hc7
   have hnet:=fun W=>neTy xt bt W
   have hgd:=gdTy
   have hw46:=HW46.out
   have hw24:=HW24.out
   by_cases hKv:K=true
   have dK:decide (Y-46≤z.year)=true:=hK.trans hKv
   by_cases hkp:0<k
   have hki:decide ((0:Int)<(k:Int))=true:=dTt (by omega)
   have HKN:=Hh (show (K || decide (0<k))=true by rw [hKv,Bool.true_or])
   by_cases h1:xt=bt
   have d1:decide (xt=bt)=true:=dTt h1
   have HF:=Hh (show arB LT K Y (L.take (k+1))=arB LT K Y (L.take k) by rw [HST.out.1,if_neg (fun h=>h.1.2 h1),List.append_nil])
   clear h1 hKv
   have SK:=True.intro
   rotate_left
   have d1:decide (xt=bt)=false:=dFf h1
   have HGN2:=Hh (show (K || decide (Y-24≤xy))=true by rw [hKv,Bool.true_or])
   have HF:=Hh (show arB LT K Y (L.take (k+1))=arB LT K Y (L.take k)++[⟨xa,xt⟩] by rw [HST.out.1,if_pos ⟨⟨HKN.out,h1⟩,HGN2.out⟩])
   clear h1 hKv
   have AP:=True.intro
   rotate_left
   have hki:decide ((0:Int)<(k:Int))=false:=dFf (by omega)
   have HKN:=Hh (show (K || decide (0<k))=true by rw [hKv,Bool.true_or])
   by_cases h1:xt=bt
   have d1:decide (xt=bt)=true:=dTt h1
   have HF:=Hh (show arB LT K Y (L.take (k+1))=arB LT K Y (L.take k) by rw [HST.out.1,if_neg (fun h=>h.1.2 h1),List.append_nil])
   clear h1 hKv
   have SK:=True.intro
   rotate_left
   have d1:decide (xt=bt)=false:=dFf h1
   have HGN2:=Hh (show (K || decide (Y-24≤xy))=true by rw [hKv,Bool.true_or])
   have HF:=Hh (show arB LT K Y (L.take (k+1))=arB LT K Y (L.take k)++[⟨xa,xt⟩] by rw [HST.out.1,if_pos ⟨⟨HKN.out,h1⟩,HGN2.out⟩])
   clear h1 hKv
   have AP:=True.intro
   rotate_left
   replace hKv:K=false:=by simpa using hKv
   have dK:decide (Y-46≤z.year)=false:=hK.trans hKv
   by_cases hkp:0<k
   have hki:decide ((0:Int)<(k:Int))=true:=dTt (by omega)
   have HKN:=Hh (show (K || decide (0<k))=true by rw [dTt hkp,Bool.or_true])
   by_cases h1:xt=bt
   have d1:decide (xt=bt)=true:=dTt h1
   have HF:=Hh (show arB LT K Y (L.take (k+1))=arB LT K Y (L.take k) by rw [HST.out.1,if_neg (fun h=>h.1.2 h1),List.append_nil])
   clear h1 hKv
   have SK:=True.intro
   rotate_left
   have d1:decide (xt=bt)=false:=dFf h1
   by_cases h2:Y-24≤xy
   have d2:decide (Y-24≤xy)=true:=dTt h2
   have HGN2:=Hh (show (K || decide (Y-24≤xy))=true by rw [d2,Bool.or_true])
   have HF:=Hh (show arB LT K Y (L.take (k+1))=arB LT K Y (L.take k)++[⟨xa,xt⟩] by rw [HST.out.1,if_pos ⟨⟨HKN.out,h1⟩,HGN2.out⟩])
   clear h1 hKv
   have AP:=True.intro
   rotate_left
   have d2:decide (Y-24≤xy)=false:=dFf h2
   have HF:=Hh (show arB LT K Y (L.take (k+1))=arB LT K Y (L.take k) by rw [HST.out.1,if_neg (fun h=>by have:=h.2;rw [hKv,d2] at this;cases this),List.append_nil])
   clear h1 hKv
   have SK:=True.intro
   rotate_left
   have hki:decide ((0:Int)<(k:Int))=false:=dFf (by omega)
   have HF:=Hh (show arB LT K Y (L.take (k+1))=arB LT K Y (L.take k) by rw [HST.out.1,if_neg (fun h=>by have:=h.1.1;rw [hKv,dFf hkp] at this;cases this),List.append_nil])
   clear hKv
   have SK:=True.intro
   all_goals clear hK
   all_goals first
    | (
      have TK:=SK;clear TK SK
      go_wp2_with fail
      go_quiet (fail)
      clear hw46 hw24
      have hd3:Below wr.heap.size wr (wr.drewN nq):=Zz1 bLR nq
      have hbn:=hbr.trans (hd3.mono hbr.size)
      have HON:=Hh (Zz8 HOWN.out hd3)
      have kbn:=kbr.below hd3 kbr.lt
      have R9n:=Hh (R9.out.on hd3)
      have KZn:=Hh (KZr.out.below hd3 KZr.out.lt)
      have c0:=(hd3.cell (p:=⟨g7,o7+k*5,H⟩) hg7).trans e0
      have c1:=(hd3.cell (p:=⟨g7,o7+k*5+1,H⟩) hg7).trans e1
      have c2:=(hd3.cell (p:=⟨g7,o7+k*5+2,H⟩) hg7).trans e2
      have c3:=(hd3.cell (p:=⟨g7,o7+k*5+3,H⟩) hg7).trans e3
      have hg7n:=nLl hg7 hd3.size
      have hszn:=hbn.size
      clear e0 e1 e2 e3 e4 q0 q1 q2 z8 kbr R9 KZr hd3 hg7 hbr
      generalize wr.drewN nq=wq at *
      have KB:=kbn
      have OW:=HON.out
      have BW:=hbn
      have RW:=R9n.out
      have ZW:=KZn.out
      have hqx:=hqn
      have p0:=KB.cl 0 _ rfl
      have p1:=KB.cl 1 _ rfl
      have p2:=KB.cl 2 _ rfl
      have f0:=KB.frozen 0
      have f1:=KB.frozen 1
      have f2:=KB.frozen 2
      have KB3:=Hh (KB.set3 (C D xt.off) (C D xt.sv) (E xt.nm))
      have HO3:=Hh (ownsRow_setCell_other (a:=⟨q,2,H⟩) (ownsRow_setCell_other (a:=⟨q,1,H⟩) (ownsRow_setCell_other (a:=⟨q,0,H⟩) OW hqx (C D xt.off)) hqx (C D xt.sv)) hqx (E xt.nm))
      have HB3:=Hh (Zze BW hq2 (C D xt.off) (C D xt.sv) (E xt.nm))
      have HR3:=Hh (Zz6U RW HQ7.out (C D xt.off) (C D xt.sv) (E xt.nm))
      have KZ3:=Hh (((ZW.other (B':=q) (i:=0) (by omega) (C D xt.off)).other (B':=q) (i:=1) (by omega) (C D xt.sv)).other (B':=q) (i:=2) (by omega) (E xt.nm))
      clear KB OW BW RW hqx ZW
      go_wp2
      go_roundw
      case rel=>exact ⟨k+1,by omega,by go_num,by rw [HF.out];exact HO3.out,HB3.out,by rw [HST.out.2];exact KB3.out,hqn,HR3.out,HGN,KZ3.out,hzn⟩
      case measure=>simp [intOf];omega)
    | (
      have TK:=AP;clear TK AP
      go_wp2_with fail
      go_quiet (fail)
      clear hw46 hw24
      have hd3:Below wr.heap.size wr (wr.drewN nq):=Zz1 bLR nq
      have hbn:=hbr.trans (hd3.mono hbr.size)
      have HON:=Hh (Zz8 HOWN.out hd3)
      have kbn:=kbr.below hd3 kbr.lt
      have R9n:=Hh (R9.out.on hd3)
      have KZn:=Hh (KZr.out.below hd3 KZr.out.lt)
      have c0:=(hd3.cell (p:=⟨g7,o7+k*5,H⟩) hg7).trans e0
      have c1:=(hd3.cell (p:=⟨g7,o7+k*5+1,H⟩) hg7).trans e1
      have c2:=(hd3.cell (p:=⟨g7,o7+k*5+2,H⟩) hg7).trans e2
      have c3:=(hd3.cell (p:=⟨g7,o7+k*5+3,H⟩) hg7).trans e3
      have hg7n:=nLl hg7 hd3.size
      have hszn:=hbn.size
      clear e0 e1 e2 e3 e4 q0 q1 q2 z8 kbr R9 KZr hd3 hg7 hbr
      generalize wr.drewN nq=wq at *
      have hlo2:(arB LT K Y (L.take k)).length≤1000+200000:=by omega
      generalize arB LT K Y (L.take k)=O at *
      have hdrb:Below wq.heap.size wq wq.drew:=Zz1 bLR 1
      have HOD:=Hh (Zz8 HON.out hdrb)
      have HS:=Hh (fun w' (hb:Below wq.heap.size wq w')=>And.intro (hbn.trans (hb.mono hbn.size)) (And.intro ((hb.cell (p:=⟨g7,o7+k*5,H⟩) hg7n).trans c0) (And.intro ((hb.cell (p:=⟨g7,o7+k*5+1,H⟩) hg7n).trans c1) (And.intro ((hb.cell (p:=⟨g7,o7+k*5+2,H⟩) hg7n).trans c2) ((hb.cell (p:=⟨g7,o7+k*5+3,H⟩) hg7n).trans c3)))))
      have HQK:=Hh kbn
      have HN7:=Hh hne7
      have HBN:=Hh hbn
      clear kbn hne7
      go_wp2_with fail
      go_region_held3 (fun w'=>Below w.heap.size w w'∧w'.cell? ⟨g7,o7+k*5,H⟩=some (C D xa)∧w'.cell? ⟨g7,o7+k*5+1,H⟩=some (C D xt.off)∧w'.cell? ⟨g7,o7+k*5+2,H⟩=some (C D xt.sv)∧w'.cell? ⟨g7,o7+k*5+3,H⟩=some (E xt.nm)) (first|exact HS.out _ hdrb|exact HS.out _ (hdrb.alloc hdrb.size _)|exact K8|go_keep)
       ((refine step_append_lies _ (by rfl) _ _ _ (by rfl) w.heap.size 57 i0 _ 4 40 Tryz.underlying24 hi0 hz0 hz1 hz2 rfl (by omega) _ _ _ (by rfl) (HOD.out.alloc _) ⟨_,0,H⟩ 1 1 (Trn.cells ⟨xa,xt⟩) (by rfl) (by rfl) (World.news_of_block (cs:=(Trn.cells ⟨xa,xt⟩).toArray) (t:=57) (fr:=(0,0)) (heap_alloc_new _ _)) (Zz1z _) (by omega) (by simp only [maxLen];omega) (by omega) (by have:=HBN.out.size;simp;omega) _ rfl ?_;intro gg cap w8 hown8 hg8 hat8 hlt8;have hA8:=hdrb.alloc hdrb.size (I (Trn.cells ⟨xa,xt⟩).toArray 57);have B8:=Zz3 HON.out nlR (HBN.out.trans (hA8.mono HBN.out.size)) hg8;have K8:=appS hA8 hg8 HN7.out hg7n c0 c1 c2 c3 B8))
      obtain ⟨KB,RW,hqx,HGX⟩:=appK hdrb hg8 hat8 HQK.out hqn R9n.out hg7n HN7.out (O.length+1) cap
      obtain ⟨ZW,_,hzx,_⟩:=appK hdrb hg8 hat8 KZn.out hzn R9n.out hg7n HN7.out (O.length+1) cap
      have OW:=Zzp (es:=O) (x:=(⟨xa,xt⟩:Trn)) hown8
      have BW:=K8.1
      have c0':=K8.2.1
      have c1':=K8.2.2.1
      have c2':=K8.2.2.2.1
      have c3':=K8.2.2.2.2
      clear c0 c1 c2 c3 HS hdrb HOD HON
      have p0:=KB.cl 0 _ rfl
      have p1:=KB.cl 1 _ rfl
      have p2:=KB.cl 2 _ rfl
      have f0:=KB.frozen 0
      have f1:=KB.frozen 1
      have f2:=KB.frozen 2
      have KB3:=Hh (KB.set3 (C D xt.off) (C D xt.sv) (E xt.nm))
      have HO3:=Hh (ownsRow_setCell_other (a:=⟨q,2,H⟩) (ownsRow_setCell_other (a:=⟨q,1,H⟩) (ownsRow_setCell_other (a:=⟨q,0,H⟩) OW hqx (C D xt.off)) hqx (C D xt.sv)) hqx (E xt.nm))
      have HB3:=Hh (Zze BW hq2 (C D xt.off) (C D xt.sv) (E xt.nm))
      have HR3:=Hh (Zz6U RW HQ7.out (C D xt.off) (C D xt.sv) (E xt.nm))
      have KZ3:=Hh (((ZW.other (B':=q) (i:=0) (by omega) (C D xt.off)).other (B':=q) (i:=1) (by omega) (C D xt.sv)).other (B':=q) (i:=2) (by omega) (E xt.nm))
      clear KB OW BW RW ZW
      go_wp2
      go_roundw
      case rel=>exact ⟨k+1,by omega,by go_num,by rw [HF.out];exact HO3.out,HB3.out,by rw [HST.out.2];exact KB3.out,hqx,HR3.out,HGX,KZ3.out,hzx⟩
      case measure=>simp [intOf];omega)
  have hkl:k=L.length:=by omega
  subst hkl
  rw [List.take_length] at hown
  rw [←HAR.out] at hown
  obtain ⟨A9,c9,rfl⟩:=Zz2P hown
  generalize hBE:z.arn Y=B at *
  have HBE:=Hh hBE
  have HOWN:=Hh hown
  clear hBE hown
  go_wp2_with fail
  go_ret
  exact ⟨_,rfl,by rw [HBE.out];exact Zz7 ZzO HOWN.out rfl,hbr⟩
/- The reference of layer 22: the last transition that is at most an instant, and the type in force. Printed by gen_ref22k.py. -/
theorem blk4 {W:World} {B:Nat} {T:TypeId} {a0 a1 a2 a3:Value} (h:Blk W B #[a0,a1,a2,a3] T) (v0 v1 v2 v3:Value) :
  Blk ((((W.setCell ⟨B,0,H⟩ v0).setCell ⟨B,1,H⟩ v1).setCell ⟨B,2,H⟩ v2).setCell ⟨B,3,H⟩ v3) B #[v0,v1,v2,v3] T:=by
 have:=(((h.setAt 0 v0).setAt 1 v1).setAt 2 v2).setAt 3 v3
 simpa using this
theorem Zz1h {w W:World} {B:Nat} (h:Below w.heap.size w W) (hB:w.heap.size≤B) (v0 v1 v2 v3:Value) :
  Below w.heap.size w ((((W.setCell ⟨B,0,H⟩ v0).setCell ⟨B,1,H⟩ v1).setCell ⟨B,2,H⟩ v2).setCell ⟨B,3,H⟩ v3) :=
 (((h.setCell (p:=⟨B,0,H⟩) hB v0).setCell (p:=⟨B,1,H⟩) hB v1).setCell (p:=⟨B,2,H⟩) hB v2).setCell (p:=⟨B,3,H⟩) hB v3
theorem rd_atT {w:World} {A:Option Addr} {n c:Nat} {es:List Trn} (h:Rd Trn.cells 4 w (G A n c) es) :
  n=es.length∧(es.length=0∨∃ g off,A=some ⟨g,off,H⟩∧g<w.heap.size∧∀ j,j<es.length→w.cell? ⟨g,off+j*4,H⟩=some (C D (es[j]!).at_)∧w.cell? ⟨g,off+j*4+1,H⟩=some (C D (es[j]!).ty.off)∧w.cell? ⟨g,off+j*4+2,H⟩=some (C D (es[j]!).ty.sv)∧w.cell? ⟨g,off+j*4+3,H⟩=some (E (es[j]!).ty.nm)):=by
 rcases h with ⟨h0,A',c',hv⟩|⟨g,off,c',hv,hg,hc⟩
 ·injection hv with h1 h2 h3
  exact ⟨by rw [h0];exact h2,.inl (by rw [h0];rfl)⟩
 injection hv with h1 h2 h3
 refine ⟨h2,.inr ⟨g,off,h1,hg,fun j hj=>⟨?_,hc j hj 1 _ rfl,hc j hj 2 _ rfl,hc j hj 3 _ rfl⟩⟩⟩
 have:=hc j hj 0 _ rfl
 rwa [Nat.add_zero] at this
theorem Zz3s (z:Zn) (vT vR:Value) (w:World) (hT:Rd Trn.cells 4 w vT z.table) (hR:Rd Rule.cells 11 w vR z.tail) (hfs:z.form.size≤2000000) (hll:z.tail.length≤12) (hl:z.table.length≤1000) (hv:z.valid=true) (h0:z.tail≠[]) :
  Calls Tryz.prog 104 #[z.v vT vR,C D z.year] w fun e w'=>∃ v,e=J v∧Rd Trn.cells 4 w' v (z.arn z.year)∧Below w.heap.size w w':=by
 have ok:=Zzu hv h0
 have h:=Zz56 z vT vR z.year w hT hR hfs hll hl hv h0 ok.y1 ok.y2
 rwa [show max z.year z.year=z.year by omega] at h
set_option maxRecDepth 100000 in
set_option maxHeartbeats 1000000 in
theorem Zz4Z (z:Zn) (vT vR:Value) (t:Int) (w:World) (hT:Rd Trn.cells 4 w vT z.table) (hR:Rd Rule.cells 11 w vR z.tail) (hl:z.table.length≤1000) (h0:z.tail=[]) (ht1 : -62135596800≤t) (ht2:t<253402300800) :
  Calls Tryz.prog 69 #[z.v vT vR,C D t] w fun e w'=>e=J (optV (z.prevF t))∧Below w.heap.size w w':=by
 obtain ⟨Y,hYo,HY0⟩:=Zz4j t ht1 ht2
 have HY:=Hh HY0
 clear HY0
 have hP0:=last_none h0 t
 have HA1:=Hh (fun W (hb:Below w.heap.size w W)=>Zz3r z vT vR Y W (hR.on hb) h0)
 have hne0:decide ((0:Int)<(z.tail.length:Int))=false:=dFf (by rw [h0];simp)
 have hne1:¬ 0<z.tail.length:=by rw [h0];simp
 have HP:=Hh hP0
 clear hP0
 have HT:=Hh hT
 obtain ⟨AT,cT,rfl⟩:=Zzb hT
 obtain ⟨AR,cR,rfl⟩:=Zzb hR
 have kz:=(Blk.new w #[E z.nm,C D z.first.off,C D z.first.sv,E z.first.nm,G AT z.table.length cT,G AR z.tail.length cR,C D z.off,E z.form,C D z.year] 27).alloc (I #[C D 0,C D 0,C D 0,E ⟨#[]⟩] 57)
 have kr:=Blk.new (w.alloc (I #[E z.nm,C D z.first.off,C D z.first.sv,E z.first.nm,G AT z.table.length cT,G AR z.tail.length cR,C D z.off,E z.form,C D z.year] 27)) #[C D 0,C D 0,C D 0,E ⟨#[]⟩] 57
 rw [World.size_alloc] at kr
 have hB0:Below w.heap.size w ((w.alloc (I #[E z.nm,C D z.first.off,C D z.first.sv,E z.first.nm,G AT z.table.length cT,G AR z.tail.length cR,C D z.off,E z.form,C D z.year] 27)).alloc (I #[C D 0,C D 0,C D 0,E ⟨#[]⟩] 57)):=(bLR.alloc nlR _).alloc (by simp) _
 obtain ⟨TB,hTB⟩:∃ TB,z.table=TB:=⟨_,rfl⟩
 clear hT hR hYo h0
 unfold Zn.v at HA1 ⊢
 rw [hTB] at HP HT hl hB0 kz kr HA1 ⊢
 clear hTB
 go_enter Tryz.func69,Tryz.ntmps69
 go_wp2_with fail
 generalize ((w.alloc (I #[E z.nm,C D z.first.off,C D z.first.sv,E z.first.nm,G AT TB.length cT,G AR z.tail.length cR,C D z.off,E z.form,C D z.year] 27)).alloc (I #[C D 0,C D 0,C D 0,E ⟨#[]⟩] 57))=W0 at *
 have x0:=kz.cl 0 _ rfl
 have x1:=kz.cl 1 _ rfl
 have x2:=kz.cl 2 _ rfl
 have x3:=kz.cl 3 _ rfl
 have x4:=kz.cl 4 _ rfl
 have x5:=kz.cl 5 _ rfl
 have x6:=kz.cl 6 _ rfl
 have x7:=kz.cl 7 _ rfl
 have x8:=kz.cl 8 _ rfl
 have hzl:=kz.lt
 have hrl:=kr.lt
 have hdr:Below W0.heap.size W0 W0.drew:=Zz1 (Below.refl W0.heap.size W0) 1
 have HS:=Hh (fun w' (hb:Below W0.heap.size W0 w')=>And.intro hb (And.intro ((hb.cell (p:=⟨w.heap.size,0,H⟩) hzl).trans x0) (And.intro ((hb.cell (p:=⟨w.heap.size,1,H⟩) hzl).trans x1) (And.intro ((hb.cell (p:=⟨w.heap.size,2,H⟩) hzl).trans x2) (And.intro ((hb.cell (p:=⟨w.heap.size,3,H⟩) hzl).trans x3) (And.intro ((hb.cell (p:=⟨w.heap.size,4,H⟩) hzl).trans x4) (And.intro ((hb.cell (p:=⟨w.heap.size,5,H⟩) hzl).trans x5) (And.intro ((hb.cell (p:=⟨w.heap.size,6,H⟩) hzl).trans x6) (And.intro ((hb.cell (p:=⟨w.heap.size,7,H⟩) hzl).trans x7) ((hb.cell (p:=⟨w.heap.size,8,H⟩) hzl).trans x8))))))))))
 go_region_held3 (fun w'=>Below W0.heap.size W0 w'∧w'.cell? ⟨w.heap.size,0,H⟩=some (E z.nm)∧w'.cell? ⟨w.heap.size,1,H⟩=some (C D z.first.off)∧w'.cell? ⟨w.heap.size,2,H⟩=some (C D z.first.sv)∧w'.cell? ⟨w.heap.size,3,H⟩=some (E z.first.nm)∧w'.cell? ⟨w.heap.size,4,H⟩=some (G AT TB.length cT)∧w'.cell? ⟨w.heap.size,5,H⟩=some (G AR z.tail.length cR)∧w'.cell? ⟨w.heap.size,6,H⟩=some (C D z.off)∧w'.cell? ⟨w.heap.size,7,H⟩=some (E z.form)∧w'.cell? ⟨w.heap.size,8,H⟩=some (C D z.year)) (first|exact HS.out _ hdr|exact HS.out _ K7|exact HS.out _ K6|go_keep)
  (first|(go_at_call 65;refine (HY.out _).mono ?_;rintro e w6 ⟨rfl,hb6⟩;have K6:=hdr.trans (hb6.mono hdr.size);clear HY)|(go_at_call 104;(refine (HA1.out _ (hB0.trans (K6.mono hB0.size))).mono ?_;rintro e w7 ⟨rfl,hb7⟩;have K7:=K6.trans (hb7.mono K6.size))))
 have hB7:Below w.heap.size w w7:=hB0.trans (K7.mono hB0.size)
 have kz7:=kz.below K7 hzl
 have kr7:=kr.below K7 hrl
 clear x0 x1 x2 x3 x4 x5 x6 x7 x8 HS hdr K6 K7 hb6 hb7
 have x4:=kz7.cl 4 _ rfl
 have x5:=kz7.cl 5 _ rfl
 have RB:=kr7
 have HT8:=Hh (HT.out.on hB7)
 clear kz kr kr7 kz7
 go_wp2_with fail
 refine wp_loop_rounds 1 ?_
 rw [rounds_succ]
 go_wp2_with fail
 go_loop [9] (fun vi=>∃ k:Nat,k≤TB.length∧vi=C D ((k:Int)-1)∧Hid (TB.reverse.find? (leq t)=(TB.take k).reverse.find? (leq t))) (fun vi=>(intOf vi+1).toNat)
 case atStart=>exact ⟨TB.length,Nat.le_refl _,rfl,Hh (by rw [List.take_length])⟩
 case round =>
  obtain ⟨k,hk,rfl,HK⟩:=hrel
  by_cases hk0:k=0
  ·subst hk0
   have HN:=Hh (show TB.reverse.find? (leq t)=none by rw [HK.out];rfl)
   clear HK hk
   have r0:=RB.cl 0 _ rfl
   have r1:=RB.cl 1 _ rfl
   have r2:=RB.cl 2 _ rfl
   have r3:=RB.cl 3 _ rfl
   have g0:=RB.frozen 0
   have g1:=RB.frozen 1
   have g2:=RB.frozen 2
   have g3:=RB.frozen 3
   go_wp2_with fail
   have S4:=blk4 RB (C D 0) (C D 0) (C D 0) (E ⟨#[]⟩)
   have s0:=S4.cl 0 _ rfl
   have s1:=S4.cl 1 _ rfl
   have s2:=S4.cl 2 _ rfl
   have s3:=S4.cl 3 _ rfl
   have hB9:=Zz1h hB7 (Nat.le_succ _) (C D 0) (C D 0) (C D 0) (E ⟨#[]⟩)
   generalize (((w7.setCell ⟨w.heap.size+1,0,H⟩ (C D 0)).setCell ⟨w.heap.size+1,1,H⟩ (C D 0)).setCell ⟨w.heap.size+1,2,H⟩ (C D 0)).setCell ⟨w.heap.size+1,3,H⟩ (E ⟨#[]⟩)=w9 at *
   exact bodyPost_ret (v:=.tuple #[.agg #[C D 0,C D 0,C D 0,E ⟨#[]⟩],.bool false]) (by simp [results,Tryz.results69,go_sem,s0,s1,s2,s3]) rfl ⟨by rw [HP.out,HN.out];rfl,hB9⟩
  obtain ⟨j,rfl⟩:∃ j,k=j+1:=⟨k-1,by omega⟩
  have hj:j<TB.length:=by omega
  rw [show ((j+1:Nat):Int)-1=(j:Int) by omega]
  obtain ⟨_,hP0|⟨gx,ox,hAx,hgx,hcx⟩⟩:=rd_atT HT8.out
  ·rw [hP0] at hj;exact absurd hj (Nat.not_lt_zero _)
  subst hAx
  obtain ⟨e0,e1,e2,e3⟩:=hcx j hj
  have HST:=Hh (Zz4n (p:=leq t) hj)
  generalize TB[j]! = x at *
  obtain ⟨xa,xt⟩:=x
  dsimp only at e0 e1 e2 e3
  clear hk0 hcx
  by_cases hxt:xa≤t
  ·have HFD:=Hh (show z.prevF t=some ⟨xa,xt⟩ by rw [HP.out,HK.out,HST.out,if_pos (by unfold leq;simpa using hxt)])
   clear HK HST
   have r0:=RB.cl 0 _ rfl
   have r1:=RB.cl 1 _ rfl
   have r2:=RB.cl 2 _ rfl
   have r3:=RB.cl 3 _ rfl
   have g0:=RB.frozen 0
   have g1:=RB.frozen 1
   have g2:=RB.frozen 2
   have g3:=RB.frozen 3
   go_wp2_with fail
   have S4:=blk4 RB (C D xa) (C D xt.off) (C D xt.sv) (E xt.nm)
   have s0:=S4.cl 0 _ rfl
   have s1:=S4.cl 1 _ rfl
   have s2:=S4.cl 2 _ rfl
   have s3:=S4.cl 3 _ rfl
   have hB9:=Zz1h hB7 (Nat.le_succ _) (C D xa) (C D xt.off) (C D xt.sv) (E xt.nm)
   generalize (((w7.setCell ⟨w.heap.size+1,0,H⟩ (C D xa)).setCell ⟨w.heap.size+1,1,H⟩ (C D xt.off)).setCell ⟨w.heap.size+1,2,H⟩ (C D xt.sv)).setCell ⟨w.heap.size+1,3,H⟩ (E xt.nm)=w9 at *
   exact bodyPost_ret (v:=.tuple #[.agg #[C D xa,C D xt.off,C D xt.sv,E xt.nm],.bool true]) (by simp [results,Tryz.results69,go_sem,s0,s1,s2,s3]) rfl ⟨by rw [HFD.out];rfl,hB9⟩
  have HK2:=Hh (show TB.reverse.find? (leq t)=(TB.take j).reverse.find? (leq t) by rw [HK.out,HST.out,if_neg (by unfold leq;simpa using hxt)])
  go_wp2
  go_round
  case rel=>exact ⟨j,by omega,by go_num,HK2⟩
  case measure=>simp [intOf]
set_option maxRecDepth 100000 in
set_option maxHeartbeats 1000000 in
theorem Zz54 (z:Zn) (vT vR:Value) (t:Int) (w:World) (hT:Rd Trn.cells 4 w vT z.table) (hR:Rd Rule.cells 11 w vR z.tail) (hfs:z.form.size≤2000000) (hll:z.tail.length≤12) (hl:z.table.length≤1000) (hv:z.valid=true) (h0:z.tail≠[]) (ht1 : -62135596800≤t) (ht2:t<253402300800) :
  Calls Tryz.prog 69 #[z.v vT vR,C D t] w fun e w'=>e=J (optV (z.prevF t))∧Below w.heap.size w w':=by
 obtain ⟨Y,hYo,HY0⟩:=Zz4j t ht1 ht2
 have HY:=Hh HY0
 clear HY0
 have ok:=Zzu hv h0
 have y1:=ok.y1
 have y2:=ok.y2
 have Y1:=hYo.y1
 have Y2:=hYo.y2
 have hP0:=last_tail ok h0 hYo
 have hM1l:=arn_len ok (y:=max Y z.year) (by omega) (by omega) hll
 have hM2l:=arn_len ok (y:=z.year) (Int.le_refl _) y2 hll
 have HA1:=Hh (fun W (hb:Below w.heap.size w W)=>Zz56 z vT vR Y W (hT.on hb) (hR.on hb) hfs hll hl hv h0 Y1 Y2)
 have HA2:=Hh (fun W (hb:Below w.heap.size w W)=>Zz3s z vT vR W (hT.on hb) (hR.on hb) hfs hll hl hv h0)
 have hpos:0<z.tail.length:=List.length_pos_iff.2 h0
 have hne0:decide ((0:Int)<(z.tail.length:Int))=true:=dTt (by omega)
 generalize z.arn (max Y z.year)=M1 at *
 generalize z.arn z.year=M2 at *
 have HP:=Hh hP0
 clear hP0
 have HT:=Hh hT
 obtain ⟨AT,cT,rfl⟩:=Zzb hT
 obtain ⟨AR,cR,rfl⟩:=Zzb hR
 have kz:=(Blk.new w #[E z.nm,C D z.first.off,C D z.first.sv,E z.first.nm,G AT z.table.length cT,G AR z.tail.length cR,C D z.off,E z.form,C D z.year] 27).alloc (I #[C D 0,C D 0,C D 0,E ⟨#[]⟩] 57)
 have kr:=Blk.new (w.alloc (I #[E z.nm,C D z.first.off,C D z.first.sv,E z.first.nm,G AT z.table.length cT,G AR z.tail.length cR,C D z.off,E z.form,C D z.year] 27)) #[C D 0,C D 0,C D 0,E ⟨#[]⟩] 57
 rw [World.size_alloc] at kr
 have hB0:Below w.heap.size w ((w.alloc (I #[E z.nm,C D z.first.off,C D z.first.sv,E z.first.nm,G AT z.table.length cT,G AR z.tail.length cR,C D z.off,E z.form,C D z.year] 27)).alloc (I #[C D 0,C D 0,C D 0,E ⟨#[]⟩] 57)):=(bLR.alloc nlR _).alloc (by simp) _
 obtain ⟨TB,hTB⟩:∃ TB,z.table=TB:=⟨_,rfl⟩
 clear hT hR hYo hv ok h0
 unfold Zn.v at HA1 HA2 ⊢
 rw [hTB] at HP HT hl hB0 kz kr HA1 HA2 ⊢
 clear hTB
 go_enter Tryz.func69,Tryz.ntmps69
 go_wp2_with fail
 generalize ((w.alloc (I #[E z.nm,C D z.first.off,C D z.first.sv,E z.first.nm,G AT TB.length cT,G AR z.tail.length cR,C D z.off,E z.form,C D z.year] 27)).alloc (I #[C D 0,C D 0,C D 0,E ⟨#[]⟩] 57))=W0 at *
 have x0:=kz.cl 0 _ rfl
 have x1:=kz.cl 1 _ rfl
 have x2:=kz.cl 2 _ rfl
 have x3:=kz.cl 3 _ rfl
 have x4:=kz.cl 4 _ rfl
 have x5:=kz.cl 5 _ rfl
 have x6:=kz.cl 6 _ rfl
 have x7:=kz.cl 7 _ rfl
 have x8:=kz.cl 8 _ rfl
 have hzl:=kz.lt
 have hrl:=kr.lt
 have hdr:Below W0.heap.size W0 W0.drew:=Zz1 (Below.refl W0.heap.size W0) 1
 have HS:=Hh (fun w' (hb:Below W0.heap.size W0 w')=>And.intro hb (And.intro ((hb.cell (p:=⟨w.heap.size,0,H⟩) hzl).trans x0) (And.intro ((hb.cell (p:=⟨w.heap.size,1,H⟩) hzl).trans x1) (And.intro ((hb.cell (p:=⟨w.heap.size,2,H⟩) hzl).trans x2) (And.intro ((hb.cell (p:=⟨w.heap.size,3,H⟩) hzl).trans x3) (And.intro ((hb.cell (p:=⟨w.heap.size,4,H⟩) hzl).trans x4) (And.intro ((hb.cell (p:=⟨w.heap.size,5,H⟩) hzl).trans x5) (And.intro ((hb.cell (p:=⟨w.heap.size,6,H⟩) hzl).trans x6) (And.intro ((hb.cell (p:=⟨w.heap.size,7,H⟩) hzl).trans x7) ((hb.cell (p:=⟨w.heap.size,8,H⟩) hzl).trans x8))))))))))
 go_region_held3 (fun w'=>Below W0.heap.size W0 w'∧w'.cell? ⟨w.heap.size,0,H⟩=some (E z.nm)∧w'.cell? ⟨w.heap.size,1,H⟩=some (C D z.first.off)∧w'.cell? ⟨w.heap.size,2,H⟩=some (C D z.first.sv)∧w'.cell? ⟨w.heap.size,3,H⟩=some (E z.first.nm)∧w'.cell? ⟨w.heap.size,4,H⟩=some (G AT TB.length cT)∧w'.cell? ⟨w.heap.size,5,H⟩=some (G AR z.tail.length cR)∧w'.cell? ⟨w.heap.size,6,H⟩=some (C D z.off)∧w'.cell? ⟨w.heap.size,7,H⟩=some (E z.form)∧w'.cell? ⟨w.heap.size,8,H⟩=some (C D z.year)) (first|exact HS.out _ hdr|exact HS.out _ K7|exact HS.out _ K6|go_keep)
  (first|(go_at_call 65;refine (HY.out _).mono ?_;rintro e w6 ⟨rfl,hb6⟩;have K6:=hdr.trans (hb6.mono hdr.size);clear HY)|(go_at_call 104;(refine (HA1.out _ (hB0.trans (K6.mono hB0.size))).mono ?_;rintro e w7 ⟨v7,rfl,r7,hb7⟩;have K7:=K6.trans (hb7.mono K6.size);have R7:=Hh r7;clear r7)))
 have hB7:Below w.heap.size w w7:=hB0.trans (K7.mono hB0.size)
 have kz7:=kz.below K7 hzl
 have kr7:=kr.below K7 hrl
 clear x0 x1 x2 x3 x4 x5 x6 x7 x8 HS hdr K6 K7 hb6 hb7
 obtain ⟨A7,c7,rfl⟩:=Zzb R7.out
 have KZ7:=Hh kz7
 have RB:=kr7
 have hzl7:=kz7.lt
 have hrl7:=kr7.lt
 clear kz7 kr7 kz kr
 go_wp2_with fail
 go_loop [7] (fun vi=>∃ k:Nat,k≤M1.length∧vi=C D ((k:Int)-1)∧Hid (M1.reverse.find? (leq t)=(M1.take k).reverse.find? (leq t))) (fun vi=>(intOf vi+1).toNat)
 case atStart=>exact ⟨M1.length,Nat.le_refl _,rfl,Hh (by rw [List.take_length])⟩
 case round =>
  obtain ⟨k,hk,rfl,HK⟩:=hrel
  by_cases hk0:k=0
  ·subst hk0
   have HN:=Hh (show M1.reverse.find? (leq t)=none by rw [HK.out];rfl)
   clear HK hk
   have HN1:=HN
   have kz:=KZ7.out
   have x0:=kz.cl 0 _ rfl
   have x1:=kz.cl 1 _ rfl
   have x2:=kz.cl 2 _ rfl
   have x3:=kz.cl 3 _ rfl
   have x4:=kz.cl 4 _ rfl
   have x5:=kz.cl 5 _ rfl
   have x6:=kz.cl 6 _ rfl
   have x7:=kz.cl 7 _ rfl
   have x8:=kz.cl 8 _ rfl
   go_wp2_with fail
   refine (HA2.out _ hB7).mono ?_
   rintro e w8 ⟨v8,rfl,r8,hb8⟩
   have R8:=Hh r8
   have hB8:=hB7.trans (hb8.mono hB7.size)
   have kz8:=KZ7.out.below hb8 hzl7
   have kr8:=RB.below hb8 hrl7
   obtain ⟨A8,c8,rfl⟩:=Zzb R8.out
   clear r8 x0 x1 x2 x3 x4 x5 x6 x7 x8 kz RB hb8
   have KZ8:=Hh kz8
   have RB:=kr8
   clear kz8 kr8
   go_wp2_with fail
   go_loop [8] (fun vi=>∃ k:Nat,k≤M2.length∧vi=C D ((k:Int)-1)∧Hid (M2.reverse.find? (leq t)=(M2.take k).reverse.find? (leq t))) (fun vi=>(intOf vi+1).toNat)
   case atStart=>exact ⟨M2.length,Nat.le_refl _,rfl,Hh (by rw [List.take_length])⟩
   case round =>
    obtain ⟨k,hk,rfl,HK⟩:=hrel
    by_cases hk0:k=0
    ·subst hk0
     have HN:=Hh (show M2.reverse.find? (leq t)=none by rw [HK.out];rfl)
     clear HK hk
     have HN2:=HN
     have x4:=KZ8.out.cl 4 _ rfl
     have HT8:=Hh (HT.out.on hB8)
     go_wp2_with fail
     go_loop [9] (fun vi=>∃ k:Nat,k≤TB.length∧vi=C D ((k:Int)-1)∧Hid (TB.reverse.find? (leq t)=(TB.take k).reverse.find? (leq t))) (fun vi=>(intOf vi+1).toNat)
     case atStart=>exact ⟨TB.length,Nat.le_refl _,rfl,Hh (by rw [List.take_length])⟩
     case round =>
      obtain ⟨k,hk,rfl,HK⟩:=hrel
      by_cases hk0:k=0
      ·subst hk0
       have HN:=Hh (show TB.reverse.find? (leq t)=none by rw [HK.out];rfl)
       clear HK hk
       have r0:=RB.cl 0 _ rfl
       have r1:=RB.cl 1 _ rfl
       have r2:=RB.cl 2 _ rfl
       have r3:=RB.cl 3 _ rfl
       have g0:=RB.frozen 0
       have g1:=RB.frozen 1
       have g2:=RB.frozen 2
       have g3:=RB.frozen 3
       go_wp2_with fail
       have S4:=blk4 RB (C D 0) (C D 0) (C D 0) (E ⟨#[]⟩)
       have s0:=S4.cl 0 _ rfl
       have s1:=S4.cl 1 _ rfl
       have s2:=S4.cl 2 _ rfl
       have s3:=S4.cl 3 _ rfl
       have hB9:=Zz1h hB8 (Nat.le_succ _) (C D 0) (C D 0) (C D 0) (E ⟨#[]⟩)
       generalize (((w8.setCell ⟨w.heap.size+1,0,H⟩ (C D 0)).setCell ⟨w.heap.size+1,1,H⟩ (C D 0)).setCell ⟨w.heap.size+1,2,H⟩ (C D 0)).setCell ⟨w.heap.size+1,3,H⟩ (E ⟨#[]⟩)=w9 at *
       exact bodyPost_ret (v:=.tuple #[.agg #[C D 0,C D 0,C D 0,E ⟨#[]⟩],.bool false]) (by simp [results,Tryz.results69,go_sem,s0,s1,s2,s3]) rfl ⟨by rw [HP.out,HN1.out,HN2.out,HN.out];rfl,hB9⟩
      obtain ⟨j,rfl⟩:∃ j,k=j+1:=⟨k-1,by omega⟩
      have hj:j<TB.length:=by omega
      rw [show ((j+1:Nat):Int)-1=(j:Int) by omega]
      obtain ⟨_,hP0|⟨gx,ox,hAx,hgx,hcx⟩⟩:=rd_atT HT8.out
      ·rw [hP0] at hj;exact absurd hj (Nat.not_lt_zero _)
      subst hAx
      obtain ⟨e0,e1,e2,e3⟩:=hcx j hj
      have HST:=Hh (Zz4n (p:=leq t) hj)
      generalize TB[j]! = x at *
      obtain ⟨xa,xt⟩:=x
      dsimp only at e0 e1 e2 e3
      clear hk0 hcx
      by_cases hxt:xa≤t
      ·have HFD:=Hh (show z.prevF t=some ⟨xa,xt⟩ by rw [HP.out,HN1.out,HN2.out,HK.out,HST.out,if_pos (by unfold leq;simpa using hxt)];rfl)
       clear HK HST
       have r0:=RB.cl 0 _ rfl
       have r1:=RB.cl 1 _ rfl
       have r2:=RB.cl 2 _ rfl
       have r3:=RB.cl 3 _ rfl
       have g0:=RB.frozen 0
       have g1:=RB.frozen 1
       have g2:=RB.frozen 2
       have g3:=RB.frozen 3
       go_wp2_with fail
       have S4:=blk4 RB (C D xa) (C D xt.off) (C D xt.sv) (E xt.nm)
       have s0:=S4.cl 0 _ rfl
       have s1:=S4.cl 1 _ rfl
       have s2:=S4.cl 2 _ rfl
       have s3:=S4.cl 3 _ rfl
       have hB9:=Zz1h hB8 (Nat.le_succ _) (C D xa) (C D xt.off) (C D xt.sv) (E xt.nm)
       generalize (((w8.setCell ⟨w.heap.size+1,0,H⟩ (C D xa)).setCell ⟨w.heap.size+1,1,H⟩ (C D xt.off)).setCell ⟨w.heap.size+1,2,H⟩ (C D xt.sv)).setCell ⟨w.heap.size+1,3,H⟩ (E xt.nm)=w9 at *
       exact bodyPost_ret (v:=.tuple #[.agg #[C D xa,C D xt.off,C D xt.sv,E xt.nm],.bool true]) (by simp [results,Tryz.results69,go_sem,s0,s1,s2,s3]) rfl ⟨by rw [HFD.out];rfl,hB9⟩
      have HK2:=Hh (show TB.reverse.find? (leq t)=(TB.take j).reverse.find? (leq t) by rw [HK.out,HST.out,if_neg (by unfold leq;simpa using hxt)])
      go_wp2
      go_round
      case rel=>exact ⟨j,by omega,by go_num,HK2⟩
      case measure=>simp [intOf]
    obtain ⟨j,rfl⟩:∃ j,k=j+1:=⟨k-1,by omega⟩
    have hj:j<M2.length:=by omega
    rw [show ((j+1:Nat):Int)-1=(j:Int) by omega]
    obtain ⟨_,hP0|⟨gx,ox,hAx,hgx,hcx⟩⟩:=rd_atT R8.out
    ·rw [hP0] at hj;exact absurd hj (Nat.not_lt_zero _)
    subst hAx
    obtain ⟨e0,e1,e2,e3⟩:=hcx j hj
    have HST:=Hh (Zz4n (p:=leq t) hj)
    generalize M2[j]! = x at *
    obtain ⟨xa,xt⟩:=x
    dsimp only at e0 e1 e2 e3
    clear hk0 hcx
    by_cases hxt:xa≤t
    ·have HFD:=Hh (show z.prevF t=some ⟨xa,xt⟩ by rw [HP.out,HN1.out,HK.out,HST.out,if_pos (by unfold leq;simpa using hxt)];rfl)
     clear HK HST
     have r0:=RB.cl 0 _ rfl
     have r1:=RB.cl 1 _ rfl
     have r2:=RB.cl 2 _ rfl
     have r3:=RB.cl 3 _ rfl
     have g0:=RB.frozen 0
     have g1:=RB.frozen 1
     have g2:=RB.frozen 2
     have g3:=RB.frozen 3
     go_wp2_with fail
     have S4:=blk4 RB (C D xa) (C D xt.off) (C D xt.sv) (E xt.nm)
     have s0:=S4.cl 0 _ rfl
     have s1:=S4.cl 1 _ rfl
     have s2:=S4.cl 2 _ rfl
     have s3:=S4.cl 3 _ rfl
     have hB9:=Zz1h hB8 (Nat.le_succ _) (C D xa) (C D xt.off) (C D xt.sv) (E xt.nm)
     generalize (((w8.setCell ⟨w.heap.size+1,0,H⟩ (C D xa)).setCell ⟨w.heap.size+1,1,H⟩ (C D xt.off)).setCell ⟨w.heap.size+1,2,H⟩ (C D xt.sv)).setCell ⟨w.heap.size+1,3,H⟩ (E xt.nm)=w9 at *
     exact bodyPost_ret (v:=.tuple #[.agg #[C D xa,C D xt.off,C D xt.sv,E xt.nm],.bool true]) (by simp [results,Tryz.results69,go_sem,s0,s1,s2,s3]) rfl ⟨by rw [HFD.out];rfl,hB9⟩
    have HK2:=Hh (show M2.reverse.find? (leq t)=(M2.take j).reverse.find? (leq t) by rw [HK.out,HST.out,if_neg (by unfold leq;simpa using hxt)])
    go_wp2
    go_round
    case rel=>exact ⟨j,by omega,by go_num,HK2⟩
    case measure=>simp [intOf]
  obtain ⟨j,rfl⟩:∃ j,k=j+1:=⟨k-1,by omega⟩
  have hj:j<M1.length:=by omega
  rw [show ((j+1:Nat):Int)-1=(j:Int) by omega]
  obtain ⟨_,hP0|⟨gx,ox,hAx,hgx,hcx⟩⟩:=rd_atT R7.out
  ·rw [hP0] at hj;exact absurd hj (Nat.not_lt_zero _)
  subst hAx
  obtain ⟨e0,e1,e2,e3⟩:=hcx j hj
  have HST:=Hh (Zz4n (p:=leq t) hj)
  generalize M1[j]! = x at *
  obtain ⟨xa,xt⟩:=x
  dsimp only at e0 e1 e2 e3
  clear hk0 hcx
  by_cases hxt:xa≤t
  ·have HFD:=Hh (show z.prevF t=some ⟨xa,xt⟩ by rw [HP.out,HK.out,HST.out,if_pos (by unfold leq;simpa using hxt)];rfl)
   clear HK HST
   have r0:=RB.cl 0 _ rfl
   have r1:=RB.cl 1 _ rfl
   have r2:=RB.cl 2 _ rfl
   have r3:=RB.cl 3 _ rfl
   have g0:=RB.frozen 0
   have g1:=RB.frozen 1
   have g2:=RB.frozen 2
   have g3:=RB.frozen 3
   go_wp2_with fail
   have S4:=blk4 RB (C D xa) (C D xt.off) (C D xt.sv) (E xt.nm)
   have s0:=S4.cl 0 _ rfl
   have s1:=S4.cl 1 _ rfl
   have s2:=S4.cl 2 _ rfl
   have s3:=S4.cl 3 _ rfl
   have hB9:=Zz1h hB7 (Nat.le_succ _) (C D xa) (C D xt.off) (C D xt.sv) (E xt.nm)
   generalize (((w7.setCell ⟨w.heap.size+1,0,H⟩ (C D xa)).setCell ⟨w.heap.size+1,1,H⟩ (C D xt.off)).setCell ⟨w.heap.size+1,2,H⟩ (C D xt.sv)).setCell ⟨w.heap.size+1,3,H⟩ (E xt.nm)=w9 at *
   exact bodyPost_ret (v:=.tuple #[.agg #[C D xa,C D xt.off,C D xt.sv,E xt.nm],.bool true]) (by simp [results,Tryz.results69,go_sem,s0,s1,s2,s3]) rfl ⟨by rw [HFD.out];rfl,hB9⟩
  have HK2:=Hh (show M1.reverse.find? (leq t)=(M1.take j).reverse.find? (leq t) by rw [HK.out,HST.out,if_neg (by unfold leq;simpa using hxt)])
  go_wp2
  go_round
  case rel=>exact ⟨j,by omega,by go_num,HK2⟩
  case measure=>simp [intOf]
theorem r22_Last (z:Zn) (vT vR:Value) (t:Int) (w:World) (hT:Rd Trn.cells 4 w vT z.table) (hR:Rd Rule.cells 11 w vR z.tail) (hfs:z.form.size≤2000000) (hll:z.tail.length≤12) (hl:z.table.length≤1000) (hv:z.valid=true) (ht1 : -62135596800≤t) (ht2:t<253402300800) :
  Calls Tryz.prog 69 #[z.v vT vR,C D t] w fun e w'=>e=J (optV (z.prevF t))∧Below w.heap.size w w':=by
 by_cases h0:z.tail=[]
 ·exact Zz4Z z vT vR t w hT hR hl h0 ht1 ht2
 exact Zz54 z vT vR t w hT hR hfs hll hl hv h0 ht1 ht2
/- The reference of layer 22: the type in force; of layer 24: equal types. Printed by gen_ref22l.py. -/
theorem Zz4O {w:World} {base:Nat} {e:TypeId} {size:Nat} {v:Value} {n:Nat} {xs:List Value} (h:w.ownsRow base e size v n xs) {g:Nat} (hg:g<base):v.ownBlock≠some g:=fun e=>by
 have:=(h.lt g e).1
 omega
theorem rd_blkT {w:World} {A:Option Addr} {n c:Nat} {es:List Trn} (h:Rd Trn.cells 4 w (G A n c) es) (h0:0<es.length):∃ g off,A=some ⟨g,off,H⟩∧g<w.heap.size∧∀ W,Below w.heap.size w W→∀ j,j<es.length→W.cell? ⟨g,off+j*4,H⟩=some (C D (es[j]!).at_)∧W.cell? ⟨g,off+j*4+1,H⟩=some (C D (es[j]!).ty.off)∧W.cell? ⟨g,off+j*4+2,H⟩=some (C D (es[j]!).ty.sv)∧W.cell? ⟨g,off+j*4+3,H⟩=some (E (es[j]!).ty.nm):=by
 obtain ⟨_,hP0|⟨g,off,h1,h2,h3⟩⟩:=rd_atT h
 ·omega
 refine ⟨g,off,h1,h2,fun W hb j hj=>?_⟩
 obtain ⟨c0,c1,c2,c3⟩:=h3 j hj
 exact ⟨(hb.cell (p:=⟨g,off+j*4,H⟩) h2).trans c0,(hb.cell (p:=⟨g,off+j*4+1,H⟩) h2).trans c1,(hb.cell (p:=⟨g,off+j*4+2,H⟩) h2).trans c2,(hb.cell (p:=⟨g,off+j*4+3,H⟩) h2).trans c3⟩
set_option maxRecDepth 100000 in
set_option maxHeartbeats 1000000 in
theorem r22_At (z:Zn) (vT vR:Value) (t:Int) (w:World) (hT:Rd Trn.cells 4 w vT z.table) (hR:Rd Rule.cells 11 w vR z.tail) (hfs:z.form.size≤2000000) (hll:z.tail.length≤12) (hl:z.table.length≤1000) (hv:z.valid=true) (ht1 : -62135596800≤t) (ht2:t<253402300800) :
  Calls Tryz.prog 32 #[z.v vT vR,C D t] w fun e w'=>e=J (.agg #[C D (z.typF t).off,C D (z.typF t).sv,E (z.typF t).nm])∧Below w.heap.size w w':=by
 have HL:=Hh (fun W (hb:Below w.heap.size w W)=>r22_Last z vT vR t W (hT.on hb) (hR.on hb) hfs hll hl hv ht1 ht2)
 obtain ⟨AT,cT,rfl⟩:=Zzb hT
 obtain ⟨AR,cR,rfl⟩:=Zzb hR
 have kz:=(Blk.new w #[E z.nm,C D z.first.off,C D z.first.sv,E z.first.nm,G AT z.table.length cT,G AR z.tail.length cR,C D z.off,E z.form,C D z.year] 27).alloc (I #[C D 0,C D 0,E ⟨#[]⟩] 23)
 have kr:=Blk.new (w.alloc (I #[E z.nm,C D z.first.off,C D z.first.sv,E z.first.nm,G AT z.table.length cT,G AR z.tail.length cR,C D z.off,E z.form,C D z.year] 27)) #[C D 0,C D 0,E ⟨#[]⟩] 23
 rw [World.size_alloc] at kr
 have hB0:Below w.heap.size w ((w.alloc (I #[E z.nm,C D z.first.off,C D z.first.sv,E z.first.nm,G AT z.table.length cT,G AR z.tail.length cR,C D z.off,E z.form,C D z.year] 27)).alloc (I #[C D 0,C D 0,E ⟨#[]⟩] 23)):=(bLR.alloc nlR _).alloc (by simp) _
 clear hT hR hv hfs ht1 ht2
 have x0:=kz.cl 0 _ rfl
 have x1:=kz.cl 1 _ rfl
 have x2:=kz.cl 2 _ rfl
 have x3:=kz.cl 3 _ rfl
 have x4:=kz.cl 4 _ rfl
 have x5:=kz.cl 5 _ rfl
 have x6:=kz.cl 6 _ rfl
 have x7:=kz.cl 7 _ rfl
 have x8:=kz.cl 8 _ rfl
 unfold Zn.v at HL ⊢
 cases hp:z.prevF t with
 | none =>
  have hty:z.typF t=z.first:=by unfold Zn.typF;rw [hp]
  rw [hp] at HL
  rw [show optV none=.tuple #[.agg #[C D 0,C D 0,C D 0,E ⟨#[]⟩],.bool false] from rfl] at HL
  rw [hty]
  go_enter Tryz.func32,Tryz.ntmps32
  clear hp hty
  go_wp2_with fail
  generalize ((w.alloc (I #[E z.nm,C D z.first.off,C D z.first.sv,E z.first.nm,G AT z.table.length cT,G AR z.tail.length cR,C D z.off,E z.form,C D z.year] 27)).alloc (I #[C D 0,C D 0,E ⟨#[]⟩] 23))=W0 at *
  refine (HL.out _ hB0).mono ?_
  rintro e w3 ⟨rfl,hb3⟩
  have hB3:Below w.heap.size w w3:=hB0.trans (hb3.mono hB0.size)
  have kz3:=(kz.below hb3 kz.lt).alloc (I #[C D 0,C D 0,C D 0,E ⟨#[]⟩] 57)
  have kr3:=(kr.below hb3 kr.lt).alloc (I #[C D 0,C D 0,C D 0,E ⟨#[]⟩] 57)
  have kb3:=Blk.new w3 #[C D 0,C D 0,C D 0,E ⟨#[]⟩] 57
  have hB3':=hB3.alloc hB3.size (I #[C D 0,C D 0,C D 0,E ⟨#[]⟩] 57)
  clear x0 x1 x2 x3 x4 x5 x6 x7 x8
  have y1:=kz3.cl 1 _ rfl
  have y2:=kz3.cl 2 _ rfl
  have y3:=kz3.cl 3 _ rfl
  have b1:=kb3.cl 1 _ rfl
  have b2:=kb3.cl 2 _ rfl
  have b3:=kb3.cl 3 _ rfl
  have r0:=kr3.cl 0 _ rfl
  have r1:=kr3.cl 1 _ rfl
  have r2:=kr3.cl 2 _ rfl
  have g0:=kr3.frozen 0
  have g1:=kr3.frozen 1
  have g2:=kr3.frozen 2
  go_wp2_with fail
  have S4:=kr3.set3 (C D z.first.off) (C D z.first.sv) (E z.first.nm)
  have s0:=S4.cl 0 _ rfl
  have s1:=S4.cl 1 _ rfl
  have s2:=S4.cl 2 _ rfl
  have hB9:=Zze hB3' (Nat.le_succ _) (C D z.first.off) (C D z.first.sv) (E z.first.nm)
  exact bodyPost_ret (v:=.agg #[C D z.first.off,C D z.first.sv,E z.first.nm]) (by simp [results,Tryz.results32,go_sem,s0,s1,s2]) rfl ⟨rfl,hB9⟩
 | some x =>
  have hty:z.typF t=x.ty:=by unfold Zn.typF;rw [hp]
  rw [hp] at HL
  rw [show optV (some x)=.tuple #[.agg #[C D x.at_,C D x.ty.off,C D x.ty.sv,E x.ty.nm],.bool true] from rfl] at HL
  rw [hty]
  go_enter Tryz.func32,Tryz.ntmps32
  clear hp hty
  go_wp2_with fail
  generalize ((w.alloc (I #[E z.nm,C D z.first.off,C D z.first.sv,E z.first.nm,G AT z.table.length cT,G AR z.tail.length cR,C D z.off,E z.form,C D z.year] 27)).alloc (I #[C D 0,C D 0,E ⟨#[]⟩] 23))=W0 at *
  refine (HL.out _ hB0).mono ?_
  rintro e w3 ⟨rfl,hb3⟩
  have hB3:Below w.heap.size w w3:=hB0.trans (hb3.mono hB0.size)
  have kz3:=(kz.below hb3 kz.lt).alloc (I #[C D x.at_,C D x.ty.off,C D x.ty.sv,E x.ty.nm] 57)
  have kr3:=(kr.below hb3 kr.lt).alloc (I #[C D x.at_,C D x.ty.off,C D x.ty.sv,E x.ty.nm] 57)
  have kb3:=Blk.new w3 #[C D x.at_,C D x.ty.off,C D x.ty.sv,E x.ty.nm] 57
  have hB3':=hB3.alloc hB3.size (I #[C D x.at_,C D x.ty.off,C D x.ty.sv,E x.ty.nm] 57)
  clear x0 x1 x2 x3 x4 x5 x6 x7 x8
  have y1:=kz3.cl 1 _ rfl
  have y2:=kz3.cl 2 _ rfl
  have y3:=kz3.cl 3 _ rfl
  have b1:=kb3.cl 1 _ rfl
  have b2:=kb3.cl 2 _ rfl
  have b3:=kb3.cl 3 _ rfl
  have r0:=kr3.cl 0 _ rfl
  have r1:=kr3.cl 1 _ rfl
  have r2:=kr3.cl 2 _ rfl
  have g0:=kr3.frozen 0
  have g1:=kr3.frozen 1
  have g2:=kr3.frozen 2
  go_wp2_with fail
  have S4:=kr3.set3 (C D x.ty.off) (C D x.ty.sv) (E x.ty.nm)
  have s0:=S4.cl 0 _ rfl
  have s1:=S4.cl 1 _ rfl
  have s2:=S4.cl 2 _ rfl
  have hB9:=Zze hB3' (Nat.le_succ _) (C D x.ty.off) (C D x.ty.sv) (E x.ty.nm)
  exact bodyPost_ret (v:=.agg #[C D x.ty.off,C D x.ty.sv,E x.ty.nm]) (by simp [results,Tryz.results32,go_sem,s0,s1,s2]) rfl ⟨rfl,hB9⟩
end Go.Proofs.YtmmgdjgcikbhbaaGreat

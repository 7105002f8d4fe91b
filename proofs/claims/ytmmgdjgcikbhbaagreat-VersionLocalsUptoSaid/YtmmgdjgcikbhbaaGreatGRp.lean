/- Joined by merge.py: Ref22p. -/
import Derived.Test.YtmmgdjgcikbhbaaGreatGRf
/- The reference of layer 22 at a valid zone: spaced, tail, Valid. Printed by gen_ref22p.py. -/
open Go.Value renaming int → B, string → D, slice → E
open Go.IntKind renaming i64 → C
open Option renaming none → G
open Go.Obj renaming cells → I
namespace Go.Proofs.YtmmgdjgcikbhbaaGreat
set_option linter.unusedSimpArgs false
set_option linter.unusedVariables false
open Go.ChangeShapes Go.WideShapes Go.ChangeAt Go.RowKit
def LastP (P:List (Int × Int × Int)) (L:Int):Prop:=((P=[]∧L=-124271193600)∨∃ p∈P,p.2.1=L) ∧ -124271193600≤L∧L≤300000000000
theorem LastP.zero:LastP [] (-124271193600):=⟨.inl ⟨rfl,rfl⟩,by decide,by decide⟩
theorem LastP.add {P:List (Int × Int × Int)} (x:Int × Int × Int) (h1 : -124271193600≤x.2.1) (h2:x.2.1≤300000000000):LastP (P++[x]) x.2.1:=⟨.inr ⟨x,by simp,rfl⟩,h1,h2⟩
theorem ev_lo {rs:List Rule} {y:Int} {x:Int × Int} (h:x∈yearF rs y) : -62200000000≤x.1:=by
 obtain ⟨h1,h2,h3,_⟩:=ev_bd h
 have:=Cv.first_bd (y:=y) (by omega) (by omega)
 unfold loL at h3
 have hf : -719162≤Cv.first y:=by unfold Cv.first;omega
 omega
theorem evT_pre {rs:List Rule} {a:Int} {m n k:Nat} (hm:m<n):(evK rs a m k).Sublist (evT rs a n):=by
 have e:n=(m+1)+(n-m-1):=by omega
 rw [e,ZzJ]
 refine List.Sublist.trans ?_ (List.sublist_append_left _ _)
 rw [←Zz6x]
 unfold evK
 refine List.Sublist.append_left ?_ _
 rw [List.take_length]
 exact (List.take_sublist _ _).map _
theorem LastP.far {rs:List Rule} {a L:Int} {m n k:Nat} (hfar:(evT rs a n).Pairwise farP) (hm:m<n) (hk:k<(yearF rs (a+m)).length) (h:LastP (evK rs a m k) L):604800≤((yearF rs (a+m))[k]!).1-L:=by
 have hx:(yearF rs (a+m))[k]! ∈ yearF rs (a+m):=by rw [getElem!_pos _ k hk];exact List.getElem_mem hk
 have hlo:=ev_lo hx
 rcases h.1 with ⟨_,rfl⟩|⟨p,hp,rfl⟩
 ·omega
 have hs:=hfar.sublist (evT_pre (k:=k+1) hm)
 rw [Zz3Z _ _ _ _ hk] at hs
 exact (List.pairwise_append.1 hs).2.2 p hp _ (List.mem_singleton.2 rfl)
set_option maxRecDepth 100000 in
set_option maxHeartbeats 2000000 in
theorem Zz7H (z:Zn) (vT vR:Value) (w:World) (hll:z.tail.length≤12) (hR:Rd Rule.cells 11 w vR z.tail) (hT:∃ A c,vT=E A z.table.length c) (h1:1≤z.year) (h2:z.year≤9999) (n:Nat) (hn:(n:Int)=min (z.year+400) 9999-z.year+1) (hfar:(evT z.tail z.year n).Pairwise farP) :
  Calls Tryz.prog 156 #[z.v vT vR] w fun e w'=>e=.returned (.bool true)∧Below w.heap.size w w':=by
 have HY:=Hh (fun y v W (h:Rd Rule.cells 11 W v z.tail)=>r20_Year z.tail y v W (by omega) h)
 have HR:=Hh hR
 have hlen:∀ y,(yearF z.tail y).length≤12:=fun y=>by
  have:=Zz2B y 0 z.tail
  rw [Zz2R];omega
 obtain ⟨AT,cT,rfl⟩:=hT
 obtain ⟨AR,cR,rfl⟩:=Zzb hR
 clear hR
 have hzc:=Zz2 w [D z.nm,B C z.first.off,B C z.first.sv,D z.first.nm,E AT z.table.length cT,E AR z.tail.length cR,B C z.off,D z.form,B C z.year] 27
 have hbz:Below w.heap.size w (w.alloc (I #[D z.nm,B C z.first.off,B C z.first.sv,D z.first.nm,E AT z.table.length cT,E AR z.tail.length cR,B C z.off,D z.form,B C z.year] 27)):=bLR.alloc nlR _
 have hszz:w.heap.size<(w.alloc (I #[D z.nm,B C z.first.off,B C z.first.sv,D z.first.nm,E AT z.table.length cT,E AR z.tail.length cR,B C z.off,D z.form,B C z.year] 27)).heap.size:=by simp
 have ZC5:=Hh (hzc 5 _ rfl)
 have ZC8:=Hh (hzc 8 _ rfl)
 have HBZ:=Hh hbz
 clear hzc hbz
 unfold Zn.v
 generalize hZ:z.year=Z at *
 have HN:=Hh hn
 have HFAR:=Hh hfar
 clear hfar
 have hn1:n≤401:=by omega
 clear hn
 go_enter Tryz.func156,Tryz.ntmps156
 go_wp2_with fail
 generalize w.alloc (I #[D z.nm,B C z.first.off,B C z.first.sv,D z.first.nm,E AT z.table.length cT,E AR z.tail.length cR,B C z.off,D z.form,B C Z] 27)=wz at *
 go_loopw [3,4] (fun v3 v4 wr=>∃ (m:Nat) (L:Int),m≤n∧v3=B C L∧v4=B C (Z+m)∧LastP (evT z.tail Z m) L∧Below wz.heap.size wz wr) (fun _ y _=>(20000-intOf y).toNat)
 case atStart=>exact ⟨0,_,Nat.zero_le _,rfl,vint (by simp),LastP.zero,Below.refl _ _⟩
 case round =>
  obtain ⟨m,L,hm,rfl,rfl,hsi,hbw⟩:=hrel
  have HSI:=Hh hsi
  have hL3:=hsi.2.1
  have hL4:=hsi.2.2
  clear hsi
  have yc5:wr.cell? ⟨w.heap.size,5,G⟩=_:=(hbw.cell (p:=⟨w.heap.size,5,G⟩) hszz).trans ZC5.out
  have yc8:wr.cell? ⟨w.heap.size,8,G⟩=_:=(hbw.cell (p:=⟨w.heap.size,8,G⟩) hszz).trans ZC8.out
  have hB:Below w.heap.size w wr:=HBZ.out.trans (hbw.mono HBZ.out.size)
  by_cases hlt:m<n
  ·have hle:Z+(m:Int)≤min (Z+400) 9999:=by have:=HN.out;omega
   have hl12:=hlen (Z+m)
   have HYB:=Hh (fun (k:Nat) (hk:k<(yearF z.tail (Z+m)).length)=>year_bd (rs:=z.tail) (y:=Z+m) (x:=(yearF z.tail (Z+m))[k]!) (by rw [getElem!_pos _ k hk];exact List.getElem_mem hk))
   have HK0:=Hh (Zz5A z.tail Z m)
   have HKA:=Hh (Zz6x z.tail Z m)
   have HKS:=Hh (Zz3Z z.tail Z m)
   have HFX:=Hh (fun (k:Nat) L (hk:k<(yearF z.tail (Z+m)).length) (h:LastP (evK z.tail Z m k) L)=>LastP.far HFAR.out hlt hk h)
   have HLO:=Hh (fun (k:Nat) (hk:k<(yearF z.tail (Z+m)).length)=>ev_lo (rs:=z.tail) (y:=Z+m) (x:=(yearF z.tail (Z+m))[k]!) (by rw [getElem!_pos _ k hk];exact List.getElem_mem hk))
   go_wp2_with (go_at_call 102;refine (HY.out _ _ _ (HR.out.on hB)).mono ?_;rintro e w5 ⟨v5,rfl,i5,hb5⟩)
   have R5:=Hh i5.rd
   clear i5
   obtain ⟨A5,c5,rfl⟩:=Zz2Z R5.out
   generalize yearF z.tail (Z+m)=X at *
   have hbw5:Below wz.heap.size wz w5:=hbw.trans (hb5.mono hbw.size)
   generalize hq:wr=wq at *
   clear hq
   go_loopw [3,6] (fun v3 v6 wv=>∃ (k:Nat) (L:Int),k≤X.length∧v3=B C L∧v6=B C k∧LastP (evK z.tail Z m k) L∧Below w5.heap.size w5 wv) (fun _ i _=>X.length-(intOf i).toNat)
   case atStart=>exact ⟨0,L,Nat.zero_le _,rfl,rfl,by rw [HK0.out];exact HSI.out,Below.refl _ _⟩
   case round =>
    obtain ⟨k,L,hk,rfl,rfl,hsi,hbk⟩:=hrel
    have HSK:=Hh hsi
    have hL3:=hsi.2.1
    have hL4:=hsi.2.2
    clear hsi
    by_cases hkl:k<X.length
    ·obtain ⟨g7,o7,hA7,hg7,hc7⟩:∃ g off,A5=some ⟨g,off,G⟩∧g<w5.heap.size∧∀ j,j<X.length→∀ i u,(encE X[j]!)[i]? = some u→w5.cell? ⟨g,off+j*2+i,G⟩=some u:=by
      rcases R5.out with ⟨h0,_⟩|⟨g,off,c',hv',hg,hc⟩
      ·rw [h0] at hkl;simp at hkl
      cases hv';exact ⟨g,off,rfl,hg,hc⟩
     subst hA7
     have e0:wr.cell? ⟨g7,o7+k*2,G⟩=some (B C (X[k]!).1):=(hbk.cell (p:=⟨g7,o7+k*2,G⟩) hg7).trans (hc7 k hkl 0 _ rfl)
     have e1:wr.cell? ⟨g7,o7+k*2+1,G⟩=some (B C (X[k]!).2):=(hbk.cell (p:=⟨g7,o7+k*2+1,G⟩) hg7).trans (hc7 k hkl 1 _ rfl)
     have hxb:=HYB.out k hkl
     have hxl:=HLO.out k hkl
     have hfx:=HFX.out k L hkl HSK.out
     have HST:=Hh (show LastP (evK z.tail Z m (k+1)) (X[k]!).1 by rw [HKS.out k hkl];exact LastP.add (Z+m,X[k]!) (show -124271193600≤(X[k]!).1 by omega) hxb.2)
     clear hc7
     generalize X[k]! = x at *
     go_wp2
     go_roundw
     case rel=>exact ⟨k+1,x.1,by omega,rfl,by go_num,HST.out,hbk⟩
     case measure=>simp [intOf];omega
    have hk':k=X.length:=by omega
    subst hk'
    rw [HKA.out] at HSK
    go_wp2
    go_roundw
    case rel=>exact ⟨m+1,L,by omega,rfl,by go_num,HSK.out,hbw5.trans (hbk.mono hbw5.size)⟩
    case measure=>simp [intOf];omega
  have hm':m=n:=by omega
  subst hm'
  have hno:min (Z+400) 9999<Z+(m:Int):=by have:=HN.out;omega
  go_wp2
  go_ret
  exact ⟨rfl,hB⟩
theorem behind_ref {z:Zn} (ok:TailOk z) {n:Nat} (hn:(n:Int)=min (z.year+12) 9999-z.year+1) (h:z.behindB=true):z.table=[]∨z.happ z.lastT.sv (evT z.tail z.year n)=[]∨∃ x xs,z.happ z.lastT.sv (evT z.tail z.year n)=x :: xs∧z.lastAt<x.2.at_:=by
 have y1:=ok.y1
 have y2:=ok.y2
 have e:(10000-z.year).toNat=n+(10000-z.year-n).toNat:=by omega
 have eH:z.HF=z.happ z.lastT.sv (evT z.tail z.year n)++z.happ (z.aft z.lastT.sv (evT z.tail z.year n)) (evT z.tail (z.year+n) (10000-z.year-n).toNat):=by
  unfold Zn.HF
  rw [e,ZzJ,Zza]
 unfold Zn.behindB at h
 rw [eH] at h
 by_cases ht:z.table=[]
 ·exact .inl ht
 cases hh:z.happ z.lastT.sv (evT z.tail z.year n) with
 | nil=>exact .inr (.inl rfl)
 | cons x xs =>
  rw [hh,List.cons_append] at h
  refine .inr (.inr ⟨x,xs,rfl,?_⟩)
  simpa [ht] using h
set_option maxRecDepth 100000 in
set_option maxHeartbeats 4000000 in
theorem Zz3v (z:Zn) (vT vR:Value) (w:World) (hl:z.table.length≤1000) (hll:z.tail.length≤12) (hT:Rd Trn.cells 4 w vT z.table) (hR:Rd Rule.cells 11 w vR z.tail) (hfs:z.form.size≤2000000) (h0:z.tail≠[]) (hb:1≤z.year∧z.year≤9999 ∧ -57600≤z.off∧z.off≤57600) (hH:z.headB=true) (hrr:z.tail.all z.ruleB=true) (hss:spacedF z.rules0=true) (hbb:z.behindB=true) :
  Calls Tryz.prog 99 #[z.v vT vR] w (fun e w'=>e=.returned (.bool true)∧Below w.heap.size w w'):=by
 have HR:=Hh hR
 have HT:=Hh hT
 obtain ⟨AT,cT,rfl⟩:=Zzb hT
 obtain ⟨AR,cR,rfl⟩:=Zzb hR
 have hpos:0<z.tail.length:=List.length_pos_iff.2 h0
 have hne0:((z.tail.length:Int) == 0)=false:=by simp;omega
 obtain ⟨n1,hn1⟩:∃ n:Nat,(n:Int)=min (z.year+400) 9999-z.year+1:=⟨(min (z.year+400) 9999-z.year+1).toNat,by omega⟩
 obtain ⟨n2,hn2⟩:∃ n:Nat,(n:Int)=min (z.year+12) 9999-z.year+1:=⟨(min (z.year+12) 9999-z.year+1).toNat,by omega⟩
 have HSp:=Hh (fun W h=>Zz7H z (E AT z.table.length cT) (E AR z.tail.length cR) W hll h ⟨_,_,rfl⟩ hb.1 hb.2.1 n1 hn1 ((Zz5g (fun y hy=>far0 hb.1 hb.2.1 hrr hss y hy) n1).imp (fun h=>h.2)))
 have HHp:=Hh (fun W hT hR h1 h2=>Zz2b z (E AT z.table.length cT) (E AR z.tail.length cR) (z.year+12) W (by omega) hll hT hR hfs hb.1 hb.2.1 n2 hn2 (by omega) hb.2.2 h1 h2)
 have HBe:=Hh (behind_ref (Zz6C hH h0 hb hrr hss) hn2 hbb)
 have HSv:=Hh (Zz3O (Zz4b hH)).2
 have HRs:=Hh (fun r (hr:r∈z.tail)=>(⟨(Rule.valid_ok (ZzA hrr hr).1).sv0,(Rule.valid_ok (ZzA hrr hr).1).sv1⟩ : -10800≤r.sv∧r.sv≤10800))
 have HRU:=Hh hrr
 clear hrr hss hbb
 obtain ⟨hb1,hb2,hb3,hb4⟩:=hb
 clear hT hR hn1 hn2
 have hzc:=Zz2 w [D z.nm,B C z.first.off,B C z.first.sv,D z.first.nm,E AT z.table.length cT,E AR z.tail.length cR,B C z.off,D z.form,B C z.year] 27
 have hbz:Below w.heap.size w (w.alloc (I #[D z.nm,B C z.first.off,B C z.first.sv,D z.first.nm,E AT z.table.length cT,E AR z.tail.length cR,B C z.off,D z.form,B C z.year] 27)):=bLR.alloc nlR _
 have hszz:w.heap.size<(w.alloc (I #[D z.nm,B C z.first.off,B C z.first.sv,D z.first.nm,E AT z.table.length cT,E AR z.tail.length cR,B C z.off,D z.form,B C z.year] 27)).heap.size:=by simp
 have HZC:=Hh hzc
 have HBZ:=Hh hbz
 clear hzc hbz
 unfold Zn.v at HSp HHp ⊢
 generalize hZ:z.year=Z at *
 go_enter Tryz.func99,Tryz.ntmps99
 go_wp2_with fail
 generalize w.alloc (I #[D z.nm,B C z.first.off,B C z.first.sv,D z.first.nm,E AT z.table.length cT,E AR z.tail.length cR,B C z.off,D z.form,B C Z] 27)=wz at *
 go_loopw [3] (fun v3 wr=>∃ k:Nat,k≤z.tail.length∧v3=B C k∧Below wz.heap.size wz wr) (fun v3 _=>z.tail.length-(intOf v3).toNat)
 case atStart=>exact ⟨0,Nat.zero_le _,rfl,Below.refl _ _⟩
 case round =>
  obtain ⟨k,hk,rfl,hbw⟩:=hrel
  have hB:Below w.heap.size w wr:=HBZ.out.trans (hbw.mono HBZ.out.size)
  have yc5:wr.cell? ⟨w.heap.size,5,G⟩=_:=(hbw.cell (p:=⟨w.heap.size,5,G⟩) hszz).trans (HZC.out 5 _ rfl)
  have yc7:wr.cell? ⟨w.heap.size,7,G⟩=_:=(hbw.cell (p:=⟨w.heap.size,7,G⟩) hszz).trans (HZC.out 7 _ rfl)
  have yc8:wr.cell? ⟨w.heap.size,8,G⟩=_:=(hbw.cell (p:=⟨w.heap.size,8,G⟩) hszz).trans (HZC.out 8 _ rfl)
  by_cases hkl:k<z.tail.length
  ·obtain ⟨g,off,c,hRv,hg,hcr⟩:∃ g off c,Value.slice AR z.tail.length cR=E (some ⟨g,off,G⟩) z.tail.length c∧g<w.heap.size∧∀ j,j<z.tail.length→∀ i u,(Rule.cells z.tail[j]!)[i]? = some u→w.cell? ⟨g,off+j*11+i,G⟩=some u:=by
    rcases HR.out with ⟨h0,_⟩|⟨g,off,c,hv',hg,hc⟩
    ·rw [h0] at hkl;simp at hkl
    exact ⟨g,off,c,hv',hg,hc⟩
   injection hRv with hRA hRl hRc
   subst hRA
   have hcell:∀ i u,(Rule.cells z.tail[k]!)[i]? = some u→wr.cell? ⟨g,off+k*11+i,G⟩=some u:=fun i u hu=>(hB.cell (p:=⟨g,off+k*11+i,G⟩) hg).trans (hcr k hkl i u hu)
   have HRB:=Hh (show z.ruleB z.tail[k]! = ((z.tail[k]!).valid && (decide ((z.tail[k]!).to=9999) && (decide ((z.tail[k]!).fr≤Z) && decide ((formatF z.form (z.tail[k]!).lt (z.tail[k]!).sv).2=0)))) by unfold Zn.ruleB;rw [hZ])
   have HAK:=Hh (List.all_eq_true.1 HRU.out _ (by rw [getElem!_pos z.tail k hkl];exact List.getElem_mem hkl):z.ruleB z.tail[k]! = true)
   generalize hrr:z.tail[k]! = r at *
   have r0:wr.cell? ⟨g,off+k*11,G⟩=_:=hcell 0 _ rfl
   have r1:=hcell 1 _ rfl
   have r2:=hcell 2 _ rfl
   have r3:=hcell 3 _ rfl
   have r4:=hcell 4 _ rfl
   have r5:=hcell 5 _ rfl
   have r6:=hcell 6 _ rfl
   have r7:=hcell 7 _ rfl
   have r8:=hcell 8 _ rfl
   have r9:=hcell 9 _ rfl
   have r10:=hcell 10 _ rfl
   have hszr:w.heap.size<wr.heap.size:=nLl hszz hbw.size
   have HF:=Hh (fun W=>Zz30 z.form r.lt r.sv W hfs)
   rw [Zz2W] at HF
   have HV:=Hh (fun W=>Zz4e r W)
   clear hcell hrr hcr hRc hRl
   generalize formatF z.form r.lt r.sv=F at *
   generalize r.valid=VV at *
   go_wp2_with fail
   refine (HF.out _).mono ?_
   rintro e w9 ⟨rfl,hb9⟩
   have hB9:Below wr.heap.size wr w9:=(Zz6 wr _).trans (hb9.mono (by simp))
   have q:=fun i u (hu:(Rule.cells r)[i]? = some u)=>(hb9.cell (p:=⟨wr.heap.size,i,G⟩) (by simp)).trans (Zz2 wr (Rule.cells r) 93 i u hu)
   have q0:=q 0 _ rfl
   have q1:=q 1 _ rfl
   have q2:=q 2 _ rfl
   have q3:=q 3 _ rfl
   have q4:=q 4 _ rfl
   have q5:=q 5 _ rfl
   have q6:=q 6 _ rfl
   have q7:=q 7 _ rfl
   have q8:=q 8 _ rfl
   have q9:=q 9 _ rfl
   have q10:=q 10 _ rfl
   clear q
   go_wp2_with fail
   refine (HV.out _).mono ?_
   rintro e w10 ⟨rfl,hb10⟩
   have hB10:Below wr.heap.size wr w10:=hB9.trans (hb10.mono hB9.size)
   have hz9:wr.heap.size<w9.heap.size:=by have:=hb9.size;simp at this;omega
   have p1:=(hb10.cell (p:=⟨wr.heap.size,1,G⟩) hz9).trans q1
   have p2:=(hb10.cell (p:=⟨wr.heap.size,2,G⟩) hz9).trans q2
   have yd8:w10.cell? ⟨w.heap.size,8,G⟩=_:=(hB10.cell (p:=⟨w.heap.size,8,G⟩) hszr).trans yc8
   clear q0 q1 q2 q3 q4 q5 q6 q7 q8 q9 q10 r0 r1 r2 r3 r4 r5 r6 r7 r8 r9 r10
   have hall:=HRB.out.symm.trans HAK.out
   simp only [Bool.and_eq_true,decide_eq_true_eq] at hall
   obtain ⟨rfl,hto,hfr,hfm⟩:=hall
   have d1:(r.to != 9999)=false:=by rw [bne_eq_false_iff_eq];exact hto
   have d2:(F.2 != 0)=false:=by rw [bne_eq_false_iff_eq];exact hfm
   have d3:decide (Z<r.fr)=false:=dFf (by omega)
   go_wp2
   go_roundw
   case rel=>exact ⟨k+1,by omega,by go_num,hbw.trans (hB10.mono hbw.size)⟩
   case measure=>simp [intOf];omega
  have hk':k=z.tail.length:=by omega
  subst hk'
  have hszr:w.heap.size<wr.heap.size:=nLl hszz hbw.size
  have x0:wr.cell? ⟨w.heap.size,0,G⟩=_:=(hbw.cell (p:=⟨w.heap.size,0,G⟩) hszz).trans (HZC.out 0 _ rfl)
  have x1:wr.cell? ⟨w.heap.size,1,G⟩=_:=(hbw.cell (p:=⟨w.heap.size,1,G⟩) hszz).trans (HZC.out 1 _ rfl)
  have x2:wr.cell? ⟨w.heap.size,2,G⟩=_:=(hbw.cell (p:=⟨w.heap.size,2,G⟩) hszz).trans (HZC.out 2 _ rfl)
  have x3:wr.cell? ⟨w.heap.size,3,G⟩=_:=(hbw.cell (p:=⟨w.heap.size,3,G⟩) hszz).trans (HZC.out 3 _ rfl)
  have x4:wr.cell? ⟨w.heap.size,4,G⟩=_:=(hbw.cell (p:=⟨w.heap.size,4,G⟩) hszz).trans (HZC.out 4 _ rfl)
  have x5:wr.cell? ⟨w.heap.size,5,G⟩=_:=(hbw.cell (p:=⟨w.heap.size,5,G⟩) hszz).trans (HZC.out 5 _ rfl)
  have x6:wr.cell? ⟨w.heap.size,6,G⟩=_:=(hbw.cell (p:=⟨w.heap.size,6,G⟩) hszz).trans (HZC.out 6 _ rfl)
  have x7:wr.cell? ⟨w.heap.size,7,G⟩=_:=(hbw.cell (p:=⟨w.heap.size,7,G⟩) hszz).trans (HZC.out 7 _ rfl)
  have x8:wr.cell? ⟨w.heap.size,8,G⟩=_:=(hbw.cell (p:=⟨w.heap.size,8,G⟩) hszz).trans (HZC.out 8 _ rfl)
  have HSp1:=Hh (HSp.out wr (HR.out.on hB))
  clear HSp
  go_wp2_with fail
  refine HSp1.out.mono ?_
  rintro e w3 ⟨rfl,hb3⟩
  have hB3:Below w.heap.size w w3:=hB.trans (hb3.mono hB.size)
  have hsz3:w.heap.size<w3.heap.size:=nLl hszz (nLt hbw.size hb3.size)
  skip
  have HH1:=Hh (HHp.out w3 (HT.out.on hB3) (HR.out.on hB3) HSv.out HRs.out)
  clear HHp HSp1
  generalize z.happ z.lastT.sv (evT z.tail Z n2)=H at *
  have y0:w3.cell? ⟨w.heap.size,0,G⟩=_:=(hb3.cell (p:=⟨w.heap.size,0,G⟩) hszr).trans ((hbw.cell (p:=⟨w.heap.size,0,G⟩) hszz).trans (HZC.out 0 _ rfl))
  have y1:w3.cell? ⟨w.heap.size,1,G⟩=_:=(hb3.cell (p:=⟨w.heap.size,1,G⟩) hszr).trans ((hbw.cell (p:=⟨w.heap.size,1,G⟩) hszz).trans (HZC.out 1 _ rfl))
  have y2:w3.cell? ⟨w.heap.size,2,G⟩=_:=(hb3.cell (p:=⟨w.heap.size,2,G⟩) hszr).trans ((hbw.cell (p:=⟨w.heap.size,2,G⟩) hszz).trans (HZC.out 2 _ rfl))
  have y3:w3.cell? ⟨w.heap.size,3,G⟩=_:=(hb3.cell (p:=⟨w.heap.size,3,G⟩) hszr).trans ((hbw.cell (p:=⟨w.heap.size,3,G⟩) hszz).trans (HZC.out 3 _ rfl))
  have y4:w3.cell? ⟨w.heap.size,4,G⟩=_:=(hb3.cell (p:=⟨w.heap.size,4,G⟩) hszr).trans ((hbw.cell (p:=⟨w.heap.size,4,G⟩) hszz).trans (HZC.out 4 _ rfl))
  have y5:w3.cell? ⟨w.heap.size,5,G⟩=_:=(hb3.cell (p:=⟨w.heap.size,5,G⟩) hszr).trans ((hbw.cell (p:=⟨w.heap.size,5,G⟩) hszz).trans (HZC.out 5 _ rfl))
  have y6:w3.cell? ⟨w.heap.size,6,G⟩=_:=(hb3.cell (p:=⟨w.heap.size,6,G⟩) hszr).trans ((hbw.cell (p:=⟨w.heap.size,6,G⟩) hszz).trans (HZC.out 6 _ rfl))
  have y7:w3.cell? ⟨w.heap.size,7,G⟩=_:=(hb3.cell (p:=⟨w.heap.size,7,G⟩) hszr).trans ((hbw.cell (p:=⟨w.heap.size,7,G⟩) hszz).trans (HZC.out 7 _ rfl))
  have y8:w3.cell? ⟨w.heap.size,8,G⟩=_:=(hb3.cell (p:=⟨w.heap.size,8,G⟩) hszr).trans ((hbw.cell (p:=⟨w.heap.size,8,G⟩) hszz).trans (HZC.out 8 _ rfl))
  go_wp2_with fail
  refine HH1.out.mono ?_
  rintro e w4 ⟨v4,rfl,r4,hb4⟩
  have R4:=Hh r4
  clear r4
  obtain ⟨A4,c4,rfl⟩:=Zzb R4.out
  have hB4:Below w.heap.size w w4:=hB3.trans (hb4.mono hB3.size)
  have z4:w4.cell? ⟨w.heap.size,4,G⟩=_:=(hb4.cell (p:=⟨w.heap.size,4,G⟩) hsz3).trans y4
  clear x0 x1 x2 x3 x4 x5 x6 x7 x8 y0 y1 y2 y3 y4 y5 y6 y7 y8 HH1
  have hsz4:w.heap.size<w4.heap.size:=nLl hsz3 hb4.size
  by_cases htz:z.table.length=0
  ·have hd:((z.table.length:Int) == 0)=true:=by rw [htz];rfl
   have pz4:∀ q:Bel w4.heap.size w4,q.w1.cell? ⟨w.heap.size,4,G⟩=some (E AT z.table.length cT):=fun q=>(Zzi q _ _ hsz4).trans z4
   clear z4
   go_wp2_with fail
   refine Zzr (by kernel_rfl) (by kernel_rfl) ?_
   repeat (go_big_quiet_step (fail))
   refine wpQuiet_nil ?_
   intro w5 hw'
   obtain ⟨⟨w5',hb5⟩,hw2⟩:=hw'
   subst hw2
   have hB5:=hB4.trans (hb5.mono hB4.size)
   clear pz4
   go_wp2
   go_ret
   exact ⟨rfl,hB5⟩
  by_cases hHz:H.length=0
  ·have hd:((z.table.length:Int) == 0)=false:=by rw [beq_eq_false_iff_ne];omega
   have hd2:((H.length:Int) == 0)=true:=by rw [hHz];rfl
   have pz4:∀ q:Bel w4.heap.size w4,q.w1.cell? ⟨w.heap.size,4,G⟩=some (E AT z.table.length cT):=fun q=>(Zzi q _ _ hsz4).trans z4
   clear z4
   go_wp2_with fail
   refine Zzr (by kernel_rfl) (by kernel_rfl) ?_
   repeat (go_big_quiet_step (fail))
   refine wpQuiet_nil ?_
   intro w5 hw'
   obtain ⟨⟨w5',hb5⟩,hw2⟩:=hw'
   subst hw2
   have hB5:=hB4.trans (hb5.mono hB4.size)
   clear pz4
   go_wp2
   go_ret
   exact ⟨rfl,hB5⟩
  obtain ⟨m,hm⟩:∃ m,z.table.length=m+1:=⟨z.table.length-1,by omega⟩
  obtain ⟨gT,oT,rfl,hgT,hcT⟩:∃ gT oT,AT=some ⟨gT,oT,G⟩∧gT<w4.heap.size∧∀ j,j<z.table.length→∀ i u,(Trn.cells z.table[j]!)[i]? = some u→w4.cell? ⟨gT,oT+j*4+i,G⟩=some u:=by
   rcases HT.out.on hB4 with ⟨e,_⟩|⟨gT,oT,c',hv,hgT,hcT⟩
   ·rw [e] at htz;exact absurd rfl htz
   injection hv with e1 _ _
   exact ⟨gT,oT,e1,hgT,hcT⟩
  obtain ⟨gH,oH,rfl,hgH,hcH⟩:∃ gH oH,A4=some ⟨gH,oH,G⟩∧gH<w4.heap.size∧∀ j,j<H.length→∀ i u,(encH H[j]!)[i]? = some u→w4.cell? ⟨gH,oH+j*5+i,G⟩=some u:=by
   rcases R4.out with ⟨e,_⟩|⟨gH,oH,c',hv,hgH,hcH⟩
   ·rw [e] at hHz;exact absurd rfl hHz
   injection hv with e1 _ _
   exact ⟨gH,oH,e1,hgH,hcH⟩
  have t0:=hcT m (by omega) 0 _ rfl
  have h0':=hcH 0 (by omega) 0 _ rfl
  rw [Nat.add_zero] at t0
  rw [Nat.zero_mul,Nat.add_zero] at h0'
  have hlt:(z.table[m]!).at_<(H[0]!).2.at_:=by
   rcases HBe.out with h|h|⟨x,xs,h,hx⟩
   ·rw [h] at htz;exact absurd rfl htz
   ·rw [h] at hHz;exact absurd rfl hHz
   rw [h]
   unfold Zn.lastAt at hx
   rw [hm] at hx
   exact hx
  have hd:((z.table.length:Int) == 0)=false:=by rw [beq_eq_false_iff_ne];omega
  have hd2:((H.length:Int) == 0)=false:=by rw [beq_eq_false_iff_ne];omega
  have hhp:0<H.length:=by omega
  generalize (z.table[m]!).at_=ta at *
  generalize (H[0]!).2.at_=ha at *
  rw [hm] at hd z4
  have hd1:((m:Int)+1 == 0)=false:=by rw [beq_eq_false_iff_ne];omega
  generalize H.length=hn at *
  have pz4:∀ q:Bel w4.heap.size w4,q.w1.cell? ⟨w.heap.size,4,G⟩=some (E (some ⟨gT,oT,G⟩) (m+1) cT):=fun q=>(Zzi q _ _ hsz4).trans z4
  have pt0:∀ q:Bel w4.heap.size w4,q.w1.cell? ⟨gT,oT+m*4,G⟩=some (B C ta):=fun q=>(Zzi q _ _ hgT).trans t0
  have ph0:∀ q:Bel w4.heap.size w4,q.w1.cell? ⟨gH,oH,G⟩=some (B C ha):=fun q=>(Zzi q _ _ hgH).trans h0'
  clear z4 t0 h0' hcT hcH
  go_wp2_with fail
  refine Zzr (by kernel_rfl) (by kernel_rfl) ?_
  repeat (go_big_quiet_step (fail))
  refine wpQuiet_nil ?_
  intro w5 hw'
  obtain ⟨⟨w5',hb5⟩,hw2⟩:=hw'
  subst hw2
  have hB5:=hB4.trans (hb5.mono hB4.size)
  clear pz4 pt0 ph0
  go_wp2
  go_ret
  exact ⟨ret1 (vbool (by simp)),hB5⟩
set_option maxRecDepth 100000 in
set_option maxHeartbeats 4000000 in
theorem Zz3t (z:Zn) (vT vR:Value) (w:World) (hT:Rd Trn.cells 4 w vT z.table) (hR:Rd Rule.cells 11 w vR z.tail) (h0:z.tail=[]) (hbt:z.tailB=true) :
  Calls Tryz.prog 99 #[z.v vT vR] w (fun e w'=>e=.returned (.bool true)∧Below w.heap.size w w'):=by
 obtain ⟨AT,cT,rfl⟩:=Zzb hT
 obtain ⟨AR,cR,rfl⟩:=Zzb hR
 have hb:=hbt
 unfold Zn.tailB at hb
 rw [if_pos h0] at hb
 simp only [Bool.and_eq_true,decide_eq_true_eq] at hb
 obtain ⟨⟨hy,ho⟩,hf⟩:=hb
 have hfe:z.form.toList.isEmpty=true:=by rw [Zz37,Bool.true_and,decide_eq_true_eq];exact hf
 clear hbt hf
 rw [h0] at *
 clear hT hR
 unfold Zn.v
 rw [List.length_nil,hy,ho]
 go_enter Tryz.func99,Tryz.ntmps99
 go_wp2
 go_ret
 exact ⟨rfl,bLR.alloc nlR _⟩
theorem r22_tailP (z:Zn) (vT vR:Value) (w:World) (hl:z.table.length≤1000) (hll:z.tail.length≤12) (hT:Rd Trn.cells 4 w vT z.table) (hR:Rd Rule.cells 11 w vR z.tail) (hfs:z.form.size≤2000000) (hH:z.headB=true) (hbt:z.tailB=true) :
  Calls Tryz.prog 99 #[z.v vT vR] w (fun e w'=>e=.returned (.bool true)∧Below w.heap.size w w'):=by
 by_cases h0:z.tail=[]
 ·exact Zz3t z vT vR w hT hR h0 hbt
 have hb:=hbt
 unfold Zn.tailB at hb
 rw [if_neg h0] at hb
 simp only [Bool.and_eq_true,decide_eq_true_eq] at hb
 exact Zz3v z vT vR w hl hll hT hR hfs h0 hb.1.2 hH hb.2.1 hb.2.2.1 hb.2.2.2
set_option maxRecDepth 100000 in
set_option maxHeartbeats 8000000 in
theorem r22_ValidP (z:Zn) (vT vR:Value) (w:World) (hT:Rd Trn.cells 4 w vT z.table) (hR:Rd Rule.cells 11 w vR z.tail) (hfs:z.form.size≤2000000) (hll:z.tail.length≤12) (hval:z.valid=true) :
  Calls Tryz.prog 63 #[z.v vT vR] w (fun e w'=>e=.returned (.bool true)∧Below w.heap.size w w'):=by
 have hV:z.valid=(z.headB && z.tailB):=rfl
 have hH:z.headB=(Cv.nameZ z.nm && (typB z.first && (decide (z.table.length≤1000) && tabB (-62135596800) z.first z.table))):=rfl
 have hvv:=hval
 rw [hV,Bool.and_eq_true,hH] at hvv
 simp only [Bool.and_eq_true,decide_eq_true_eq] at hvv
 obtain ⟨⟨hn,ht,hl1,htb⟩,htl⟩:=hvv
 have HHD:=Hh (show z.headB=true from by rw [hH,hn,ht,dTt hl1,htb];rfl)
 have HTLB:=Hh htl
 have HTAB:=Hh htb
 clear hV hH hval htl htb
 have HTT:=Hh hT
 have HRR:=Hh hR
 have HN:=Hh (fun W=>r18_Name z.nm W)
 have HY:=Hh (fun W=>Zz4d z.first W)
 obtain ⟨AT,cT,rfl⟩:=Zzb hT
 obtain ⟨AR,cR,rfl⟩:=Zzb hR
 have hzc:=Zz2 w [D z.nm,B C z.first.off,B C z.first.sv,D z.first.nm,E AT z.table.length cT,E AR z.tail.length cR,B C z.off,D z.form,B C z.year] 27
 have hbz:Below w.heap.size w (w.alloc (I #[D z.nm,B C z.first.off,B C z.first.sv,D z.first.nm,E AT z.table.length cT,E AR z.tail.length cR,B C z.off,D z.form,B C z.year] 27)):=bLR.alloc nlR _
 have hszz:w.heap.size<(w.alloc (I #[D z.nm,B C z.first.off,B C z.first.sv,D z.first.nm,E AT z.table.length cT,E AR z.tail.length cR,B C z.off,D z.form,B C z.year] 27)).heap.size:=by simp
 have HZC:=Hh hzc
 have HBZ:=Hh hbz
 clear hT hR hzc hbz
 rw [hn] at HN
 rw [ht] at HY
 skip
 have hd:decide ((1000:Int)<(z.table.length:Int))=false:=dFf (by omega)
 clear hn ht
 unfold Zn.v
 go_enter Tryz.func63,Tryz.ntmps63
 go_wp2_with (first|(go_at_call 97;refine (HN.out _).mono ?_;rintro e w1 ⟨rfl,rfl⟩)|(go_at_call 98;refine (HY.out _).mono ?_;rintro e w2 ⟨rfl,hb2⟩;have x1:=(hb2.cell (p:=⟨w.heap.size,1,G⟩) hszz).trans (HZC.out 1 _ rfl);have x2:=(hb2.cell (p:=⟨w.heap.size,2,G⟩) hszz).trans (HZC.out 2 _ rfl);have x3:=(hb2.cell (p:=⟨w.heap.size,3,G⟩) hszz).trans (HZC.out 3 _ rfl);have x4:=(hb2.cell (p:=⟨w.heap.size,4,G⟩) hszz).trans (HZC.out 4 _ rfl)))
 have hB2:Below w.heap.size w w2:=HBZ.out.trans (hb2.mono (Nat.le_of_lt hszz))
 have hsz2:w.heap.size<w2.heap.size:=nLl hszz hb2.size
 have Z2:=Hh (fun i u h=>(hb2.cell (p:=⟨w.heap.size,i,G⟩) hszz).trans (HZC.out i u h))
 have hbW:Below w2.heap.size w2 (w2.alloc (I #[B C z.first.off,B C z.first.sv,D z.first.nm] 23)):=(bLR.alloc nlR _)
 have q0:(w2.alloc (I #[B C z.first.off,B C z.first.sv,D z.first.nm] 23)).cell? ⟨w2.heap.size,0,G⟩=some (B C z.first.off):=Zz2 w2 [B C z.first.off,B C z.first.sv,D z.first.nm] 23 0 _ rfl
 have q1:(w2.alloc (I #[B C z.first.off,B C z.first.sv,D z.first.nm] 23)).cell? ⟨w2.heap.size,1,G⟩=some (B C z.first.sv):=Zz2 w2 [B C z.first.off,B C z.first.sv,D z.first.nm] 23 1 _ rfl
 have q2:(w2.alloc (I #[B C z.first.off,B C z.first.sv,D z.first.nm] 23)).cell? ⟨w2.heap.size,2,G⟩=some (D z.first.nm):=Zz2 w2 [B C z.first.off,B C z.first.sv,D z.first.nm] 23 2 _ rfl
 have f0:∀ i,(w2.alloc (I #[B C z.first.off,B C z.first.sv,D z.first.nm] 23)).frozen? ⟨w2.heap.size,i,G⟩=false:=fun i=>Zzo w2 _ _ i
 have hqW:w2.heap.size<(w2.alloc (I #[B C z.first.off,B C z.first.sv,D z.first.nm] 23)).heap.size:=by simp
 have HF0:=Hh f0
 generalize (w2.alloc (I #[B C z.first.off,B C z.first.sv,D z.first.nm] 23))=W at *
 obtain ⟨q,hq⟩:∃ q,q=w2.heap.size:=⟨_,rfl⟩
 have x4:W.cell? ⟨w.heap.size,4,G⟩=some (E AT z.table.length cT):=(hbW.cell (p:=⟨w.heap.size,4,G⟩) hsz2).trans (Z2.out 4 _ rfl)
 rw [←hq] at q0 q1 q2 HF0 hqW ⊢
 have hq2:w2.heap.size≤q:=Nat.le_of_eq hq.symm
 clear f0 x1 x2 x3 hq
 go_loopw [3,5] (fun v3 i wr=>∃ (k:Nat) (a:Int) (b:Typ),k≤z.table.length∧i=B C k∧v3=B C a∧Below w2.heap.size w2 wr∧q<wr.heap.size∧wr.cell? ⟨q,0,G⟩=some (B C b.off)∧wr.cell? ⟨q,1,G⟩=some (B C b.sv)∧wr.cell? ⟨q,2,G⟩=some (D b.nm)∧Hid (∀ i,wr.frozen? ⟨q,i,G⟩=false)∧Hid (tabB (-62135596800) z.first z.table=tabB a b (z.table.drop k))) (fun _ i _=>z.table.length-(intOf i).toNat)
 case atStart=>exact ⟨0,_,z.first,Nat.zero_le _,rfl,rfl,hbW,hqW,q0,q1,q2,HF0,Hh rfl⟩
 case round =>
  obtain ⟨k,a,b,hk,rfl,rfl,hbr,hqr,p0,p1,p2,HFz,HTB⟩:=hrel
  have hbr0:Below w.heap.size w wr:=hB2.trans (hbr.mono (Nat.le_of_lt hsz2))
  have hszr:w.heap.size<wr.heap.size:=nLl hsz2 hbr.size
  have yx4:wr.cell? ⟨w.heap.size,4,G⟩=some (E AT z.table.length cT):=(hbr.cell (p:=⟨w.heap.size,4,G⟩) hsz2).trans (Z2.out 4 _ rfl)
  by_cases hlt:k<z.table.length
  ·obtain ⟨gT,oT,hAT,hgT,hcT⟩:∃ gT oT,AT=some ⟨gT,oT,G⟩∧gT<wr.heap.size∧∀ i u,(Trn.cells z.table[k]!)[i]? = some u→wr.cell? ⟨gT,oT+k*4+i,G⟩=some u:=by
    rcases HTT.out.on hbr0 with ⟨e,_⟩|⟨gT,oT,c',hv,hgT,hcT⟩
    ·rw [e] at hlt;simp at hlt
    injection hv with e1 _ _
    exact ⟨gT,oT,e1,hgT,fun i u hu=>hcT k hlt i u hu⟩
   subst hAT
   have e0:=hcT 0 _ rfl
   have e1:=hcT 1 _ rfl
   have e2:=hcT 2 _ rfl
   have e3:=hcT 3 _ rfl
   rw [Nat.add_zero] at e0
   have htab:=Zz60 (a:=a) (b:=b) hlt
   generalize z.table[k]! = x at *
   obtain ⟨xa,xt⟩:=x
   dsimp only at *
   have HTX:=Hh (fun W=>Zz4d xt W)
   have hq0:Below wr.heap.size wr (wr.alloc (I #[B C xa,B C xt.off,B C xt.sv,D xt.nm] 57)):=Zz6 _ _
   have HYC:=Hh (Zz2 wr [B C xa,B C xt.off,B C xt.sv,D xt.nm] 57)
   have hne:=fun W=>eqTy xt b W
   have hgd:=gdTy
   have HR:=Hh (htab.symm.trans HTB.out.symm)
   clear hcT htab
   have hall:=HR.out.trans HTAB.out
   simp only [Bool.and_eq_true,decide_eq_true_eq] at hall
   obtain ⟨⟨h1,h2,h3,h4⟩,h5⟩:=hall
   have d1:decide (xa≤a)=false:=dFf (by omega)
   have d2:decide (253402300800≤xa)=false:=dFf (by omega)
   rw [h3] at HTX
   have HR2:=Hh (show tabB (-62135596800) z.first z.table=tabB xa xt (z.table.drop (k+1)) by rw [HTAB.out,h5])
   have dx:decide (xt=b)=false:=dFf h4
   clear h3 h4 h5
   go_wp2_with (go_at_call 98;refine (HTX.out _).mono ?_;rintro e w5 ⟨rfl,hb5⟩;have hz5:wr.heap.size+1≤w5.heap.size:=(by have:=hb5.size;simp at this;omega);have hq5:Below wr.heap.size wr w5:=hq0.trans (hb5.mono (by simp));have y0:w5.cell? ⟨wr.heap.size,0,G⟩=some (B C xa):=(hb5.cell (p:=⟨wr.heap.size,0,G⟩) (by simp)).trans (HYC.out 0 _ rfl);have y1:w5.cell? ⟨wr.heap.size,1,G⟩=some (B C xt.off):=(hb5.cell (p:=⟨wr.heap.size,1,G⟩) (by simp)).trans (HYC.out 1 _ rfl);have y2:w5.cell? ⟨wr.heap.size,2,G⟩=some (B C xt.sv):=(hb5.cell (p:=⟨wr.heap.size,2,G⟩) (by simp)).trans (HYC.out 2 _ rfl);have y3:w5.cell? ⟨wr.heap.size,3,G⟩=some (D xt.nm):=(hb5.cell (p:=⟨wr.heap.size,3,G⟩) (by simp)).trans (HYC.out 3 _ rfl);have r0:=(hq5.cell (p:=⟨q,0,G⟩) hqr).trans p0;have r1:=(hq5.cell (p:=⟨q,1,G⟩) hqr).trans p1;have r2:=(hq5.cell (p:=⟨q,2,G⟩) hqr).trans p2;have rf:=fun i=>(hq5.frozen (p:=⟨q,i,G⟩) hqr).trans (HFz.out i))
   have hs:=set3 r0 r1 r2 (B C xt.off) (B C xt.sv) (D xt.nm)
   have hb:=Zze (hbr.trans (hq5.mono hbr.size)) hq2 (B C xt.off) (B C xt.sv) (D xt.nm)
   have hsz:q<(((w5.setCell ⟨q,0,G⟩ (B C xt.off)).setCell ⟨q,1,G⟩ (B C xt.sv)).setCell ⟨q,2,G⟩ (D xt.nm)).heap.size:=by simp;omega
   go_roundw
   case rel=>exact ⟨k+1,xa,xt,by omega,by go_num,rfl,hb,hsz,hs.1,hs.2.1,hs.2.2,Hh (ZzP rf _ _ _),HR2⟩
   case measure=>simp [intOf];omega
  have hk':k=z.table.length:=by omega
  subst hk'
  have zx:=fun i u h=>(hbr.cell (p:=⟨w.heap.size,i,G⟩) hsz2).trans (Z2.out i u h)
  have zc0:=zx 0 _ rfl
  have zc1:=zx 1 _ rfl
  have zc2:=zx 2 _ rfl
  have zc3:=zx 3 _ rfl
  have zc5:=zx 5 _ rfl
  have zc6:=zx 6 _ rfl
  have zc7:=zx 7 _ rfl
  have zc8:=zx 8 _ rfl
  have HTL:=Hh (r22_tailP z _ _ wr hl1 hll (HTT.out.on hbr0) (HRR.out.on hbr0) hfs HHD.out HTLB.out)
  unfold Zn.v at HTL
  clear zx
  go_wp2_with (go_at_call 99;refine HTL.out.mono ?_;rintro e w6 ⟨rfl,hb6⟩)
  go_ret
  exact ⟨rfl,hbr0.trans (hb6.mono (Nat.le_of_lt hszr))⟩
end Go.Proofs.YtmmgdjgcikbhbaaGreat

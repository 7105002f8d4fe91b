/- Joined by merge.py: Ref22e, Ref22f. -/
import Derived.Test.YtmmgdjgcikbhbaaGreatGId
import Derived.Test.YtmmgdjgcikbhbaaGreatGZh
/- The reference of layer 22: tail. -/
open Go.Value renaming int → B, string → D, slice → E
open Go.IntKind renaming i64 → C
open Option renaming none → I
open Go.Obj renaming cells → J
namespace Go.Proofs.YtmmgdjgcikbhbaaGreat
set_option linter.unusedSimpArgs false
set_option linter.unusedVariables false
open Go.ChangeShapes Go.WideShapes Go.ChangeAt Go.RowKit
def TrueEnd (G:Prop) (w:World) (e:Ending) (w':World):Prop:=∃ b,e=.returned (.bool b)∧(b=true→G)∧Below w.heap.size w w'
set_option maxRecDepth 100000 in
set_option maxHeartbeats 4000000 in
theorem Zz4g (z:Zn) (vT vR:Value) (w:World) (hT:Rd Trn.cells 4 w vT z.table) (hR:Rd Rule.cells 11 w vR z.tail) (h0:z.tail=[]) :
  Calls Tryz.prog 99 #[z.v vT vR] w (TrueEnd (z.tailB=true) w):=by
 obtain ⟨AT,cT,rfl⟩:=Zzb hT
 obtain ⟨AR,cR,rfl⟩:=Zzb hR
 have HB:=Hh (show z.year=0→z.off=0→z.form.toList.isEmpty=true→z.tailB=true from fun h1 h2 h3=>by
  unfold Zn.tailB
  rw [if_pos h0,←Bool.true_and (decide (z.form.size=0)),←Zz37,h3,h1,h2]
  rfl)
 rw [h0] at *
 clear hT hR
 unfold Zn.v
 rw [List.length_nil]
 go_enter Tryz.func99,Tryz.ntmps99
 go_wp2
 ·go_ret
  exact ⟨_,rfl,fun h=>HB.out (by assumption) (by assumption) h,bLR.alloc nlR _⟩
 all_goals
  go_ret
  exact ⟨false,rfl,fun h=>absurd h (by decide),bLR.alloc nlR _⟩
set_option maxRecDepth 100000 in
set_option maxHeartbeats 4000000 in
theorem Zz4k (z:Zn) (vT vR:Value) (w:World) (hl:z.table.length≤1000) (hll:z.tail.length≤12) (hT:Rd Trn.cells 4 w vT z.table) (hR:Rd Rule.cells 11 w vR z.tail) (hfs:z.form.size≤2000000) (h0:z.tail≠[]) (hb:1≤z.year∧z.year≤9999 ∧ -57600≤z.off∧z.off≤57600) (hH:z.headB=true) :
  Calls Tryz.prog 99 #[z.v vT vR] w (TrueEnd (z.tailB=true) w):=by
 have HR:=Hh hR
 have HT:=Hh hT
 obtain ⟨AT,cT,rfl⟩:=Zzb hT
 obtain ⟨AR,cR,rfl⟩:=Zzb hR
 have hpos:0<z.tail.length:=List.length_pos_iff.2 h0
 have hne0:((z.tail.length:Int) == 0)=false:=by simp;omega
 obtain ⟨n1,hn1⟩:∃ n:Nat,(n:Int)=min (z.year+400) 9999-z.year+1:=⟨(min (z.year+400) 9999-z.year+1).toNat,by omega⟩
 obtain ⟨n2,hn2⟩:∃ n:Nat,(n:Int)=min (z.year+12) 9999-z.year+1:=⟨(min (z.year+12) 9999-z.year+1).toNat,by omega⟩
 have HSp:=Hh (fun W h=>r22_spaced z (E AT z.table.length cT) (E AR z.tail.length cR) W hll h ⟨_,_,rfl⟩ hb.1 hb.2.1 n1 hn1)
 have HHp:=Hh (fun W hT hR h1 h2=>Zz2b z (E AT z.table.length cT) (E AR z.tail.length cR) (z.year+12) W (by omega) hll hT hR hfs hb.1 hb.2.1 n2 hn2 (by omega) hb.2.2 h1 h2)
 have HFS:=Hh (fun hr h=>ref_spaced hb.1 hb.2.1 hr hn1 h)
 have HTO:=Hh (fun hr hs=>Zz6C hH h0 hb hr hs)
 have HBe:=Hh (fun ok h=>ref_behind ok hn2 h)
 have HTB:=Hh (show z.tail.all z.ruleB=true→spacedF z.rules0=true→z.behindB=true→z.tailB=true from fun h1 h2 h3=>by
  unfold Zn.tailB
  rw [if_neg h0,h1,h2,h3,dTt ⟨by omega,hb⟩]
  rfl)
 have HSv:=Hh (Zz3O (Zz4b hH)).2
 have HRs:=Hh (fun (h:z.tail.all z.ruleB=true) r (hr:r∈z.tail)=>(⟨(Rule.valid_ok (ZzA h hr).1).sv0,(Rule.valid_ok (ZzA h hr).1).sv1⟩ : -10800≤r.sv∧r.sv≤10800))
 obtain ⟨hb1,hb2,hb3,hb4⟩:=hb
 clear hT hR hn1 hn2
 have hzc:=Zz2 w [D z.nm,B C z.first.off,B C z.first.sv,D z.first.nm,E AT z.table.length cT,E AR z.tail.length cR,B C z.off,D z.form,B C z.year] 27
 have hbz:Below w.heap.size w (w.alloc (J #[D z.nm,B C z.first.off,B C z.first.sv,D z.first.nm,E AT z.table.length cT,E AR z.tail.length cR,B C z.off,D z.form,B C z.year] 27)):=bLR.alloc nlR _
 have hszz:w.heap.size<(w.alloc (J #[D z.nm,B C z.first.off,B C z.first.sv,D z.first.nm,E AT z.table.length cT,E AR z.tail.length cR,B C z.off,D z.form,B C z.year] 27)).heap.size:=by simp
 have HZC:=Hh hzc
 have HBZ:=Hh hbz
 clear hzc hbz
 unfold Zn.v at HSp HHp ⊢
 generalize hZ:z.year=Z at *
 go_enter Tryz.func99,Tryz.ntmps99
 go_wp2_with fail
 generalize w.alloc (J #[D z.nm,B C z.first.off,B C z.first.sv,D z.first.nm,E AT z.table.length cT,E AR z.tail.length cR,B C z.off,D z.form,B C Z] 27)=wz at *
 go_loopw [3] (fun v3 wr=>∃ k:Nat,k≤z.tail.length∧v3=B C k∧Hid ((z.tail.take k).all z.ruleB=true)∧Below wz.heap.size wz wr) (fun v3 _=>z.tail.length-(intOf v3).toNat)
 case atStart=>exact ⟨0,Nat.zero_le _,rfl,by simp [RowKit.Hid],Below.refl _ _⟩
 case round =>
  obtain ⟨k,hk,rfl,HJ,hbw⟩:=hrel
  have hB:Below w.heap.size w wr:=HBZ.out.trans (hbw.mono HBZ.out.size)
  have yc5:wr.cell? ⟨w.heap.size,5,I⟩=_:=(hbw.cell (p:=⟨w.heap.size,5,I⟩) hszz).trans (HZC.out 5 _ rfl)
  have yc7:wr.cell? ⟨w.heap.size,7,I⟩=_:=(hbw.cell (p:=⟨w.heap.size,7,I⟩) hszz).trans (HZC.out 7 _ rfl)
  have yc8:wr.cell? ⟨w.heap.size,8,I⟩=_:=(hbw.cell (p:=⟨w.heap.size,8,I⟩) hszz).trans (HZC.out 8 _ rfl)
  by_cases hkl:k<z.tail.length
  ·obtain ⟨g,off,c,hRv,hg,hcr⟩:∃ g off c,Value.slice AR z.tail.length cR=E (some ⟨g,off,I⟩) z.tail.length c∧g<w.heap.size∧∀ j,j<z.tail.length→∀ i u,(Rule.cells z.tail[j]!)[i]? = some u→w.cell? ⟨g,off+j*11+i,I⟩=some u:=by
    rcases HR.out with ⟨h0,_⟩|⟨g,off,c,hv',hg,hc⟩
    ·rw [h0] at hkl;simp at hkl
    exact ⟨g,off,c,hv',hg,hc⟩
   injection hRv with hRA hRl hRc
   subst hRA
   have hcell:∀ i u,(Rule.cells z.tail[k]!)[i]? = some u→wr.cell? ⟨g,off+k*11+i,I⟩=some u:=fun i u hu=>(hB.cell (p:=⟨g,off+k*11+i,I⟩) hg).trans (hcr k hkl i u hu)
   have HRB:=Hh (show z.ruleB z.tail[k]! = ((z.tail[k]!).valid && (decide ((z.tail[k]!).to=9999) && (decide ((z.tail[k]!).fr≤Z) && decide ((formatF z.form (z.tail[k]!).lt (z.tail[k]!).sv).2=0)))) by unfold Zn.ruleB;rw [hZ])
   have HST:=Hh (fun h=>all_step (p:=z.ruleB) hkl HJ.out h)
   generalize hrr:z.tail[k]! = r at *
   have r0:wr.cell? ⟨g,off+k*11,I⟩=_:=hcell 0 _ rfl
   have r1:=hcell 1 _ rfl
   have r2:=hcell 2 _ rfl
   have r3:=hcell 3 _ rfl
   have r4:=hcell 4 _ rfl
   have r5:=hcell 5 _ rfl
   have r6:=hcell 6 _ rfl
   have r7:=hcell 7 _ rfl
   have r8:=hcell 8 _ rfl
   have r9:=hcell 9 _ rfl
   have r10:=hcell 10 _ rfl
   have hszr:w.heap.size<wr.heap.size:=nLl hszz hbw.size
   have HF:=Hh (fun W=>Zz30 z.form r.lt r.sv W hfs)
   rw [Zz2W] at HF
   have HV:=Hh (fun W=>Zz4e r W)
   clear hcell hrr hcr hRc hRl
   generalize formatF z.form r.lt r.sv=F at *
   generalize r.valid=VV at *
   go_wp2_with fail
   refine (HF.out _).mono ?_
   rintro e w9 ⟨rfl,hb9⟩
   have hB9:Below wr.heap.size wr w9:=(Zz6 wr _).trans (hb9.mono (by simp))
   have q:=fun i u (hu:(Rule.cells r)[i]? = some u)=>(hb9.cell (p:=⟨wr.heap.size,i,I⟩) (by simp)).trans (Zz2 wr (Rule.cells r) 93 i u hu)
   have q0:=q 0 _ rfl
   have q1:=q 1 _ rfl
   have q2:=q 2 _ rfl
   have q3:=q 3 _ rfl
   have q4:=q 4 _ rfl
   have q5:=q 5 _ rfl
   have q6:=q 6 _ rfl
   have q7:=q 7 _ rfl
   have q8:=q 8 _ rfl
   have q9:=q 9 _ rfl
   have q10:=q 10 _ rfl
   clear q
   go_wp2_with fail
   refine (HV.out _).mono ?_
   rintro e w10 ⟨rfl,hb10⟩
   have hB10:Below wr.heap.size wr w10:=hB9.trans (hb10.mono hB9.size)
   have hz9:wr.heap.size<w9.heap.size:=by have:=hb9.size;simp at this;omega
   have p1:=(hb10.cell (p:=⟨wr.heap.size,1,I⟩) hz9).trans q1
   have p2:=(hb10.cell (p:=⟨wr.heap.size,2,I⟩) hz9).trans q2
   have yd8:w10.cell? ⟨w.heap.size,8,I⟩=_:=(hB10.cell (p:=⟨w.heap.size,8,I⟩) hszr).trans yc8
   clear q0 q1 q2 q3 q4 q5 q6 q7 q8 q9 q10 r0 r1 r2 r3 r4 r5 r6 r7 r8 r9 r10
   cases VV
   ·go_wp2
    go_ret
    exact ⟨false,rfl,fun h=>absurd h (by decide),hB.trans (hB10.mono hB.size)⟩
   go_wp2
   all_goals first
    | (go_ret;exact ⟨false,rfl,fun h=>absurd h (by decide),hB.trans (hB10.mono hB.size)⟩)
    | (
      go_roundw
      case rel =>
       refine ⟨k+1,by omega,by go_num,HST.out ?_,hbw.trans (hB10.mono hbw.size)⟩
       rw [HRB.out]
       simp_all
      case measure=>simp [intOf];omega)
  have hk':k=z.tail.length:=by omega
  subst hk'
  rw [List.take_length] at HJ
  have hszr:w.heap.size<wr.heap.size:=nLl hszz hbw.size
  have x0:wr.cell? ⟨w.heap.size,0,I⟩=_:=(hbw.cell (p:=⟨w.heap.size,0,I⟩) hszz).trans (HZC.out 0 _ rfl)
  have x1:wr.cell? ⟨w.heap.size,1,I⟩=_:=(hbw.cell (p:=⟨w.heap.size,1,I⟩) hszz).trans (HZC.out 1 _ rfl)
  have x2:wr.cell? ⟨w.heap.size,2,I⟩=_:=(hbw.cell (p:=⟨w.heap.size,2,I⟩) hszz).trans (HZC.out 2 _ rfl)
  have x3:wr.cell? ⟨w.heap.size,3,I⟩=_:=(hbw.cell (p:=⟨w.heap.size,3,I⟩) hszz).trans (HZC.out 3 _ rfl)
  have x4:wr.cell? ⟨w.heap.size,4,I⟩=_:=(hbw.cell (p:=⟨w.heap.size,4,I⟩) hszz).trans (HZC.out 4 _ rfl)
  have x5:wr.cell? ⟨w.heap.size,5,I⟩=_:=(hbw.cell (p:=⟨w.heap.size,5,I⟩) hszz).trans (HZC.out 5 _ rfl)
  have x6:wr.cell? ⟨w.heap.size,6,I⟩=_:=(hbw.cell (p:=⟨w.heap.size,6,I⟩) hszz).trans (HZC.out 6 _ rfl)
  have x7:wr.cell? ⟨w.heap.size,7,I⟩=_:=(hbw.cell (p:=⟨w.heap.size,7,I⟩) hszz).trans (HZC.out 7 _ rfl)
  have x8:wr.cell? ⟨w.heap.size,8,I⟩=_:=(hbw.cell (p:=⟨w.heap.size,8,I⟩) hszz).trans (HZC.out 8 _ rfl)
  have HSp1:=Hh (HSp.out wr (HR.out.on hB))
  clear HSp
  go_wp2_with fail
  refine HSp1.out.mono ?_
  rintro e w3 ⟨b,rfl,hsp,hb3⟩
  have hB3:Below w.heap.size w w3:=hB.trans (hb3.mono hB.size)
  have hsz3:w.heap.size<w3.heap.size:=nLl hszz (nLt hbw.size hb3.size)
  cases b
  ·go_wp2
   go_ret
   exact ⟨false,rfl,fun h=>absurd h (by decide),hB3⟩
  have HF1:=Hh (HFS.out HJ.out (hsp rfl))
  have OK:=Hh (HTO.out HJ.out HF1.out)
  have HB1:=Hh (fun h=>HBe.out OK.out h)
  have HH1:=Hh (HHp.out w3 (HT.out.on hB3) (HR.out.on hB3) HSv.out (HRs.out HJ.out))
  clear HFS HTO HBe HHp hsp HSp1
  generalize z.happ z.lastT.sv (evT z.tail Z n2)=H at *
  have y0:w3.cell? ⟨w.heap.size,0,I⟩=_:=(hb3.cell (p:=⟨w.heap.size,0,I⟩) hszr).trans ((hbw.cell (p:=⟨w.heap.size,0,I⟩) hszz).trans (HZC.out 0 _ rfl))
  have y1:w3.cell? ⟨w.heap.size,1,I⟩=_:=(hb3.cell (p:=⟨w.heap.size,1,I⟩) hszr).trans ((hbw.cell (p:=⟨w.heap.size,1,I⟩) hszz).trans (HZC.out 1 _ rfl))
  have y2:w3.cell? ⟨w.heap.size,2,I⟩=_:=(hb3.cell (p:=⟨w.heap.size,2,I⟩) hszr).trans ((hbw.cell (p:=⟨w.heap.size,2,I⟩) hszz).trans (HZC.out 2 _ rfl))
  have y3:w3.cell? ⟨w.heap.size,3,I⟩=_:=(hb3.cell (p:=⟨w.heap.size,3,I⟩) hszr).trans ((hbw.cell (p:=⟨w.heap.size,3,I⟩) hszz).trans (HZC.out 3 _ rfl))
  have y4:w3.cell? ⟨w.heap.size,4,I⟩=_:=(hb3.cell (p:=⟨w.heap.size,4,I⟩) hszr).trans ((hbw.cell (p:=⟨w.heap.size,4,I⟩) hszz).trans (HZC.out 4 _ rfl))
  have y5:w3.cell? ⟨w.heap.size,5,I⟩=_:=(hb3.cell (p:=⟨w.heap.size,5,I⟩) hszr).trans ((hbw.cell (p:=⟨w.heap.size,5,I⟩) hszz).trans (HZC.out 5 _ rfl))
  have y6:w3.cell? ⟨w.heap.size,6,I⟩=_:=(hb3.cell (p:=⟨w.heap.size,6,I⟩) hszr).trans ((hbw.cell (p:=⟨w.heap.size,6,I⟩) hszz).trans (HZC.out 6 _ rfl))
  have y7:w3.cell? ⟨w.heap.size,7,I⟩=_:=(hb3.cell (p:=⟨w.heap.size,7,I⟩) hszr).trans ((hbw.cell (p:=⟨w.heap.size,7,I⟩) hszz).trans (HZC.out 7 _ rfl))
  have y8:w3.cell? ⟨w.heap.size,8,I⟩=_:=(hb3.cell (p:=⟨w.heap.size,8,I⟩) hszr).trans ((hbw.cell (p:=⟨w.heap.size,8,I⟩) hszz).trans (HZC.out 8 _ rfl))
  go_wp2_with fail
  refine HH1.out.mono ?_
  rintro e w4 ⟨v4,rfl,r4,hb4⟩
  have R4:=Hh r4
  clear r4
  obtain ⟨A4,c4,rfl⟩:=Zzb R4.out
  have hB4:Below w.heap.size w w4:=hB3.trans (hb4.mono hB3.size)
  have z4:w4.cell? ⟨w.heap.size,4,I⟩=_:=(hb4.cell (p:=⟨w.heap.size,4,I⟩) hsz3).trans y4
  clear x0 x1 x2 x3 x4 x5 x6 x7 x8 y0 y1 y2 y3 y4 y5 y6 y7 y8 HH1
  have hsz4:w.heap.size<w4.heap.size:=nLl hsz3 hb4.size
  by_cases htz:z.table.length=0
  ·have zt:=HTB.out HJ.out HF1.out (HB1.out (.inl (List.eq_nil_of_length_eq_zero htz)))
   have hd:((z.table.length:Int) == 0)=true:=by rw [htz];rfl
   have pz4:∀ q:Bel w4.heap.size w4,q.w1.cell? ⟨w.heap.size,4,I⟩=some (E AT z.table.length cT):=fun q=>(Zzi q _ _ hsz4).trans z4
   clear z4
   go_wp2_with fail
   refine Zzr (by kernel_rfl) (by kernel_rfl) ?_
   repeat (go_big_quiet_step (fail))
   refine wpQuiet_nil ?_
   intro w5 hw'
   obtain ⟨⟨w5',hb5⟩,hw2⟩:=hw'
   subst hw2
   have hB5:=hB4.trans (hb5.mono hB4.size)
   clear pz4
   go_wp2
   go_ret
   exact ⟨_,rfl,fun _=>zt,hB5⟩
  by_cases hHz:H.length=0
  ·have zt:=HTB.out HJ.out HF1.out (HB1.out (.inr (.inl (List.eq_nil_of_length_eq_zero hHz))))
   have hd:((z.table.length:Int) == 0)=false:=by rw [beq_eq_false_iff_ne];omega
   have hd2:((H.length:Int) == 0)=true:=by rw [hHz];rfl
   have pz4:∀ q:Bel w4.heap.size w4,q.w1.cell? ⟨w.heap.size,4,I⟩=some (E AT z.table.length cT):=fun q=>(Zzi q _ _ hsz4).trans z4
   clear z4
   go_wp2_with fail
   refine Zzr (by kernel_rfl) (by kernel_rfl) ?_
   repeat (go_big_quiet_step (fail))
   refine wpQuiet_nil ?_
   intro w5 hw'
   obtain ⟨⟨w5',hb5⟩,hw2⟩:=hw'
   subst hw2
   have hB5:=hB4.trans (hb5.mono hB4.size)
   clear pz4
   go_wp2
   go_ret
   exact ⟨_,rfl,fun _=>zt,hB5⟩
  obtain ⟨m,hm⟩:∃ m,z.table.length=m+1:=⟨z.table.length-1,by omega⟩
  obtain ⟨gT,oT,rfl,hgT,hcT⟩:∃ gT oT,AT=some ⟨gT,oT,I⟩∧gT<w4.heap.size∧∀ j,j<z.table.length→∀ i u,(Trn.cells z.table[j]!)[i]? = some u→w4.cell? ⟨gT,oT+j*4+i,I⟩=some u:=by
   rcases HT.out.on hB4 with ⟨e,_⟩|⟨gT,oT,c',hv,hgT,hcT⟩
   ·rw [e] at htz;exact absurd rfl htz
   injection hv with e1 _ _
   exact ⟨gT,oT,e1,hgT,hcT⟩
  obtain ⟨gH,oH,rfl,hgH,hcH⟩:∃ gH oH,A4=some ⟨gH,oH,I⟩∧gH<w4.heap.size∧∀ j,j<H.length→∀ i u,(encH H[j]!)[i]? = some u→w4.cell? ⟨gH,oH+j*5+i,I⟩=some u:=by
   rcases R4.out with ⟨e,_⟩|⟨gH,oH,c',hv,hgH,hcH⟩
   ·rw [e] at hHz;exact absurd rfl hHz
   injection hv with e1 _ _
   exact ⟨gH,oH,e1,hgH,hcH⟩
  have t0:=hcT m (by omega) 0 _ rfl
  have h0':=hcH 0 (by omega) 0 _ rfl
  rw [Nat.add_zero] at t0
  rw [Nat.zero_mul,Nat.add_zero] at h0'
  have HZ:=Hh (fun (hlt:(z.table[m]!).at_<(H[0]!).2.at_)=>HTB.out HJ.out HF1.out (HB1.out (.inr (.inr (by
   cases hH':H with
   | nil=>rw [hH'] at hHz;exact absurd rfl hHz
   | cons x xs => 
    rw [hH'] at hlt
    refine ⟨x,xs,rfl,?_⟩
    unfold Zn.lastAt
    rw [hm]
    exact hlt)))))
  have hd:((z.table.length:Int) == 0)=false:=by rw [beq_eq_false_iff_ne];omega
  have hd2:((H.length:Int) == 0)=false:=by rw [beq_eq_false_iff_ne];omega
  have hhp:0<H.length:=by omega
  generalize (z.table[m]!).at_=ta at *
  generalize (H[0]!).2.at_=ha at *
  rw [hm] at hd z4
  have hd1:((m:Int)+1 == 0)=false:=by rw [beq_eq_false_iff_ne];omega
  generalize H.length=hn at *
  have pz4:∀ q:Bel w4.heap.size w4,q.w1.cell? ⟨w.heap.size,4,I⟩=some (E (some ⟨gT,oT,I⟩) (m+1) cT):=fun q=>(Zzi q _ _ hsz4).trans z4
  have pt0:∀ q:Bel w4.heap.size w4,q.w1.cell? ⟨gT,oT+m*4,I⟩=some (B C ta):=fun q=>(Zzi q _ _ hgT).trans t0
  have ph0:∀ q:Bel w4.heap.size w4,q.w1.cell? ⟨gH,oH,I⟩=some (B C ha):=fun q=>(Zzi q _ _ hgH).trans h0'
  clear z4 t0 h0' hcT hcH
  go_wp2_with fail
  refine Zzr (by kernel_rfl) (by kernel_rfl) ?_
  repeat (go_big_quiet_step (fail))
  refine wpQuiet_nil ?_
  intro w5 hw'
  obtain ⟨⟨w5',hb5⟩,hw2⟩:=hw'
  subst hw2
  have hB5:=hB4.trans (hb5.mono hB4.size)
  clear pz4 pt0 ph0
  go_wp2
  go_ret
  exact ⟨_,rfl,fun h=>HZ.out (by simpa using h),hB5⟩
set_option maxRecDepth 100000 in
set_option maxHeartbeats 4000000 in
theorem Zz5R (z:Zn) (vT vR:Value) (w:World) (hT:∃ A c,vT=E A z.table.length c) (hR:∃ A c,vR=E A z.tail.length c) (h0:z.tail≠[]) (hb:¬ (z.tail.length≤100∧1≤z.year∧z.year≤9999 ∧ -57600≤z.off∧z.off≤57600)) :
  Calls Tryz.prog 99 #[z.v vT vR] w (TrueEnd (z.tailB=true) w):=by
 obtain ⟨AT,cT,rfl⟩:=hT
 obtain ⟨AR,cR,rfl⟩:=hR
 have hpos:0<z.tail.length:=List.length_pos_iff.2 h0
 have hne0:((z.tail.length:Int) == 0)=false:=by simp;omega
 unfold Zn.v
 by_cases a1:z.tail.length≤100
 ·by_cases a2:1≤z.year
  ·by_cases a3:z.year≤9999
   ·by_cases a4 : -57600≤z.off
    ·have a5:57600<z.off:=by omega
     clear hb h0
     go_enter Tryz.func99,Tryz.ntmps99
     go_wp2
     go_ret
     exact ⟨false,rfl,fun h=>absurd h (by decide),bLR.alloc nlR _⟩
    clear hb h0
    go_enter Tryz.func99,Tryz.ntmps99
    go_wp2
    go_ret
    exact ⟨false,rfl,fun h=>absurd h (by decide),bLR.alloc nlR _⟩
   clear hb h0
   go_enter Tryz.func99,Tryz.ntmps99
   go_wp2
   go_ret
   exact ⟨false,rfl,fun h=>absurd h (by decide),bLR.alloc nlR _⟩
  clear hb h0
  go_enter Tryz.func99,Tryz.ntmps99
  go_wp2
  go_ret
  exact ⟨false,rfl,fun h=>absurd h (by decide),bLR.alloc nlR _⟩
 clear hb h0
 go_enter Tryz.func99,Tryz.ntmps99
 go_wp2
 go_ret
 exact ⟨false,rfl,fun h=>absurd h (by decide),bLR.alloc nlR _⟩
theorem r22_tail (z:Zn) (vT vR:Value) (w:World) (hl:z.table.length≤1000) (hll:z.tail.length≤12∨100<z.tail.length) (hT:Rd Trn.cells 4 w vT z.table) (hR:Rd Rule.cells 11 w vR z.tail) (hfs:z.form.size≤2000000) (hH:z.headB=true) :
  Calls Tryz.prog 99 #[z.v vT vR] w (TrueEnd (z.tailB=true) w):=by
 by_cases h0:z.tail=[]
 ·exact Zz4g z vT vR w hT hR h0
 by_cases hb:z.tail.length≤100∧1≤z.year∧z.year≤9999 ∧ -57600≤z.off∧z.off≤57600
 ·exact Zz4k z vT vR w hl (by omega) hT hR hfs h0 hb.2 hH
 exact Zz5R z vT vR w (Zzb hT) (Zzb hR) h0 hb
/- The reference of layer 22: Valid. -/
set_option maxRecDepth 100000 in
set_option maxHeartbeats 8000000 in
theorem r22_Valid (z:Zn) (vT vR:Value) (w:World) (hT:Rd Trn.cells 4 w vT z.table) (hR:Rd Rule.cells 11 w vR z.tail) (hfs:z.form.size≤2000000) (hll:z.tail.length≤12∨100<z.tail.length) :
  Calls Tryz.prog 63 #[z.v vT vR] w (TrueEnd (z.valid=true) w):=by
 have hV:z.valid=(z.headB && z.tailB):=rfl
 have hH:z.headB=(Cv.nameZ z.nm && (typB z.first && (decide (z.table.length≤1000) && tabB (-62135596800) z.first z.table))):=rfl
 have HTT:=Hh hT
 have HRR:=Hh hR
 have HN:=Hh (fun W=>r18_Name z.nm W)
 have HY:=Hh (fun W=>Zz4d z.first W)
 obtain ⟨AT,cT,rfl⟩:=Zzb hT
 obtain ⟨AR,cR,rfl⟩:=Zzb hR
 have hzc:=Zz2 w [D z.nm,B C z.first.off,B C z.first.sv,D z.first.nm,E AT z.table.length cT,E AR z.tail.length cR,B C z.off,D z.form,B C z.year] 27
 have hbz:Below w.heap.size w (w.alloc (J #[D z.nm,B C z.first.off,B C z.first.sv,D z.first.nm,E AT z.table.length cT,E AR z.tail.length cR,B C z.off,D z.form,B C z.year] 27)):=bLR.alloc nlR _
 have hszz:w.heap.size<(w.alloc (J #[D z.nm,B C z.first.off,B C z.first.sv,D z.first.nm,E AT z.table.length cT,E AR z.tail.length cR,B C z.off,D z.form,B C z.year] 27)).heap.size:=by simp
 have HZC:=Hh hzc
 have HBZ:=Hh hbz
 clear hT hR hzc hbz
 cases hn:Cv.nameZ z.nm
 ·skip
  rw [hn] at HN
  clear hn hV hH
  unfold Zn.v
  go_enter Tryz.func63,Tryz.ntmps63
  go_wp2_with (go_at_call 97;refine (HN.out _).mono ?_;rintro e w1 ⟨rfl,rfl⟩)
  go_ret
  exact ⟨false,rfl,fun h=>absurd h (by decide),HBZ.out⟩
 rw [hn] at HN
 cases ht:typB z.first
 ·skip
  rw [ht] at HY
  clear hn hV hH ht
  unfold Zn.v
  go_enter Tryz.func63,Tryz.ntmps63
  go_wp2_with (first|(go_at_call 97;refine (HN.out _).mono ?_;rintro e w1 ⟨rfl,rfl⟩)|(go_at_call 98;refine (HY.out _).mono ?_;rintro e w2 ⟨rfl,hb2⟩))
  go_ret
  exact ⟨false,rfl,fun h=>absurd h (by decide),HBZ.out.trans (hb2.mono (Nat.le_of_lt hszz))⟩
 rw [ht] at HY
 by_cases hl1:z.table.length≤1000
 ·have HBV:=Hh (fun (h1:tabB (-62135596800) z.first z.table=true) (h2:z.tailB=true)=>show z.valid=true by rw [hV,hH,hn,ht,dTt hl1,h1,h2];rfl)
  have HHD:=Hh (fun h:tabB (-62135596800) z.first z.table=true=>show z.headB=true by rw [hH,hn,ht,dTt hl1,h];rfl)
  have hd:decide ((1000:Int)<(z.table.length:Int))=false:=dFf (by omega)
  clear hn hV hH ht
  unfold Zn.v
  go_enter Tryz.func63,Tryz.ntmps63
  go_wp2_with (first|(go_at_call 97;refine (HN.out _).mono ?_;rintro e w1 ⟨rfl,rfl⟩)|(go_at_call 98;refine (HY.out _).mono ?_;rintro e w2 ⟨rfl,hb2⟩;have x1:=(hb2.cell (p:=⟨w.heap.size,1,I⟩) hszz).trans (HZC.out 1 _ rfl);have x2:=(hb2.cell (p:=⟨w.heap.size,2,I⟩) hszz).trans (HZC.out 2 _ rfl);have x3:=(hb2.cell (p:=⟨w.heap.size,3,I⟩) hszz).trans (HZC.out 3 _ rfl);have x4:=(hb2.cell (p:=⟨w.heap.size,4,I⟩) hszz).trans (HZC.out 4 _ rfl)))
  have hB2:Below w.heap.size w w2:=HBZ.out.trans (hb2.mono (Nat.le_of_lt hszz))
  have hsz2:w.heap.size<w2.heap.size:=nLl hszz hb2.size
  have Z2:=Hh (fun i u h=>(hb2.cell (p:=⟨w.heap.size,i,I⟩) hszz).trans (HZC.out i u h))
  have hbW:Below w2.heap.size w2 (w2.alloc (J #[B C z.first.off,B C z.first.sv,D z.first.nm] 23)):=(bLR.alloc nlR _)
  have q0:(w2.alloc (J #[B C z.first.off,B C z.first.sv,D z.first.nm] 23)).cell? ⟨w2.heap.size,0,I⟩=some (B C z.first.off):=Zz2 w2 [B C z.first.off,B C z.first.sv,D z.first.nm] 23 0 _ rfl
  have q1:(w2.alloc (J #[B C z.first.off,B C z.first.sv,D z.first.nm] 23)).cell? ⟨w2.heap.size,1,I⟩=some (B C z.first.sv):=Zz2 w2 [B C z.first.off,B C z.first.sv,D z.first.nm] 23 1 _ rfl
  have q2:(w2.alloc (J #[B C z.first.off,B C z.first.sv,D z.first.nm] 23)).cell? ⟨w2.heap.size,2,I⟩=some (D z.first.nm):=Zz2 w2 [B C z.first.off,B C z.first.sv,D z.first.nm] 23 2 _ rfl
  have f0:∀ i,(w2.alloc (J #[B C z.first.off,B C z.first.sv,D z.first.nm] 23)).frozen? ⟨w2.heap.size,i,I⟩=false:=fun i=>Zzo w2 _ _ i
  have hqW:w2.heap.size<(w2.alloc (J #[B C z.first.off,B C z.first.sv,D z.first.nm] 23)).heap.size:=by simp
  have HF0:=Hh f0
  generalize (w2.alloc (J #[B C z.first.off,B C z.first.sv,D z.first.nm] 23))=W at *
  obtain ⟨q,hq⟩:∃ q,q=w2.heap.size:=⟨_,rfl⟩
  have x4:W.cell? ⟨w.heap.size,4,I⟩=some (E AT z.table.length cT):=(hbW.cell (p:=⟨w.heap.size,4,I⟩) hsz2).trans (Z2.out 4 _ rfl)
  rw [←hq] at q0 q1 q2 HF0 hqW ⊢
  have hq2:w2.heap.size≤q:=Nat.le_of_eq hq.symm
  clear f0 x1 x2 x3 hq
  go_loopw [3,5] (fun v3 i wr=>∃ (k:Nat) (a:Int) (b:Typ),k≤z.table.length∧i=B C k∧v3=B C a∧Below w2.heap.size w2 wr∧q<wr.heap.size∧wr.cell? ⟨q,0,I⟩=some (B C b.off)∧wr.cell? ⟨q,1,I⟩=some (B C b.sv)∧wr.cell? ⟨q,2,I⟩=some (D b.nm)∧Hid (∀ i,wr.frozen? ⟨q,i,I⟩=false)∧Hid (tabB (-62135596800) z.first z.table=tabB a b (z.table.drop k))) (fun _ i _=>z.table.length-(intOf i).toNat)
  case atStart=>exact ⟨0,_,z.first,Nat.zero_le _,rfl,rfl,hbW,hqW,q0,q1,q2,HF0,Hh rfl⟩
  case round =>
   obtain ⟨k,a,b,hk,rfl,rfl,hbr,hqr,p0,p1,p2,HFz,HTB⟩:=hrel
   have hbr0:Below w.heap.size w wr:=hB2.trans (hbr.mono (Nat.le_of_lt hsz2))
   have hszr:w.heap.size<wr.heap.size:=nLl hsz2 hbr.size
   have yx4:wr.cell? ⟨w.heap.size,4,I⟩=some (E AT z.table.length cT):=(hbr.cell (p:=⟨w.heap.size,4,I⟩) hsz2).trans (Z2.out 4 _ rfl)
   by_cases hlt:k<z.table.length
   ·obtain ⟨gT,oT,hAT,hgT,hcT⟩:∃ gT oT,AT=some ⟨gT,oT,I⟩∧gT<wr.heap.size∧∀ i u,(Trn.cells z.table[k]!)[i]? = some u→wr.cell? ⟨gT,oT+k*4+i,I⟩=some u:=by
     rcases HTT.out.on hbr0 with ⟨e,_⟩|⟨gT,oT,c',hv,hgT,hcT⟩
     ·rw [e] at hlt;simp at hlt
     injection hv with e1 _ _
     exact ⟨gT,oT,e1,hgT,fun i u hu=>hcT k hlt i u hu⟩
    subst hAT
    have e0:=hcT 0 _ rfl
    have e1:=hcT 1 _ rfl
    have e2:=hcT 2 _ rfl
    have e3:=hcT 3 _ rfl
    rw [Nat.add_zero] at e0
    have htab:=Zz60 (a:=a) (b:=b) hlt
    generalize z.table[k]! = x at *
    obtain ⟨xa,xt⟩:=x
    dsimp only at *
    have HTX:=Hh (fun W=>Zz4d xt W)
    have hq0:Below wr.heap.size wr (wr.alloc (J #[B C xa,B C xt.off,B C xt.sv,D xt.nm] 57)):=Zz6 _ _
    have HYC:=Hh (Zz2 wr [B C xa,B C xt.off,B C xt.sv,D xt.nm] 57)
    have hne:=fun W=>eqTy xt b W
    have hgd:=gdTy
    have HR:=Hh (htab.symm.trans HTB.out.symm)
    clear hcT htab
    by_cases h1:a<xa
    ·have d1:decide (xa≤a)=false:=dFf (by omega)
     by_cases h2:xa<253402300800
     ·have d2:decide (253402300800≤xa)=false:=dFf (by omega)
      cases h3:typB xt
      ·skip
       rw [h3] at HTX
       clear h3
       go_wp2_with (go_at_call 98;refine (HTX.out _).mono ?_;rintro e w5 ⟨rfl,hb5⟩;have hz5:wr.heap.size+1≤w5.heap.size:=(by have:=hb5.size;simp at this;omega);have hq5:Below wr.heap.size wr w5:=hq0.trans (hb5.mono (by simp));have y0:w5.cell? ⟨wr.heap.size,0,I⟩=some (B C xa):=(hb5.cell (p:=⟨wr.heap.size,0,I⟩) (by simp)).trans (HYC.out 0 _ rfl);have y1:w5.cell? ⟨wr.heap.size,1,I⟩=some (B C xt.off):=(hb5.cell (p:=⟨wr.heap.size,1,I⟩) (by simp)).trans (HYC.out 1 _ rfl);have y2:w5.cell? ⟨wr.heap.size,2,I⟩=some (B C xt.sv):=(hb5.cell (p:=⟨wr.heap.size,2,I⟩) (by simp)).trans (HYC.out 2 _ rfl);have y3:w5.cell? ⟨wr.heap.size,3,I⟩=some (D xt.nm):=(hb5.cell (p:=⟨wr.heap.size,3,I⟩) (by simp)).trans (HYC.out 3 _ rfl);have r0:=(hq5.cell (p:=⟨q,0,I⟩) hqr).trans p0;have r1:=(hq5.cell (p:=⟨q,1,I⟩) hqr).trans p1;have r2:=(hq5.cell (p:=⟨q,2,I⟩) hqr).trans p2;have rf:=fun i=>(hq5.frozen (p:=⟨q,i,I⟩) hqr).trans (HFz.out i))
       go_ret
       exact ⟨false,rfl,fun h=>absurd h (by decide),hbr0.trans (hq5.mono (Nat.le_of_lt hszr))⟩
      rw [h3] at HTX
      by_cases h4:xt=b
      ·skip
       have dx:decide (xt=b)=true:=dTt h4
       clear h3 h4
       go_wp2_with (go_at_call 98;refine (HTX.out _).mono ?_;rintro e w5 ⟨rfl,hb5⟩;have hz5:wr.heap.size+1≤w5.heap.size:=(by have:=hb5.size;simp at this;omega);have hq5:Below wr.heap.size wr w5:=hq0.trans (hb5.mono (by simp));have y0:w5.cell? ⟨wr.heap.size,0,I⟩=some (B C xa):=(hb5.cell (p:=⟨wr.heap.size,0,I⟩) (by simp)).trans (HYC.out 0 _ rfl);have y1:w5.cell? ⟨wr.heap.size,1,I⟩=some (B C xt.off):=(hb5.cell (p:=⟨wr.heap.size,1,I⟩) (by simp)).trans (HYC.out 1 _ rfl);have y2:w5.cell? ⟨wr.heap.size,2,I⟩=some (B C xt.sv):=(hb5.cell (p:=⟨wr.heap.size,2,I⟩) (by simp)).trans (HYC.out 2 _ rfl);have y3:w5.cell? ⟨wr.heap.size,3,I⟩=some (D xt.nm):=(hb5.cell (p:=⟨wr.heap.size,3,I⟩) (by simp)).trans (HYC.out 3 _ rfl);have r0:=(hq5.cell (p:=⟨q,0,I⟩) hqr).trans p0;have r1:=(hq5.cell (p:=⟨q,1,I⟩) hqr).trans p1;have r2:=(hq5.cell (p:=⟨q,2,I⟩) hqr).trans p2;have rf:=fun i=>(hq5.frozen (p:=⟨q,i,I⟩) hqr).trans (HFz.out i))
       go_ret
       exact ⟨false,rfl,fun h=>absurd h (by decide),hbr0.trans (hq5.mono (Nat.le_of_lt hszr))⟩
      have HR2:=Hh (show tabB (-62135596800) z.first z.table=tabB xa xt (z.table.drop (k+1)) by rw [←HR.out,dTt h1,dTt h2,h3,dTt (show xt≠b from h4)];rfl)
      have dx:decide (xt=b)=false:=dFf h4
      clear h3 h4
      go_wp2_with (go_at_call 98;refine (HTX.out _).mono ?_;rintro e w5 ⟨rfl,hb5⟩;have hz5:wr.heap.size+1≤w5.heap.size:=(by have:=hb5.size;simp at this;omega);have hq5:Below wr.heap.size wr w5:=hq0.trans (hb5.mono (by simp));have y0:w5.cell? ⟨wr.heap.size,0,I⟩=some (B C xa):=(hb5.cell (p:=⟨wr.heap.size,0,I⟩) (by simp)).trans (HYC.out 0 _ rfl);have y1:w5.cell? ⟨wr.heap.size,1,I⟩=some (B C xt.off):=(hb5.cell (p:=⟨wr.heap.size,1,I⟩) (by simp)).trans (HYC.out 1 _ rfl);have y2:w5.cell? ⟨wr.heap.size,2,I⟩=some (B C xt.sv):=(hb5.cell (p:=⟨wr.heap.size,2,I⟩) (by simp)).trans (HYC.out 2 _ rfl);have y3:w5.cell? ⟨wr.heap.size,3,I⟩=some (D xt.nm):=(hb5.cell (p:=⟨wr.heap.size,3,I⟩) (by simp)).trans (HYC.out 3 _ rfl);have r0:=(hq5.cell (p:=⟨q,0,I⟩) hqr).trans p0;have r1:=(hq5.cell (p:=⟨q,1,I⟩) hqr).trans p1;have r2:=(hq5.cell (p:=⟨q,2,I⟩) hqr).trans p2;have rf:=fun i=>(hq5.frozen (p:=⟨q,i,I⟩) hqr).trans (HFz.out i))
      have hs:=set3 r0 r1 r2 (B C xt.off) (B C xt.sv) (D xt.nm)
      have hb:=Zze (hbr.trans (hq5.mono hbr.size)) hq2 (B C xt.off) (B C xt.sv) (D xt.nm)
      have hsz:q<(((w5.setCell ⟨q,0,I⟩ (B C xt.off)).setCell ⟨q,1,I⟩ (B C xt.sv)).setCell ⟨q,2,I⟩ (D xt.nm)).heap.size:=by simp;omega
      go_roundw
      case rel=>exact ⟨k+1,xa,xt,by omega,by go_num,rfl,hb,hsz,hs.1,hs.2.1,hs.2.2,Hh (ZzP rf _ _ _),HR2⟩
      case measure=>simp [intOf];omega
     have d2:decide (253402300800≤xa)=true:=dTt (by omega)
     go_wp2
     go_ret
     exact ⟨false,rfl,fun h=>absurd h (by decide),hbr0.trans (hq0.mono (Nat.le_of_lt hszr))⟩
    have d1:decide (xa≤a)=true:=dTt (by omega)
    go_wp2
    go_ret
    exact ⟨false,rfl,fun h=>absurd h (by decide),hbr0.trans (hq0.mono (Nat.le_of_lt hszr))⟩
   have hk':k=z.table.length:=by omega
   subst hk'
   have ht1:tabB (-62135596800) z.first z.table=true:=by rw [HTB.out,List.drop_length];rfl
   have HBF:=Hh (HBV.out ht1)
   have zx:=fun i u h=>(hbr.cell (p:=⟨w.heap.size,i,I⟩) hsz2).trans (Z2.out i u h)
   have zc0:=zx 0 _ rfl
   have zc1:=zx 1 _ rfl
   have zc2:=zx 2 _ rfl
   have zc3:=zx 3 _ rfl
   have zc5:=zx 5 _ rfl
   have zc6:=zx 6 _ rfl
   have zc7:=zx 7 _ rfl
   have zc8:=zx 8 _ rfl
   have HTL:=Hh (r22_tail z _ _ wr hl1 hll (HTT.out.on hbr0) (HRR.out.on hbr0) hfs (HHD.out ht1))
   unfold Zn.v at HTL
   clear zx ht1
   go_wp2_with (go_at_call 99;refine HTL.out.mono ?_;rintro e w6 ⟨b6,rfl,hg6,hb6⟩)
   go_ret
   exact ⟨b6,rfl,fun h=>HBF.out (hg6 h),hbr0.trans (hb6.mono (Nat.le_of_lt hszr))⟩
 skip
 have hd:decide ((1000:Int)<(z.table.length:Int))=true:=dTt (by omega)
 clear hn hV hH ht
 unfold Zn.v
 go_enter Tryz.func63,Tryz.ntmps63
 go_wp2_with (first|(go_at_call 97;refine (HN.out _).mono ?_;rintro e w1 ⟨rfl,rfl⟩)|(go_at_call 98;refine (HY.out _).mono ?_;rintro e w2 ⟨rfl,hb2⟩;have x4:=(hb2.cell (p:=⟨w.heap.size,4,I⟩) hszz).trans (HZC.out 4 _ rfl)))
 go_ret
 exact ⟨false,rfl,fun h=>absurd h (by decide),HBZ.out.trans (hb2.mono (Nat.le_of_lt hszz))⟩
end Go.Proofs.YtmmgdjgcikbhbaaGreat

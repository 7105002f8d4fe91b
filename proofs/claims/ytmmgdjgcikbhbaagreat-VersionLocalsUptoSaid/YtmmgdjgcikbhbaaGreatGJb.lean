/- Joined by merge.py: Ref23a, Ref23b, Ref23c. -/
import Derived.Test.YtmmgdjgcikbhbaaGreatGJa
/- The reference of layer 23: Pieces. Printed by gen_ref23a.py. -/
open Go.Value renaming int → B, string → D, slice → E
open Go.IntKind renaming i64 → C
open Option renaming none → F
open Go.Obj renaming cells → G
namespace Go.Proofs.YtmmgdjgcikbhbaaGreat
set_option linter.unusedSimpArgs false
set_option linter.unusedVariables false
open Go.ChangeShapes Go.WideShapes Go.ChangeAt Go.RowKit
def encPc (p:Piece):List Value:=[B C p.fr,B C p.to,B C p.off]
theorem encPc_len (p:Piece):(encPc p).length=3:=rfl
theorem Zz6q (p:Piece):∀ v∈encPc p,v.oneCell'=true:=by
 intro v hv
 simp [encPc] at hv
 rcases hv with rfl|rfl|rfl <;> rfl
theorem infoPc:(Tryz.prog.info? 159).map (fun i=>(i.zero,i.size,i.bytes))=some (some (.agg #[B C 0,B C 0,B C 0]),3,24):=by kernel_rfl
theorem fldTy (a b:Int) (s:ByteArray) (w:World):(Instr.field 23 (.agg #[B C a,B C b,D s]) 0).run Tryz.prog w=.ok (B C a) w:=by kernel_rfl
set_option maxRecDepth 100000 in
set_option maxHeartbeats 1000000 in
theorem Zz57 (z:Zn) (vT vR:Value) (a b:Int) (w:World) (hT:Rd Trn.cells 4 w vT z.table) (hR:Rd Rule.cells 11 w vR z.tail) (hfs:z.form.size≤2000000) (hll:z.tail.length≤12) (hl:z.table.length≤1000) (hv:z.valid=true) (h1 : -62135596800≤a) (h2:a<b) (h3:b≤253402300800) (hab:b-a≤3000000000) (hcnt:(z.betF (cutA a) (cutB b)).length≤1000) :
  Calls Tryz.prog 114 #[z.v vT vR,.agg #[B C a,B C b]] w fun e w'=>∃ v,e=.returned v∧Rd encPc 3 w' v (z.pieces (cutA a) (cutB b))∧Below w.heap.size w w':=by
 obtain ⟨Aa,hAa⟩:∃ Aa,max (-62135596800) (a-187200)=Aa:=⟨_,rfl⟩
 obtain ⟨Bb,hBb⟩:∃ Bb,min 253402300800 (b+187200)=Bb:=⟨_,rfl⟩
 have hcA:cutA a=Aa:=hAa
 have hcB:cutB b=Bb:=hBb
 rw [hcA,hcB] at hcnt ⊢
 have hsp:spanV Aa Bb=true:=by unfold spanV;simp;omega
 have HBT:=Hh (fun W (hb:Below w.heap.size w W)=>Zz3K z vT vR Aa Bb W (hT.on hb) (hR.on hb) hfs hll hl hv hsp (by omega) hcnt)
 have HAT:=Hh (fun W (hb:Below w.heap.size w W)=>r22_At z vT vR Aa W (hT.on hb) (hR.on hb) hfs hll hl hv (by omega) (by omega))
 have HPC:=Hh (show z.pieces Aa Bb=piecesF Bb Aa (z.offF Aa) ((z.betF Aa Bb).drop 0) by unfold Zn.pieces;rw [if_pos (by omega)];rfl)
 have HLO:=Hh (show ∀ j,j<(z.betF Aa Bb).length→Aa≤((z.betF Aa Bb)[j]!).at_ from fun j hj=>by rw [getElem!_pos _ j hj];exact (ZzM _ (List.getElem_mem hj)).1)
 have HASC:=Hh (Zz10 hv Aa Bb)
 have htF:(z.typF Aa).off=z.offF Aa:=rfl
 rw [htF] at HAT
 generalize (z.typF Aa).sv=tsv at *
 generalize (z.typF Aa).nm=tnm at *
 generalize z.offF Aa=o0 at *
 obtain ⟨i0,hi0,hz0,hz1,hz2⟩:=info_parts infoPc
 obtain ⟨AT,cT,rfl⟩:=Zzb hT
 obtain ⟨AR,cR,rfl⟩:=Zzb hR
 have kz:=((Blk.new w #[D z.nm,B C z.first.off,B C z.first.sv,D z.first.nm,E AT z.table.length cT,E AR z.tail.length cR,B C z.off,D z.form,B C z.year] 27).alloc (G #[B C a,B C b] 29)).alloc (G #[B C Aa,B C Bb] 29)
 have ki:=Blk.new ((w.alloc (G #[D z.nm,B C z.first.off,B C z.first.sv,D z.first.nm,E AT z.table.length cT,E AR z.tail.length cR,B C z.off,D z.form,B C z.year] 27)).alloc (G #[B C a,B C b] 29)) #[B C Aa,B C Bb] 29
 simp only [World.size_alloc] at ki
 have hB0:Below w.heap.size w (((w.alloc (G #[D z.nm,B C z.first.off,B C z.first.sv,D z.first.nm,E AT z.table.length cT,E AR z.tail.length cR,B C z.off,D z.form,B C z.year] 27)).alloc (G #[B C a,B C b] 29)).alloc (G #[B C Aa,B C Bb] 29)):=((bLR.alloc nlR _).alloc (by simp) _).alloc (by simp;omega) _
 have HAa:=Hh hAa
 have HBb:=Hh hBb
 have hAB : -62135596800≤Aa∧Aa<Bb∧Bb≤253402300800:=by omega
 clear hT hR hv hsp hfs hcA hcB htF hAa hBb
 unfold Zn.v at HBT HAT ⊢
 go_enter Tryz.func114,Tryz.ntmps114
 go_wp2_with fail
 rw [HAa.out,HBb.out]
 generalize ((w.alloc (G #[D z.nm,B C z.first.off,B C z.first.sv,D z.first.nm,E AT z.table.length cT,E AR z.tail.length cR,B C z.off,D z.form,B C z.year] 27)).alloc (G #[B C a,B C b] 29)).alloc (G #[B C Aa,B C Bb] 29)=W0 at *
 have x0:=kz.cl 0 _ rfl
 have x1:=kz.cl 1 _ rfl
 have x2:=kz.cl 2 _ rfl
 have x3:=kz.cl 3 _ rfl
 have x4:=kz.cl 4 _ rfl
 have x5:=kz.cl 5 _ rfl
 have x6:=kz.cl 6 _ rfl
 have x7:=kz.cl 7 _ rfl
 have x8:=kz.cl 8 _ rfl
 have y0:=ki.cl 0 _ rfl
 have y1:=ki.cl 1 _ rfl
 go_wp2_with fail
 refine (HBT.out _ hB0).mono ?_
 rintro e w2 ⟨v2,rfl,r2,hb2⟩
 have hB2:=hB0.trans (hb2.mono hB0.size)
 have R2:=Hh r2
 have KZ:=Hh (kz.below hb2 kz.lt)
 have KI:=Hh (ki.below hb2 ki.lt)
 obtain ⟨A2,c2,rfl⟩:=Zzb r2
 clear x0 x1 x2 x3 x4 x5 x6 x7 x8 y0 y1 kz ki r2 hb2 hB0 HBT
 have kz:=KZ.out
 have ki:=KI.out
 have x0:=kz.cl 0 _ rfl
 have x1:=kz.cl 1 _ rfl
 have x2:=kz.cl 2 _ rfl
 have x3:=kz.cl 3 _ rfl
 have x4:=kz.cl 4 _ rfl
 have x5:=kz.cl 5 _ rfl
 have x6:=kz.cl 6 _ rfl
 have x7:=kz.cl 7 _ rfl
 have x8:=kz.cl 8 _ rfl
 have y0:=ki.cl 0 _ rfl
 have pz0:∀ q:Bel w2.heap.size w2,q.w1.cell? ⟨w.heap.size,0,F⟩=some (D z.nm):=fun q=>(Zzi q _ _ kz.lt).trans x0
 have pz1:∀ q:Bel w2.heap.size w2,q.w1.cell? ⟨w.heap.size,1,F⟩=some (B C z.first.off):=fun q=>(Zzi q _ _ kz.lt).trans x1
 have pz2:∀ q:Bel w2.heap.size w2,q.w1.cell? ⟨w.heap.size,2,F⟩=some (B C z.first.sv):=fun q=>(Zzi q _ _ kz.lt).trans x2
 have pz3:∀ q:Bel w2.heap.size w2,q.w1.cell? ⟨w.heap.size,3,F⟩=some (D z.first.nm):=fun q=>(Zzi q _ _ kz.lt).trans x3
 have pz4:∀ q:Bel w2.heap.size w2,q.w1.cell? ⟨w.heap.size,4,F⟩=some (E AT z.table.length cT):=fun q=>(Zzi q _ _ kz.lt).trans x4
 have pz5:∀ q:Bel w2.heap.size w2,q.w1.cell? ⟨w.heap.size,5,F⟩=some (E AR z.tail.length cR):=fun q=>(Zzi q _ _ kz.lt).trans x5
 have pz6:∀ q:Bel w2.heap.size w2,q.w1.cell? ⟨w.heap.size,6,F⟩=some (B C z.off):=fun q=>(Zzi q _ _ kz.lt).trans x6
 have pz7:∀ q:Bel w2.heap.size w2,q.w1.cell? ⟨w.heap.size,7,F⟩=some (D z.form):=fun q=>(Zzi q _ _ kz.lt).trans x7
 have pz8:∀ q:Bel w2.heap.size w2,q.w1.cell? ⟨w.heap.size,8,F⟩=some (B C z.year):=fun q=>(Zzi q _ _ kz.lt).trans x8
 have py:∀ q:Bel w2.heap.size w2,q.w1.cell? ⟨w.heap.size+1+1,0,F⟩=some (B C Aa):=fun q=>(Zzi q _ _ ki.lt).trans y0
 generalize z.betF Aa Bb=L at *
 have hfd:=fun W=>fldTy o0 tsv tnm W
 go_wp2_with fail
 refine Zzr (by kernel_rfl) (by kernel_rfl) ?_
 repeat (go_big_quiet_step ((go_at_call 32;exact bel_of nlR (HAT.out _ (hB2.trans ((Bel.h _).mono hB2.size))))))
 refine wpQuiet_nil ?_
 intro w3 hw3
 obtain ⟨⟨w3,hb3⟩,hw'⟩:=hw3
 subst hw'
 have hB3:=hB2.trans (hb3.mono hB2.size)
 have R3:=Hh (R2.out.on hb3)
 have KI:=Hh (KI.out.below hb3 KI.out.lt)
 clear hfd x0 x1 x2 x3 x4 x5 x6 x7 x8 y0 pz0 pz1 pz2 pz3 pz4 pz5 pz6 pz7 pz8 py kz ki R2 KZ HAT hb3
 go_wp2_with fail
 go_loopw [9,10,11,12] (fun v9 v10 v11 vi wr=>∃ (k:Nat) (f o:Int) (O:List Piece),k≤L.length∧vi=B C k∧v9=B C f∧v10=B C o∧Hid (∀ j,k≤j→j<L.length→f≤(L[j]!).at_)∧O.length≤k∧wr.ownsRow w3.heap.size 159 3 v11 O.length (O.flatMap encPc)∧Below w3.heap.size w3 wr∧Hid (z.pieces Aa Bb=O++piecesF Bb f o (L.drop k))) (fun _ _ _ vi _=>L.length-(intOf vi).toNat)
 case atStart=>exact ⟨0,Aa,o0,[],Nat.zero_le _,rfl,rfl,rfl,Hh (fun j _ hj=>HLO.out j hj),Nat.le_refl _,⟨rfl,.inl ⟨rfl,rfl⟩⟩,Below.refl _ _,Hh HPC.out⟩
 case round =>
  obtain ⟨k,f,o,O,hk,rfl,rfl,rfl,HJ,hOk,hown,hbr,HP⟩:=hrel
  have HOW:=Hh hown
  have hsz:=hbr.size
  by_cases hlt:k<L.length
  ·obtain ⟨gx,ox,hAx,hgx,hcx⟩:=rd_blkT R3.out (by omega)
   obtain ⟨e0,e1,_,_⟩:=hcx wr hbr k hlt
   have hne:u11.ownBlock≠some gx:=Zz4O hown hgx
   have hgr:gx<wr.heap.size:=nLl hgx hsz
   have HJ2:=Hh (show ∀ j,k+1≤j→j<L.length→(L[k]!).at_≤(L[j]!).at_ from fun j h1 h2=>by
    rw [getElem!_pos L k hlt,getElem!_pos L j h2]
    exact Int.le_of_lt (List.pairwise_iff_getElem.1 HASC.out k j hlt h2 (by omega)))
   have hfx:=HJ.out k nlR hlt
   have HST:=Hh (Zz7C (b:=Bb) (o:=o) hlt hfx)
   generalize L[k]! = x at *
   obtain ⟨xa,xt⟩:=x
   dsimp only at e0 e1 hfx
   subst hAx
   clear hcx hown HJ
   by_cases hlx:f<xa
   ·have d1:decide (f<xa)=true:=dTt hlx
    have HP2:=Hh (show z.pieces Aa Bb=(O++[⟨f,xa,o⟩])++piecesF Bb xa xt.off (L.drop (k+1)) by rw [HP.out,HST.out,if_pos hlx,List.append_assoc])
    clear HP HST
    go_wp2_with (at_builtin;refine wpList_append_own _ rfl _ _ _ rfl w3.heap.size 159 i0 _ 3 24 Tryz.underlying155 hi0 hz0 hz1 hz2 rfl (by decide) _ _ _ rfl (HOW.out.alloc _) ⟨_,0,F⟩ 1 1 (encPc ⟨f,xa,o⟩) rfl rfl (Zz5 (by simp) _) (Zz6q _) (by simp only [maxLen];omega) (by omega) (by simp;omega) ?_;intro v' w4 hown4 hg4 _;have d0:=hg4.cell (Lib.cell?_alloc_some _ e0) (fun e=>hne e.symm);have d2:=hg4.cell (Lib.cell?_alloc_some _ e1) (fun e=>hne e.symm))
    have hB9:Below w3.heap.size w3 w4:=Zz3 HOW.out nlR (hbr.alloc hbr.size _) hg4
    have HO9:=Hh (Zzp (es:=O) (x:=(⟨f,xa,o⟩:Piece)) hown4)
    have hgr4:gx<w4.heap.size:=nLl hgx hB9.size
    clear e0 e1 hown4 hg4
    go_quiet (fail)
    have hd3:Below w4.heap.size w4 (w4.drewN nq):=Zz1 bLR nq
    have HO5:=Hh (Zz8 HO9.out hd3)
    have hB5:=hB9.trans (hd3.mono hB9.size)
    go_wp2
    go_roundw
    case rel=>exact ⟨k+1,xa,xt.off,O++[⟨f,xa,o⟩],by omega,by go_num,rfl,rfl,HJ2,by rw [List.length_append,List.length_singleton];omega,HO5.out,hB5,HP2⟩
    case measure=>simp [intOf];omega
   have d1:decide (f<xa)=false:=dFf hlx
   have HP2:=Hh (show z.pieces Aa Bb=O++piecesF Bb xa xt.off (L.drop (k+1)) by rw [HP.out,HST.out,if_neg hlx,List.nil_append])
   clear HP HST
   go_wp2_with fail
   go_quiet (fail)
   have hd3:Below wr.heap.size wr (wr.drewN nq):=Zz1 bLR nq
   have HO5:=Hh (Zz8 HOW.out hd3)
   have hB5:=hbr.trans (hd3.mono hbr.size)
   go_wp2
   go_roundw
   case rel=>exact ⟨k+1,xa,xt.off,O,by omega,by go_num,rfl,rfl,HJ2,by omega,HO5.out,hB5,HP2⟩
   case measure=>simp [intOf];omega
  have hke:k=L.length:=by omega
  subst hke
  have HP2:=Hh (show z.pieces Aa Bb=O++[⟨f,Bb,o⟩] by rw [HP.out,pieces_fin])
  have ki:=KI.out.below hbr KI.out.lt
  have y1:=ki.cl 1 _ rfl
  clear HP hown HJ ki
  go_wp2_with (at_builtin;refine wpList_append_own _ rfl _ _ _ rfl w3.heap.size 159 i0 _ 3 24 Tryz.underlying155 hi0 hz0 hz1 hz2 rfl (by decide) _ _ _ rfl (HOW.out.alloc _) ⟨_,0,F⟩ 1 1 (encPc ⟨f,Bb,o⟩) rfl rfl (Zz5 (by simp) _) (Zz6q _) (by simp only [maxLen];omega) (by omega) (by simp;omega) ?_;intro v' w4 hown4 hg4 _)
  have hB9:Below w3.heap.size w3 w4:=Zz3 HOW.out nlR (hbr.alloc hbr.size _) hg4
  have HO9:=Hh (Zzp (es:=O) (x:=(⟨f,Bb,o⟩:Piece)) hown4)
  clear hown4
  go_ret
  exact ⟨_,rfl,by rw [HP2.out];exact Zz7 encPc_len HO9.out rfl,hB3.trans (hB9.mono hB3.size)⟩
/- The reference of layer 23: sorted, Instants, skipping, Valid, Local. Printed by gen_ref23b.py. -/
theorem Zz5a {w:World} {A:Option Addr} {n c:Nat} {es:List Int} (h:Rd encW1 1 w (E A n c) es) (h0:0<es.length):∃ g off,A=some ⟨g,off,F⟩∧g<w.heap.size∧∀ W,Below w.heap.size w W→∀ j,j<es.length→W.cell? ⟨g,off+j,F⟩=some (B C es[j]!):=by
 rcases h with ⟨h1,_⟩|⟨g,off,c',hv,hg,hc⟩
 ·rw [h1] at h0;cases h0
 injection hv with hv1 _ _
 refine ⟨g,off,hv1,hg,fun W hb j hj=>?_⟩
 have:=hc j hj 0 _ rfl
 rw [Nat.add_zero,Nat.mul_one] at this
 exact (hb.cell (p:=⟨g,off+j,F⟩) hg).trans this
theorem rd_blkP {w:World} {A:Option Addr} {n c:Nat} {es:List Piece} (h:Rd encPc 3 w (E A n c) es) (h0:0<es.length):∃ g off,A=some ⟨g,off,F⟩∧g<w.heap.size∧∀ W,Below w.heap.size w W→∀ j,j<es.length→W.cell? ⟨g,off+j*3,F⟩=some (B C (es[j]!).fr)∧W.cell? ⟨g,off+j*3+1,F⟩=some (B C (es[j]!).to)∧W.cell? ⟨g,off+j*3+2,F⟩=some (B C (es[j]!).off):=by
 rcases h with ⟨h1,_⟩|⟨g,off,c',hv,hg,hc⟩
 ·rw [h1] at h0;cases h0
 injection hv with hv1 _ _
 refine ⟨g,off,hv1,hg,fun W hb j hj=>?_⟩
 have c0:=hc j hj 0 _ rfl
 rw [Nat.add_zero] at c0
 exact ⟨(hb.cell (p:=⟨g,off+j*3,F⟩) hg).trans c0,(hb.cell (p:=⟨g,off+j*3+1,F⟩) hg).trans (hc j hj 1 _ rfl),(hb.cell (p:=⟨g,off+j*3+2,F⟩) hg).trans (hc j hj 2 _ rfl)⟩
set_option maxRecDepth 100000 in
set_option maxHeartbeats 1000000 in
theorem r23_sorted (L:List Int) (v:Value) (w:World) (hA:L.Pairwise (· < ·)) (hl:L.length≤100000) (hR:Rd encW1 1 w v L) :
  Calls Tryz.prog 167 #[v] w fun e w'=>e=.returned v∧Below w.heap.size w w':=by
 have HA:=Hh hA
 have HR:=Hh hR
 obtain ⟨A,c,rfl⟩:=Zzb hR
 clear hA hR
 go_enter Tryz.func167,Tryz.ntmps167
 go_wp2
 go_loopw [3] (fun v3 wr=>∃ j:Nat,(j=0∨j<L.length)∧v3=B C ((j:Int)+1)∧Below w.heap.size w wr) (fun v3 _=>L.length-(intOf v3).toNat)
 case atStart=>exact ⟨0,.inl rfl,rfl,Below.refl _ _⟩
 case round =>
  obtain ⟨j,hj,rfl,hbr⟩:=hrel
  by_cases hlt:(j:Int)+1<(L.length:Int)
  ·obtain ⟨g,off,hAx,hg,hc⟩:=Zz5a HR.out (by omega)
   have e0:=hc wr hbr j (by omega)
   have e1:=hc wr hbr (j+1) (by omega)
   have hgr:=nLl hg hbr.size
   have hlo:L[j]! < L[j+1]! := by
    rw [getElem!_pos L j (by omega),getElem!_pos L (j+1) (by omega)]
    exact List.pairwise_iff_getElem.1 HA.out j (j+1) (by omega) (by omega) (by omega)
   generalize L[j]! = x at *
   generalize L[j+1]! = y at *
   have d1:decide (y<x)=false:=dFf (by omega)
   have d0:decide ((0:Int)<(j:Int)+1)=true:=dTt (by omega)
   have hwj:IntKind.i64.wrap ((j:Int)+1-1)=(j:Int):=by rw [IntKind.wrap_i64];omega
   have hidx0:(0:Int)≤(j:Int)+1:=by omega
   have hidx1:((j:Int)+1).toNat=j+1:=by omega
   subst hAx
   clear hc
   go_wp2_with fail
   refine wp_loop_rounds 1 ?_
   rw [rounds_succ]
   go_wp2_with fail
   go_quiet (fail)
   have hd3:Below wr.heap.size wr (wr.drewN nq):=Zz1 bLR nq
   have hB5:=hbr.trans (hd3.mono hbr.size)
   clear hwj hidx0 hidx1 d0 d1 e0 e1
   go_wp2
   go_roundw
   case rel=>exact ⟨j+1,.inr (by omega),by go_num,hB5⟩
   case measure=>simp [intOf];omega
  go_wp2
  go_ret
  exact ⟨rfl,hbr⟩
set_option maxRecDepth 100000 in
set_option maxHeartbeats 1000000 in
theorem Zz5W (z:Zn) (vT vR:Value) (l:Int) (w:World) (hT:Rd Trn.cells 4 w vT z.table) (hR:Rd Rule.cells 11 w vR z.tail) (hfs:z.form.size≤2000000) (hll:z.tail.length≤12) (hl:z.table.length≤1000) (hv:z.valid=true) (h1 : -62135596800≤l) (h2:l<253402300800) (hcnt:(z.betF (cutA l) (cutB (l+1))).length≤1000) :
  Calls Tryz.prog 113 #[z.v vT vR,B C l] w fun e w'=>∃ v,e=.returned v∧Rd encW1 1 w' v (z.insts l)∧Below w.heap.size w w':=by
 have HPI:=Hh (fun W (hb:Below w.heap.size w W)=>Zz57 z vT vR l (l+1) W (hT.on hb) (hR.on hb) hfs hll hl hv h1 (by omega) (by omega) (by omega) hcnt)
 have HIW:=Hh (Zz6H hv l)
 have HIA:=Hh (Zz2J hv l)
 have hpl:(z.pieces (cutA l) (cutB (l+1))).length≤1001:=by
  unfold Zn.pieces
  split
  ·have:=Zz1r (b:=cutB (l+1)) (f:=cutA l) (o:=z.offF (cutA l)) (l:=z.betF (cutA l) (cutB (l+1)))
   omega
  simp
 have HOF:=Hh (show ∀ p∈z.pieces (cutA l) (cutB (l+1)),(-93600<p.off∧p.off<93600) from fun p hp=>by
  have ok:=Zz1s hv (cutA l) (cutB (l+1))
  have hb:=ok.bd p hp
  rw [←ok.off p hp p.fr (by omega) (by omega)]
  exact Zz17 hv p.fr)
 generalize z.pieces (cutA l) (cutB (l+1))=P at *
 generalize z.insts l=IN at *
 obtain ⟨i0,hi0,hz0,hz1,hz2⟩:=info_parts infoI
 obtain ⟨AT,cT,rfl⟩:=Zzb hT
 obtain ⟨AR,cR,rfl⟩:=Zzb hR
 have kz:=Blk.new w #[D z.nm,B C z.first.off,B C z.first.sv,D z.first.nm,E AT z.table.length cT,E AR z.tail.length cR,B C z.off,D z.form,B C z.year] 27
 have hB0:Below w.heap.size w (w.alloc (G #[D z.nm,B C z.first.off,B C z.first.sv,D z.first.nm,E AT z.table.length cT,E AR z.tail.length cR,B C z.off,D z.form,B C z.year] 27)):=bLR.alloc nlR _
 clear hT hR hv hfs hcnt
 unfold Zn.v at HPI ⊢
 go_enter Tryz.func113,Tryz.ntmps113
 go_wp2_with fail
 generalize w.alloc (G #[D z.nm,B C z.first.off,B C z.first.sv,D z.first.nm,E AT z.table.length cT,E AR z.tail.length cR,B C z.off,D z.form,B C z.year] 27)=W0 at *
 refine (HPI.out _ hB0).mono ?_
 rintro e w2 ⟨v2,rfl,r2,hb2⟩
 have hB2:=hB0.trans (hb2.mono hB0.size)
 have R2:=Hh r2
 obtain ⟨A2,c2,rfl⟩:=Zzb r2
 clear kz r2 hb2 hB0 HPI
 go_wp2_with fail
 go_loopw [5,7,8] (fun v5 vi _ wr=>∃ k:Nat,k≤P.length∧vi=B C k∧wr.ownsRow w2.heap.size 3 1 v5 (instF l (P.take k)).length ((instF l (P.take k)).flatMap encW1)∧Below w2.heap.size w2 wr) (fun _ vi _ _=>P.length-(intOf vi).toNat)
 case atStart=>exact ⟨0,Nat.zero_le _,rfl,⟨rfl,.inl ⟨rfl,rfl⟩⟩,Below.refl _ _⟩
 case round =>
  obtain ⟨k,hk,rfl,hown,hbr⟩:=hrel
  have HOW:=Hh hown
  have hsz:=hbr.size
  by_cases hlt:k<P.length
  ·obtain ⟨gx,ox,hAx,hgx,hcx⟩:=rd_blkP R2.out (by omega)
   obtain ⟨e0,e1,e2⟩:=hcx wr hbr k hlt
   have hgr:gx<wr.heap.size:=nLl hgx hsz
   have hof:=HOF.out (P[k]!) (by rw [getElem!_pos P k hlt];exact List.getElem_mem _)
   have HST:=Hh (inst_step (l:=l) hlt)
   have hil:=Zz44 (l:=l) (ps:=P.take k)
   rw [List.length_take] at hil
   generalize P[k]! = p at *
   obtain ⟨pf,pt,po⟩:=p
   dsimp only at e0 e1 e2 hof
   generalize instF l (P.take k)=O at *
   subst hAx
   clear hcx hown
   by_cases q1:pf≤l-po
   ·have d1:decide (pf≤l-po)=true:=dTt q1
    by_cases q2:l-po<pt
    ·have d2:decide (l-po<pt)=true:=dTt q2
     have HS2:=Hh (show instF l (P.take (k+1))=O++[l-po] by rw [HST.out,if_pos ⟨q1,q2⟩])
     clear HST
     go_wp2_with (at_builtin;refine wpList_append_own _ rfl _ _ _ rfl w2.heap.size 3 i0 _ 1 8 Tryz.underlying53 hi0 hz0 hz1 hz2 rfl (by decide) _ _ _ rfl (HOW.out.alloc _) ⟨_,0,F⟩ 1 1 (encW1 (l-po)) rfl rfl (Zz5 (by simp) _) (Zzq _) (by simp only [maxLen];omega) (by omega) (by simp;omega) ?_;intro v' w4 hown4 hg4 _)
     have hB9:Below w2.heap.size w2 w4:=Zz3 HOW.out nlR (hbr.alloc hbr.size _) hg4
     have HO9:=Hh (Zzp (es:=O) (x:=(l-po:Int)) hown4)
     clear hown4
     go_roundw
     case rel=>exact ⟨k+1,by omega,by go_num,by rw [HS2.out];exact HO9.out,hB9⟩
     case measure=>simp [intOf];omega
    have d2:decide (l-po<pt)=false:=dFf q2
    have HS2:=Hh (show instF l (P.take (k+1))=O by rw [HST.out,if_neg (fun h=>q2 h.2),List.append_nil])
    clear HST
    go_wp2
    go_roundw
    case rel=>exact ⟨k+1,by omega,by go_num,by rw [HS2.out];exact HOW.out,hbr⟩
    case measure=>simp [intOf];omega
   have d1:decide (pf≤l-po)=false:=dFf q1
   have HS2:=Hh (show instF l (P.take (k+1))=O by rw [HST.out,if_neg (fun h=>q1 h.1),List.append_nil])
   clear HST
   go_wp2
   go_roundw
   case rel=>exact ⟨k+1,by omega,by go_num,by rw [HS2.out];exact HOW.out,hbr⟩
   case measure=>simp [intOf];omega
  have hke:k=P.length:=by omega
  subst hke
  rw [List.take_length,HIW.out] at HOW
  have hil:IN.length≤100000:=by rw [←HIW.out];have:=Zz44 (l:=l) (ps:=P);omega
  have HR4:=Hh (Zz7 ZzB HOW.out rfl)
  clear hown
  go_wp2_with fail
  refine (r23_sorted IN _ _ HIA.out hil HR4.out).mono ?_
  rintro e w5 ⟨rfl,hb5⟩
  have HR5:=Hh (HR4.out.on hb5)
  have hB5:=hB2.trans ((hbr.trans (hb5.mono hsz)).mono hB2.size)
  go_wp2
  go_ret
  exact ⟨_,rfl,HR5.out,hB5⟩
set_option maxRecDepth 100000 in
set_option maxHeartbeats 1000000 in
theorem Zz5X (P:List Piece) (l:Int) (v:Value) (w:World) (hl:P.length≤100000) (hR:Rd encPc 3 w v P) (hof:∀ p∈P,(-93600<p.off∧p.off<93600) ∧ -62135596800≤p.fr∧p.fr≤253402300800) :
  Calls Tryz.prog 115 #[v,B C l] w fun e w'=>e=.returned (B C (skU P l P.length))∧w'=w:=by
 have HR:=Hh hR
 have HOF:=Hh hof
 obtain ⟨A,c,rfl⟩:=Zzb hR
 clear hR hof
 go_enter Tryz.func115,Tryz.ntmps115
 go_wp2
 go_loop [5,6,7] (fun v5 v6 _=>∃ (i:Nat) (k:Nat),(i=0∨i<P.length)∧v6=B C ((i:Int)+1)∧v5=B C (k:Int)∧Hid (k=skU P l (i+1))) (fun _ v6 _=>P.length-(intOf v6).toNat)
 case atStart=>exact ⟨0,0,.inl rfl,rfl,rfl,Hh rfl⟩
 case round =>
  obtain ⟨i,k,hi,rfl,rfl,HK⟩:=hrel
  by_cases hlt:(i:Int)+1<(P.length:Int)
  ·obtain ⟨g,off,hAx,hg,hc⟩:=rd_blkP HR.out (by omega)
   obtain ⟨_,_,e2⟩:=hc w bLR i (by omega)
   obtain ⟨f0,_,f2⟩:=hc w bLR (i+1) (by omega)
   have o1:=HOF.out (P[i]!) (by rw [getElem!_pos P i (by omega)];exact List.getElem_mem _)
   have o2:=HOF.out (P[i+1]!) (by rw [getElem!_pos P (i+1) (by omega)];exact List.getElem_mem _)
   have hsk:skC P l (i+1)=decide ((P[i+1]!).fr+(P[i]!).off≤l∧l<(P[i+1]!).fr+(P[i+1]!).off):=rfl
   have HST:=Hh (show skU P l (i+1+1)=if 0<i+1∧skC P l (i+1)=true then i+1 else skU P l (i+1) from rfl)
   rw [hsk] at HST
   generalize (P[i]!).off=bo at *
   generalize P[i+1]! = p at *
   obtain ⟨pf,pt,po⟩:=p
   dsimp only at f0 f2 o2 HST
   have hwj:IntKind.i64.wrap ((i:Int)+1-1)=(i:Int):=by rw [IntKind.wrap_i64];omega
   have hidx0:(0:Int)≤(i:Int)+1:=by omega
   have hidx1:((i:Int)+1).toNat=i+1:=by omega
   subst hAx
   clear hc hsk
   by_cases q1:pf+bo≤l
   ·have d1:decide (pf+bo≤l)=true:=dTt q1
    by_cases q2:l<pf+po
    ·have d2:decide (l<pf+po)=true:=dTt q2
     have HS2:=Hh (show i+1=skU P l (i+1+1) by rw [HST.out,if_pos ⟨by omega,dTt ⟨q1,q2⟩⟩])
     clear HST HK
     go_wp2
     go_round
     case rel=>exact ⟨i+1,i+1,.inr (by omega),by go_num,by go_num,HS2⟩
     case measure=>simp [intOf];omega
    have d2:decide (l<pf+po)=false:=dFf q2
    have HS2:=Hh (show k=skU P l (i+1+1) by rw [HST.out,if_neg (fun h=>q2 (of_decide_eq_true h.2).2)];exact HK.out)
    clear HST HK
    go_wp2
    go_round
    case rel=>exact ⟨i+1,k,.inr (by omega),by go_num,rfl,HS2⟩
    case measure=>simp [intOf];omega
   have d1:decide (pf+bo≤l)=false:=dFf q1
   have HS2:=Hh (show k=skU P l (i+1+1) by rw [HST.out,if_neg (fun h=>q1 (of_decide_eq_true h.2).1)];exact HK.out)
   clear HST HK
   go_wp2
   go_round
   case rel=>exact ⟨i+1,k,.inr (by omega),by go_num,rfl,HS2⟩
   case measure=>simp [intOf];omega
  have HKE:=Hh (show k=skU P l P.length by
   rcases hi with rfl|hi
   ·rw [HK.out]
    match P,hlt with
    | [],_=>rfl
    | [_],_=>rfl
    | _ :: _ :: _,h=>exfalso;apply h;simp;omega
   rw [HK.out,show i+1=P.length by omega])
  clear HK
  go_wp2
  go_ret
  exact ⟨by rw [←HKE.out];rfl,rfl⟩
theorem r23_Valid (g f:Int) (w:World):Calls Tryz.prog 111 #[.agg #[B C g,B C f]] w fun e w'=>e=.returned (.bool (polB g f))∧Below w.heap.size w w':=by
 have HBZ:=Hh (show Below w.heap.size w (w.alloc (G #[B C g,B C f] 44)) from bLR.alloc nlR _)
 have e:polB g f=(decide (1≤g) && (decide (g≤4) && (decide (1≤f) && decide (f≤3)))):=by
  unfold polB
  rw [Bool.eq_iff_iff]
  simp
 rw [e]
 by_cases h1:1≤g
 ·rw [dTt h1,Bool.true_and]
  by_cases h2:g≤4
  ·rw [dTt h2,Bool.true_and]
   by_cases h3:1≤f
   ·rw [dTt h3,Bool.true_and]
    go_enter Tryz.func111,Tryz.ntmps111
    go_wp2
    go_ret
    exact ⟨ret1 (vbool (by simp)),HBZ.out⟩
   rw [dFf h3,Bool.false_and]
   go_enter Tryz.func111,Tryz.ntmps111
   go_wp2
   go_ret
   exact ⟨ret1 (vbool (by simp)),HBZ.out⟩
  rw [dFf h2,Bool.false_and]
  go_enter Tryz.func111,Tryz.ntmps111
  go_wp2
  go_ret
  exact ⟨ret1 (vbool (by simp)),HBZ.out⟩
 rw [dFf h1,Bool.false_and]
 go_enter Tryz.func111,Tryz.ntmps111
 go_wp2
 go_ret
 exact ⟨ret1 (vbool (by simp)),HBZ.out⟩
theorem r23_Local (l:Int) (w:World):Calls Tryz.prog 112 #[B C l] w fun e w'=>e=.returned (.bool (inTB l))∧w'=w:=by
 have e:inTB l=(decide (-62135596800≤l) && decide (l<253402300800)):=by
  unfold inTB
  rw [Bool.eq_iff_iff]
  simp
 rw [e]
 by_cases h1 : -62135596800≤l
 ·rw [dTt h1,Bool.true_and]
  go_enter Tryz.func112,Tryz.ntmps112
  go_wp2
  go_ret
  exact ⟨ret1 (vbool (by simp)),rfl⟩
 rw [dFf h1,Bool.false_and]
 go_enter Tryz.func112,Tryz.ntmps112
 go_wp2
 go_ret
 exact ⟨ret1 (vbool (by simp)),rfl⟩
/- The reference of layer 23: Resolve. Printed by gen_ref23c.py. -/
theorem resV_in {z:Zn} (hv:z.valid=true) {l g f:Int} (hp:polB g f=true) (h1 : -62135596800≤l) (h2:l<253402300800):z.resV l g f=z.resF l g f:=by
 unfold Zn.resV
 rw [if_neg (by rw [hv,hp];simp),if_neg (by unfold inTB;simp;omega)]
theorem resF_one {z:Zn} {l g f:Int} (h:(z.insts l).length=1):z.resF l g f=((z.insts l)[0]!,0):=by
 unfold Zn.resF;rw [if_pos h]
theorem resF_many {z:Zn} {l g f:Int} (h:1<(z.insts l).length):z.resF l g f=(if f=1 then ((0:Int),(12:Int)) else if f=2 then ((z.insts l)[0]!,0) else ((z.insts l)[(z.insts l).length-1]!,0)):=by
 unfold Zn.resF;rw [if_neg (by omega),if_pos h]
theorem resF_none {z:Zn} {l g f:Int} (h1:¬ (z.insts l).length=1) (h2:¬ 1<(z.insts l).length) (h:(z.skips (wideA l) (wideB (l+1))).reverse.find? (inSkip l)=none):z.resF l g f=(0,2):=by
 unfold Zn.resF;rw [if_neg h1,if_neg h2,h]
theorem resF_some {z:Zn} {l g f:Int} {x:Skip} (h1:¬ (z.insts l).length=1) (h2:¬ 1<(z.insts l).length) (h:(z.skips (wideA l) (wideB (l+1))).reverse.find? (inSkip l)=some x):z.resF l g f=(if (gapF g l x).2≠0 then (0,(gapF g l x).2) else if inTB (gapF g l x).1=true then ((gapF g l x).1,0) else (0,2)):=by
 unfold Zn.resF;rw [if_neg h1,if_neg h2,h]
theorem inTB_lo {x:Int} (h:x < -62135596800):¬ inTB x=true:=by unfold inTB;simp;omega
theorem inTB_hi {x:Int} (h:253402300800≤x):¬ inTB x=true:=by unfold inTB;simp;omega
theorem Zz6F {x:Int} (h1:¬ x < -62135596800) (h2:¬ 253402300800≤x):inTB x=true:=by unfold inTB;simp;omega
theorem gap_1 {g l:Int} {x:Skip} (h:g=1):gapF g l x=(0,11):=by unfold gapF;rw [if_pos h]
theorem gap_2 {g l:Int} {x:Skip} (h:g=2):gapF g l x=(l-x.bef,0):=by unfold gapF;rw [if_neg (by omega),if_pos h]
theorem gap_3 {g l:Int} {x:Skip} (h:g=3):gapF g l x=(l-x.aft,0):=by unfold gapF;rw [if_neg (by omega),if_neg (by omega),if_pos h]
theorem gap_4 {g l:Int} {x:Skip} (h1:¬ g=1) (h2:¬ g=2) (h3:¬ g=3):gapF g l x=(x.at_,0):=by unfold gapF;rw [if_neg h1,if_neg h2,if_neg h3]
theorem pol_bd {g f:Int} (h:polB g f=true):1≤g∧g≤4∧1≤f∧f≤3:=by unfold polB at h;simpa using h
set_option maxRecDepth 100000 in
set_option maxHeartbeats 1000000 in
theorem Zz1L (z:Zn) (vT vR:Value) (l g f:Int) (w:World) (hT:Rd Trn.cells 4 w vT z.table) (hR:Rd Rule.cells 11 w vR z.tail) (hfs:z.form.size≤2000000) (hll:z.tail.length≤12) (hl:z.table.length≤1000) (hv:z.valid=true) (hp:polB g f=true) (h1 : -62135596800≤l) (h2:l<253402300800) (hcnt:(z.betF (cutA l) (cutB (l+1))).length≤1000) :
  Calls Tryz.prog 78 #[z.v vT vR,B C l,.agg #[B C g,B C f]] w fun e w'=>e=.returned (.tuple #[B C (z.resV l g f).1,B C (z.resV l g f).2])∧Below w.heap.size w w':=by
 have HV:=Hh (fun W (hb:Below w.heap.size w W)=>Zz55 z vT vR W (hT.on hb) (hR.on hb) hfs hll)
 rw [hv] at HV
 have HPV:=Hh (fun W=>r23_Valid g f W)
 rw [hp] at HPV
 have HLC:=Hh (fun W=>r23_Local l W)
 rw [show inTB l=true from Zz6F (by omega) (by omega)] at HLC
 have HIN:=Hh (fun W (hb:Below w.heap.size w W)=>Zz5W z vT vR l W (hT.on hb) (hR.on hb) hfs hll hl hv h1 h2 hcnt)
 have HPI:=Hh (fun W (hb:Below w.heap.size w W)=>Zz57 z vT vR l (l+1) W (hT.on hb) (hR.on hb) hfs hll hl hv h1 (by omega) (by omega) (by omega) hcnt)
 have hrv:=resV_in hv hp h1 h2
 obtain ⟨hkl,hfd⟩:=sk_pieces hv ⟨h1,h2⟩
 have hpl:(z.pieces (cutA l) (cutB (l+1))).length≤1001:=by
  unfold Zn.pieces
  split
  ·have:=Zz1r (b:=cutB (l+1)) (f:=cutA l) (o:=z.offF (cutA l)) (l:=z.betF (cutA l) (cutB (l+1)))
   omega
  simp
 have hiN:(z.insts l).length≤1001:=by
  rw [←Zz6H hv l]
  have:=Zz44 (l:=l) (ps:=z.pieces (cutA l) (cutB (l+1)))
  omega
 have HOF:=Hh (show ∀ p∈z.pieces (cutA l) (cutB (l+1)),(-93600<p.off∧p.off<93600) ∧ -62135596800≤p.fr∧p.fr≤253402300800 from fun p hp=>by
  have ok:=Zz1s hv (cutA l) (cutB (l+1))
  have hb:=ok.bd p hp
  refine ⟨?_,by unfold cutA at hb;omega,by unfold cutB at hb;omega⟩
  rw [←ok.off p hp p.fr (by omega) (by omega)]
  exact Zz17 hv p.fr)
 have hpb:=pol_bd hp
 have HF1:=Hh (fun h=>hrv.trans (resF_one (z:=z) (l:=l) (g:=g) (f:=f) h))
 have HF2:=Hh (fun h=>hrv.trans (resF_many (z:=z) (l:=l) (g:=g) (f:=f) h))
 have HF3:=Hh (fun a b h=>hrv.trans (resF_none (z:=z) (l:=l) (g:=g) (f:=f) a b h))
 have HF4:=Hh (fun x a b h=>hrv.trans (resF_some (z:=z) (l:=l) (g:=g) (f:=f) (x:=x) a b h))
 have HFD:=Hh hfd
 generalize (z.skips (wideA l) (wideB (l+1))).reverse.find? (inSkip l)=fnd at *
 generalize z.pieces (cutA l) (cutB (l+1))=P at *
 generalize z.insts l=IN at *
 generalize z.resV l g f=rv at *
 obtain ⟨AT,cT,rfl⟩:=Zzb hT
 obtain ⟨AR,cR,rfl⟩:=Zzb hR
 have kz:=(Blk.new w #[D z.nm,B C z.first.off,B C z.first.sv,D z.first.nm,E AT z.table.length cT,E AR z.tail.length cR,B C z.off,D z.form,B C z.year] 27).alloc (G #[B C g,B C f] 44)
 have kp:=Blk.new (w.alloc (G #[D z.nm,B C z.first.off,B C z.first.sv,D z.first.nm,E AT z.table.length cT,E AR z.tail.length cR,B C z.off,D z.form,B C z.year] 27)) #[B C g,B C f] 44
 rw [World.size_alloc] at kp
 have hB0:Below w.heap.size w ((w.alloc (G #[D z.nm,B C z.first.off,B C z.first.sv,D z.first.nm,E AT z.table.length cT,E AR z.tail.length cR,B C z.off,D z.form,B C z.year] 27)).alloc (G #[B C g,B C f] 44)):=(bLR.alloc nlR _).alloc (by simp) _
 clear hT hR hv hp hfs hcnt hfd hrv
 unfold Zn.v at HV HIN HPI ⊢
 go_enter Tryz.func78,Tryz.ntmps78
 go_wp2_with fail
 generalize ((w.alloc (G #[D z.nm,B C z.first.off,B C z.first.sv,D z.first.nm,E AT z.table.length cT,E AR z.tail.length cR,B C z.off,D z.form,B C z.year] 27)).alloc (G #[B C g,B C f] 44))=W0 at *
 have Kz:=kz.below bLR kz.lt
 have x0:=Kz.cl 0 _ rfl
 have x1:=Kz.cl 1 _ rfl
 have x2:=Kz.cl 2 _ rfl
 have x3:=Kz.cl 3 _ rfl
 have x4:=Kz.cl 4 _ rfl
 have x5:=Kz.cl 5 _ rfl
 have x6:=Kz.cl 6 _ rfl
 have x7:=Kz.cl 7 _ rfl
 have x8:=Kz.cl 8 _ rfl
 go_wp2_with fail
 refine (HV.out _ hB0).mono ?_
 rintro e w1 ⟨rfl,hb1⟩
 clear HV
 clear Kz x0 x1 x2 x3 x4 x5 x6 x7 x8
 have Kp:=kp.below hb1 kp.lt
 have y0:=Kp.cl 0 _ rfl
 have y1:=Kp.cl 1 _ rfl
 go_wp2_with fail
 refine (HPV.out _).mono ?_
 rintro e w2 ⟨rfl,hb2⟩
 have hb2:=hb1.trans (hb2.mono hb1.size)
 clear HPV Kp y0 y1
 go_wp2_with fail
 refine (HLC.out _).mono ?_
 rintro e w3 ⟨rfl,rfl⟩
 clear HLC
 have Kz:=kz.below hb2 kz.lt
 have x0:=Kz.cl 0 _ rfl
 have x1:=Kz.cl 1 _ rfl
 have x2:=Kz.cl 2 _ rfl
 have x3:=Kz.cl 3 _ rfl
 have x4:=Kz.cl 4 _ rfl
 have x5:=Kz.cl 5 _ rfl
 have x6:=Kz.cl 6 _ rfl
 have x7:=Kz.cl 7 _ rfl
 have x8:=Kz.cl 8 _ rfl
 go_wp2_with fail
 refine (HIN.out _ (hB0.trans (hb2.mono hB0.size))).mono ?_
 rintro e w4 ⟨v4,rfl,r4,hb4⟩
 have hb4:=hb2.trans (hb4.mono hb2.size)
 have R4:=Hh r4
 obtain ⟨A4,c4,rfl⟩:=Zzb r4
 clear HIN r4
 clear Kz x0 x1 x2 x3 x4 x5 x6 x7 x8
 have HB:=Hh (fun W' (hb:Below W0.heap.size W0 W')=>hB0.trans (hb.mono hB0.size))
 by_cases c1:IN.length=1
 ·have HRV:=Hh (HF1.out c1)
  obtain ⟨gI,oI,hAI,hgI,hcI⟩:=Zz5a R4.out (by omega)
  have e0:=hcI _ bLR 0 (by omega)
  have t1:((IN.length:Int) == 1)=true:=by rw [beq_iff_eq];omega
  have hlp:0<IN.length:=by omega
  generalize IN[0]! = x0 at *
  subst hAI
  rw [Nat.add_zero] at e0
  clear hcI c1
  go_wp2
  go_ret2
  exact ⟨by rw [HRV.out] <;> rfl,HB.out _ hb4⟩
 have t1:((IN.length:Int) == 1)=false:=by rw [beq_eq_false_iff_ne];omega
 by_cases c2:1<IN.length
 ·have HRV:=Hh (HF2.out c2)
  obtain ⟨gI,oI,hAI,hgI,hcI⟩:=Zz5a R4.out (by omega)
  have e0:=hcI _ bLR 0 (by omega)
  have e1:=hcI _ bLR (IN.length-1) (by omega)
  have t2:decide ((1:Int)<(IN.length:Int))=true:=dTt (by omega)
  have hlp:0<IN.length:=by omega
  generalize IN[0]! = x0 at *
  obtain ⟨q,hq⟩:∃ q,IN.length=q+1:=⟨IN.length-1,by omega⟩
  have HQ:=Hh hq
  rw [show IN.length-1=q by omega] at e1 HRV
  generalize IN[q]! = x1 at *
  have hwq:(IN.length:Int)-1=(q:Int):=by omega
  subst hAI
  rw [Nat.add_zero] at e0
  have hqn:q<IN.length:=by omega
  have Kp:=kp.below hb4 kp.lt
  have y1:=Kp.cl 1 _ rfl
  clear hcI c1 c2 hq
  by_cases f2:f=2
  ·have u2:(f == 2)=true:=beq_iff_eq.2 f2
   have HRW:=Hh (show rv=(x0,0) by rw [HRV.out,if_neg (by omega),if_pos f2])
   clear HRV f2 hwq
   go_wp2
   go_ret2
   exact ⟨by rw [HRW.out] <;> rfl,HB.out _ hb4⟩
  have u2:(f == 2)=false:=beq_eq_false_iff_ne.2 f2
  by_cases f3:f=3
  ·have u3:(f == 3)=true:=beq_iff_eq.2 f3
   have HRW:=Hh (show rv=(x1,0) by rw [HRV.out,if_neg (by omega),if_neg f2])
   clear HRV f2 f3
   have hq0:(0:Int)≤(q:Int):=by omega
   have hq1:(q:Int)<(IN.length:Int):=by omega
   go_wp2
   go_ret2
   exact ⟨by rw [HRW.out] <;> rfl,HB.out _ hb4⟩
  have u3:(f == 3)=false:=beq_eq_false_iff_ne.2 f3
  have HRW:=Hh (show rv=(0,12) by rw [HRV.out,if_pos (by omega)])
  clear HRV f2 f3 hwq
  go_wp2
  go_ret2
  exact ⟨by rw [HRW.out] <;> rfl,HB.out _ hb4⟩
 have t2:decide ((1:Int)<(IN.length:Int))=false:=dFf (by omega)
 have HF3:=Hh (HF3.out c1 c2)
 have HF4:=Hh (fun x=>HF4.out x c1 c2)
 clear c1 c2
 have Kz:=kz.below hb4 kz.lt
 have x0:=Kz.cl 0 _ rfl
 have x1:=Kz.cl 1 _ rfl
 have x2:=Kz.cl 2 _ rfl
 have x3:=Kz.cl 3 _ rfl
 have x4:=Kz.cl 4 _ rfl
 have x5:=Kz.cl 5 _ rfl
 have x6:=Kz.cl 6 _ rfl
 have x7:=Kz.cl 7 _ rfl
 have x8:=Kz.cl 8 _ rfl
 go_wp2_with fail
 refine (HPI.out _ (HB.out _ hb4)).mono ?_
 rintro e w5 ⟨v5,rfl,r5,hb5⟩
 have hb5:=hb4.trans (hb5.mono hb4.size)
 have R5:=Hh r5
 obtain ⟨A5,c5,rfl⟩:=Zzb r5
 clear HPI r5 R4
 clear Kz x0 x1 x2 x3 x4 x5 x6 x7 x8
 have HSK:=Hh (Zz5X P l _ w5 (by omega) R5.out HOF.out)
 cases hk:skU P l P.length with
 | zero =>
  rw [hk] at HSK HFD
  have HRV:=Hh (HF3.out (by rw [HFD.out,if_pos rfl]))
  clear hk hkl
  go_wp2_with fail
  refine HSK.out.mono ?_
  rintro e w6 ⟨rfl,rfl⟩
  go_wp2
  go_ret2
  exact ⟨by rw [HRV.out] <;> rfl,HB.out _ hb5⟩
 | succ j =>
  rw [hk] at HSK HFD hkl
  have hjl:j+1<P.length:=by omega
  have hxs:=HFD.out
  rw [if_neg (by omega)] at hxs
  have HRV:=Hh (HF4.out _ hxs)
  obtain ⟨gI,oI,hAI,hgI,hcI⟩:=rd_blkP R5.out (by omega)
  obtain ⟨_,_,e2⟩:=hcI _ bLR j (by omega)
  obtain ⟨f0,_,f2⟩:=hcI _ bLR (j+1) hjl
  have o1:=HOF.out (P[j]!) (by rw [getElem!_pos P j (by omega)];exact List.getElem_mem _)
  have o2:=HOF.out (P[j+1]!) (by rw [getElem!_pos P (j+1) hjl];exact List.getElem_mem _)
  have hss:skS P (j+1)=⟨(P[j+1]!).fr,(P[j]!).off,(P[j+1]!).off⟩:=rfl
  rw [hss] at HRV
  generalize (P[j]!).off=bo at *
  generalize P[j+1]! = p at *
  obtain ⟨pf,pt,po⟩:=p
  dsimp only at f0 f2 o2 HRV
  subst hAI
  rw [show ((j+1:Nat):Int)=(j:Int)+1 from rfl] at HSK
  have k1:((j:Int)+1 == 0)=false:=by rw [beq_eq_false_iff_ne];omega
  have hwj:(j:Int)+1-1=(j:Int):=by omega
  have hidx0:(0:Int)≤(j:Int)+1:=by omega
  have hidx1:((j:Int)+1).toNat=j+1:=by omega
  have Kp:=kp.below hb5 kp.lt
  have y0:=Kp.cl 0 _ rfl
  clear hk hkl hxs hss hcI HFD HF3 HF4
  go_wp2_with fail
  refine HSK.out.mono ?_
  rintro e w6 ⟨rfl,rfl⟩
  clear HSK
  by_cases g1:g=1
  ·have u1:(g == 1)=true:=beq_iff_eq.2 g1
   have HRW:=Hh (show rv=(0,11) by rw [HRV.out,gap_1 g1];dsimp only;rw [if_pos (by decide)])
   clear HRV g1
   go_wp2
   go_ret2
   exact ⟨by rw [HRW.out] <;> rfl,HB.out _ hb5⟩
  have u1:(g == 1)=false:=beq_eq_false_iff_ne.2 g1
  by_cases g2:g=2
  ·have u2:(g == 2)=true:=beq_iff_eq.2 g2
   by_cases r1:l-bo < -62135596800
   ·have s1:decide (l-bo < -62135596800)=true:=dTt r1
    have HRW:=Hh (show rv=(0,2) by rw [HRV.out,gap_2 g2];dsimp only;rw [if_neg (by decide),if_neg (inTB_lo r1)])
    clear HRV r1
    go_wp2
    go_ret2
    exact ⟨by rw [HRW.out] <;> rfl,HB.out _ hb5⟩
   have s1:decide (l-bo < -62135596800)=false:=dFf r1
   by_cases r2:253402300800≤l-bo
   ·have s2:decide (253402300800≤l-bo)=true:=dTt r2
    have HRW:=Hh (show rv=(0,2) by rw [HRV.out,gap_2 g2];dsimp only;rw [if_neg (by decide),if_neg (inTB_hi r2)])
    clear HRV r1 r2
    go_wp2
    go_ret2
    exact ⟨by rw [HRW.out] <;> rfl,HB.out _ hb5⟩
   have s2:decide (253402300800≤l-bo)=false:=dFf r2
   have HRW:=Hh (show rv=(l-bo,0) by rw [HRV.out,gap_2 g2];dsimp only;rw [if_neg (by decide),if_pos (Zz6F r1 r2)])
   clear HRV r1 r2
   go_wp2
   go_ret2
   exact ⟨by rw [HRW.out] <;> rfl,HB.out _ hb5⟩
  have u2:(g == 2)=false:=beq_eq_false_iff_ne.2 g2
  by_cases g3:g=3
  ·have u3:(g == 3)=true:=beq_iff_eq.2 g3
   by_cases r1:l-po < -62135596800
   ·have s1:decide (l-po < -62135596800)=true:=dTt r1
    have HRW:=Hh (show rv=(0,2) by rw [HRV.out,gap_3 g3];dsimp only;rw [if_neg (by decide),if_neg (inTB_lo r1)])
    clear HRV r1
    go_wp2
    go_ret2
    exact ⟨by rw [HRW.out] <;> rfl,HB.out _ hb5⟩
   have s1:decide (l-po < -62135596800)=false:=dFf r1
   by_cases r2:253402300800≤l-po
   ·have s2:decide (253402300800≤l-po)=true:=dTt r2
    have HRW:=Hh (show rv=(0,2) by rw [HRV.out,gap_3 g3];dsimp only;rw [if_neg (by decide),if_neg (inTB_hi r2)])
    clear HRV r1 r2
    go_wp2
    go_ret2
    exact ⟨by rw [HRW.out] <;> rfl,HB.out _ hb5⟩
   have s2:decide (253402300800≤l-po)=false:=dFf r2
   have HRW:=Hh (show rv=(l-po,0) by rw [HRV.out,gap_3 g3];dsimp only;rw [if_neg (by decide),if_pos (Zz6F r1 r2)])
   clear HRV r1 r2
   go_wp2
   go_ret2
   exact ⟨by rw [HRW.out] <;> rfl,HB.out _ hb5⟩
  have u3:(g == 3)=false:=beq_eq_false_iff_ne.2 g3
  by_cases r1:pf < -62135596800
  ·have s1:decide (pf < -62135596800)=true:=dTt r1
   have HRW:=Hh (show rv=(0,2) by rw [HRV.out,gap_4 g1 g2 g3];dsimp only;rw [if_neg (by decide),if_neg (inTB_lo r1)])
   clear HRV r1
   go_wp2
   go_ret2
   exact ⟨by rw [HRW.out] <;> rfl,HB.out _ hb5⟩
  have s1:decide (pf < -62135596800)=false:=dFf r1
  by_cases r2:253402300800≤pf
  ·have s2:decide (253402300800≤pf)=true:=dTt r2
   have HRW:=Hh (show rv=(0,2) by rw [HRV.out,gap_4 g1 g2 g3];dsimp only;rw [if_neg (by decide),if_neg (inTB_hi r2)])
   clear HRV r1 r2
   go_wp2
   go_ret2
   exact ⟨by rw [HRW.out] <;> rfl,HB.out _ hb5⟩
  have s2:decide (253402300800≤pf)=false:=dFf r2
  have HRW:=Hh (show rv=(pf,0) by rw [HRV.out,gap_4 g1 g2 g3];dsimp only;rw [if_neg (by decide),if_pos (Zz6F r1 r2)])
  clear HRV r1 r2
  go_wp2
  go_ret2
  exact ⟨by rw [HRW.out] <;> rfl,HB.out _ hb5⟩
end Go.Proofs.YtmmgdjgcikbhbaaGreat

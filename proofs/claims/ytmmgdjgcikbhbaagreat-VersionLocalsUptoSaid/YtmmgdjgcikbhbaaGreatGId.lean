/- Joined by merge.py: Ref22d, Ref22h. -/
import Derived.Test.YtmmgdjgcikbhbaaGreatGRe
import Derived.Test.YtmmgdjgcikbhbaaGreatGRb
/- The reference of layer 22: happenings. -/
open Go.Value renaming int → A, string → C, slice → E
open Go.IntKind renaming i64 → B
open Option renaming none → F
open Go.Obj renaming cells → G
namespace Go.Proofs.YtmmgdjgcikbhbaaGreat
set_option linter.unusedSimpArgs false
set_option linter.unusedVariables false
open Go.ChangeShapes Go.WideShapes Go.ChangeAt Go.RowKit
theorem infoH:(Tryz.prog.info? 103).map (fun i=>(i.zero,i.size,i.bytes))=some (some (.agg #[A B 0,A B 0,A B 0,C ⟨#[]⟩,A B 0]),5,48):=by kernel_rfl
def encH (x:Int × Trn):List Value:=[A B x.2.at_,A B x.2.ty.off,A B x.2.ty.sv,C x.2.ty.nm,A B x.1]
theorem encH_len (x:Int × Trn):(encH x).length=5:=rfl
theorem Zz5z (x:Int × Trn):∀ v∈encH x,v.oneCell'=true:=by
 intro v hv
 simp [encH] at hv
 rcases hv with rfl|rfl|rfl|rfl|rfl <;> rfl
theorem Zz4H {z:Zn} {s:Int} {P:List (Int × Int × Int)} {x:Int × Int × Int} (h:outT (x.2.1-z.shift (z.aft s P) (z.rule x.2.2))=true):z.happ s (P++[x])=z.happ s P∧z.aft s (P++[x])=z.aft s P:=by
 rw [Zza,Zz1k]
 simp only [Zn.happ,Zn.aft]
 have ho2:outT (z.hap1 (z.aft s P) x).2.at_=true:=h
 rw [if_pos ho2,if_pos ho2,List.append_nil]
 exact ⟨rfl,rfl⟩
theorem Zz5E {z:Zn} {s:Int} {P:List (Int × Int × Int)} {x:Int × Int × Int} (h:outT (x.2.1-z.shift (z.aft s P) (z.rule x.2.2))=false):z.happ s (P++[x])=z.happ s P++[(x.1,⟨x.2.1-z.shift (z.aft s P) (z.rule x.2.2),z.tyR (z.rule x.2.2)⟩)]∧z.aft s (P++[x])=(z.rule x.2.2).sv:=by
 rw [Zza,Zz1k]
 simp only [Zn.happ,Zn.aft]
 have ho2:¬ outT (z.hap1 (z.aft s P) x).2.at_=true:=by
  show ¬ outT (x.2.1-_)=true
  rw [h];decide
 rw [if_neg ho2,if_neg ho2]
 exact ⟨rfl,rfl⟩
theorem Rd.grown {α:Type} [Inhabited α] {enc:α→List Value} {k:Nat} {w w':World} {v:Value} {es:List α} {row:Option Nat} (h:Rd enc k w v es) (hg:w.grownBy w' row) (hz:w.heap.size≤w'.heap.size) (hne:∀ g,v.ownBlock=some g→row≠some g):Rd enc k w' v es:=by
 rcases h with h|⟨g,off,c,rfl,hlt,hc⟩
 ·exact .inl h
 exact .inr ⟨g,off,c,rfl,nLl hlt hz,fun j hj i u hu=>hg.cell (hc j hj i u hu) fun e=>hne g rfl e.symm⟩
set_option maxRecDepth 100000 in
set_option maxHeartbeats 8000000 in
theorem Zz5Q (z:Zn) (vT vR:Value) (f b Z s0:Int) (w:World) (hl:z.table.length≤1000000) (hll:z.tail.length≤12) (hT:Rd Trn.cells 4 w vT z.table) (hR:Rd Rule.cells 11 w vR z.tail) (hfs:z.form.size≤2000000) (h1:1≤z.year) (h2:z.year≤9999) (hF:(f≤z.year∧z.year=Z∧z.lastT.sv=s0)∨(z.year<f∧f≤9999∧f=Z∧s0=0)) (n:Nat) (hn:n=(min b 9999-Z+1).toNat) (hn1:n≤200) (ho : -57600≤z.off∧z.off≤57600) (hs : -10800≤s0∧s0≤10800) (hrs:∀ r∈z.tail,-10800≤r.sv∧r.sv≤10800) :
  Calls Tryz.prog 66 #[z.v vT vR,A B f,A B b] w fun e w'=>∃ v,e=.returned v∧Rd encH 5 w' v (z.happ s0 (evT z.tail Z n))∧Below w.heap.size w w'∧∀ g,v.ownBlock=some g→w.heap.size≤g:=by
 have HY:=Hh (fun y v W (h:Rd Rule.cells 11 W v z.tail)=>Zz6S z.tail y v W (by omega) h)
 have HE:=Hh (fun W h=>r22_end z vT vR W hl h)
 have HR:=Hh hR
 have HT:=Hh hT
 obtain ⟨AR,cR,rfl⟩:=Zzb hR
 obtain ⟨AT,cT,rfl⟩:=Zzb hT
 clear hR hT
 have hzc:=Zz2 w [C z.nm,A B z.first.off,A B z.first.sv,C z.first.nm,E AT z.table.length cT,E AR z.tail.length cR,A B z.off,C z.form,A B z.year] 27
 have hbz:Below w.heap.size w (w.alloc (G #[C z.nm,A B z.first.off,A B z.first.sv,C z.first.nm,E AT z.table.length cT,E AR z.tail.length cR,A B z.off,C z.form,A B z.year] 27)):=bLR.alloc nlR _
 have hszz:w.heap.size<(w.alloc (G #[C z.nm,A B z.first.off,A B z.first.sv,C z.first.nm,E AT z.table.length cT,E AR z.tail.length cR,A B z.off,C z.form,A B z.year] 27)).heap.size:=by simp
 have HZC:=Hh hzc
 have HBZ:=Hh hbz
 clear hzc hbz
 have HSv:=Hh hrs
 clear hrs
 have hlen:∀ y,(yearF z.tail y).length≤12:=fun y=>by
  have:=Zz2B y 0 z.tail
  rw [Zz2R];omega
 obtain ⟨i0,hi0,hz0,hz1,hz2⟩:=info_parts infoH
 unfold Zn.v at HE ⊢
 have hfld:=typeSave
 have hZ1:1≤Z∧Z≤9999:=by omega
 have HN:=Hh hn
 clear hn
 generalize z.lastT.sv=sv0 at *
 generalize z.year=Zy at *
 have HF:=Hh hF
 clear hF
 rcases HF.out with ⟨hfz,hZ,hS0⟩|⟨hfz,hf9,hZ,hS0⟩
 obtain rfl:Z=Zy:=hZ.symm
 obtain rfl:s0=sv0:=hS0.symm
 clear HF
 have HS0:=Hh (rfl:s0=s0)
 go_enter Tryz.func66,Tryz.ntmps66
 go_wp2_with fail
 generalize w.alloc (G #[C z.nm,A B z.first.off,A B z.first.sv,C z.first.nm,E AT z.table.length cT,E AR z.tail.length cR,A B z.off,C z.form,A B Z] 27)=wz at *
 have zc0:wz.cell? ⟨w.heap.size,0,F⟩=_:=HZC.out 0 _ rfl
 have zc1:=HZC.out 1 _ rfl
 have zc2:=HZC.out 2 _ rfl
 have zc3:=HZC.out 3 _ rfl
 have zc4:=HZC.out 4 _ rfl
 have zc5:=HZC.out 5 _ rfl
 have zc6:=HZC.out 6 _ rfl
 have zc7:=HZC.out 7 _ rfl
 have zc8:=HZC.out 8 _ rfl
 go_wp2_with (go_at_call 67;refine (HE.out _ (HT.out.on HBZ.out)).mono ?_;rintro e w8 ⟨rfl,hb8⟩)
 have hB8:Below w.heap.size w w8:=HBZ.out.trans (hb8.mono (Nat.le_of_lt hszz))
 have hsz8:w.heap.size<w8.heap.size:=nLl hszz hb8.size
 have YC5:=Hh ((hb8.cell (p:=⟨w.heap.size,5,F⟩) hszz).trans zc5)
 have YC6:=Hh ((hb8.cell (p:=⟨w.heap.size,6,F⟩) hszz).trans zc6)
 have YC7:=Hh ((hb8.cell (p:=⟨w.heap.size,7,F⟩) hszz).trans zc7)
 clear zc0 zc1 zc2 zc3 zc4 zc5 zc6 zc7 zc8 HZC hb8 HE
 rotate_left
 obtain rfl:Z=f:=hZ.symm
 have HS0:=Hh hS0.symm
 clear HF hS0
 go_enter Tryz.func66,Tryz.ntmps66
 go_wp2_with fail
 generalize w.alloc (G #[C z.nm,A B z.first.off,A B z.first.sv,C z.first.nm,E AT z.table.length cT,E AR z.tail.length cR,A B z.off,C z.form,A B Zy] 27)=wz at *
 have zc0:wz.cell? ⟨w.heap.size,0,F⟩=_:=HZC.out 0 _ rfl
 have zc1:=HZC.out 1 _ rfl
 have zc2:=HZC.out 2 _ rfl
 have zc3:=HZC.out 3 _ rfl
 have zc4:=HZC.out 4 _ rfl
 have zc5:=HZC.out 5 _ rfl
 have zc6:=HZC.out 6 _ rfl
 have zc7:=HZC.out 7 _ rfl
 have zc8:=HZC.out 8 _ rfl
 go_wp2
 obtain ⟨w8,hw8⟩:∃ W,W=wz:=⟨_,rfl⟩
 rw [←hw8]
 have hB8:Below w.heap.size w w8:=hw8▸HBZ.out
 have hsz8:w.heap.size<w8.heap.size:=hw8▸hszz
 have YC5:=Hh (show w8.cell? ⟨w.heap.size,5,F⟩=_ from hw8▸zc5)
 have YC6:=Hh (show w8.cell? ⟨w.heap.size,6,F⟩=_ from hw8▸zc6)
 have YC7:=Hh (show w8.cell? ⟨w.heap.size,7,F⟩=_ from hw8▸zc7)
 clear zc0 zc1 zc2 zc3 zc4 zc5 zc6 zc7 zc8 HZC hw8 HBZ hszz
 all_goals
  go_loopw [7,8,9] (fun v7 v8 v9 wr=>∃ (m:Nat) (s:Int) (L:List (Int × Trn)),m≤n∧v9=A B (Z+m)∧v7=A B s∧Hid (L=z.happ s0 (evT z.tail Z m)∧s=z.aft s0 (evT z.tail Z m))∧(-10800≤s∧s≤10800)∧L.length≤12*m∧wr.ownsRow w8.heap.size 103 5 v8 L.length (L.flatMap encH)∧Below w8.heap.size w8 wr) (fun _ _ y _=>(20000-intOf y).toNat)
  case atStart=>exact ⟨0,s0,[],Nat.zero_le _,vint (by simp),by first|rfl|rw [HS0.out],⟨rfl,rfl⟩,hs,by simp,⟨rfl,.inl ⟨rfl,rfl⟩⟩,Below.refl _ _⟩
  case round =>
   obtain ⟨m,s,L,hm,rfl,rfl,HLS,hsb,hLl,hown,hbw⟩:=hrel
   have HOWN:=Hh hown
   clear hown
   have hB:Below w.heap.size w wr:=hB8.trans (hbw.mono hB8.size)
   by_cases hlt:m<n
   ·have hle:Z+(m:Int)≤min b 9999:=by have:=HN.out;omega
    have hl12:=hlen (Z+m)
    have HYB:=Hh (fun (k:Nat) (hk:k<(yearF z.tail (Z+m)).length)=>mem_yearI.1 (show (yearF z.tail (Z+m))[k]! ∈ yearF z.tail (Z+m) by rw [getElem!_pos _ k hk];exact List.getElem_mem hk))
    have HK0:=Hh (Zz5A z.tail Z m)
    have HKA:=Hh (Zz6x z.tail Z m)
    have HKS:=Hh (Zz3Z z.tail Z m)
    have yc5:wr.cell? ⟨w.heap.size,5,F⟩=_:=(hbw.cell (p:=⟨w.heap.size,5,F⟩) hsz8).trans YC5.out
    go_wp2_with (go_at_call 102;refine (HY.out _ _ _ (HR.out.on hB)).mono ?_;rintro e w5 ⟨v5,rfl,i5,hb5,hf5⟩)
    have R5:=Hh i5.rd
    clear i5
    obtain ⟨A5,c5,rfl⟩:=Zz2Z R5.out
    generalize yearF z.tail (Z+m)=X at *
    have hbw5:Below w8.heap.size w8 w5:=hbw.trans (hb5.mono hbw.size)
    have HO5:=Hh (Zz8 HOWN.out hb5)
    have hlt5:=fun g h=>(HOWN.out.lt g h).2
    have HNE:=Hh (show ∀ g,(Value.slice A5 X.length c5).ownBlock=some g→u8.ownBlock≠some g from fun g h1 h2=>absurd (hf5 g h1) (Nat.not_le.2 (hlt5 g h2)))
    generalize hq:wr=wq at *
    clear hq hlt5 hf5
    go_loopw [7,8,11] (fun v7 v8 v11 wv=>∃ (k:Nat) (s:Int) (L:List (Int × Trn)),k≤X.length∧v11=A B k∧v7=A B s∧Hid (L=z.happ s0 (evK z.tail Z m k)∧s=z.aft s0 (evK z.tail Z m k))∧(-10800≤s∧s≤10800)∧L.length≤12*m+k∧wv.ownsRow w8.heap.size 103 5 v8 L.length (L.flatMap encH)∧Below w8.heap.size w8 wv∧Hid (Rd encE 2 wv (E A5 X.length c5) X)∧Hid (∀ g,(Value.slice A5 X.length c5).ownBlock=some g→v8.ownBlock≠some g)) (fun _ _ i _=>X.length-(intOf i).toNat)
    case atStart=>exact ⟨0,s,L,Nat.zero_le _,rfl,rfl,by rw [HK0.out];exact HLS.out,hsb,by omega,HO5.out,hbw5,R5,HNE⟩
    case round =>
     clear R5 HNE HO5 HOWN HLS hsb hLl
     obtain ⟨k,s,L,hk,rfl,rfl,HLS,hsb,hLl,hown,hbk,R5,HNE⟩:=hrel
     have HOWN:=Hh hown
     clear hown
     have hbw:Below w.heap.size w wr:=hB8.trans (hbk.mono hB8.size)
     by_cases hkl:k<X.length
     ·obtain ⟨g7,o7,hA7,hg7,hc7⟩:∃ g off,A5=some ⟨g,off,F⟩∧g<wr.heap.size∧∀ j,j<X.length→∀ i u,(encE X[j]!)[i]? = some u→wr.cell? ⟨g,off+j*2+i,F⟩=some u:=by
       rcases R5.out with ⟨h0,_⟩|⟨g,off,c',hv',hg,hc⟩
       ·rw [h0] at hkl;simp at hkl
       cases hv';exact ⟨g,off,rfl,hg,hc⟩
      subst hA7
      obtain ⟨j,hj,hx,hat⟩:=HYB.out k hkl
      have e0:wr.cell? ⟨g7,o7+k*2,F⟩=some (A B (X[k]!).1):=hc7 k hkl 0 _ rfl
      have e1:wr.cell? ⟨g7,o7+k*2+1,F⟩=some (A B (X[k]!).2):=hc7 k hkl 1 _ rfl
      have hx1 : -300000000000≤(X[k]!).1∧(X[k]!).1≤300000000000:=by rw [hx];exact at_bd
      have hx2:(X[k]!).2=(j:Int):=by rw [hx]
      have hru:z.rule (X[k]!).2=z.tail[j]! := by rw [hx2];unfold Zn.rule;rw [Int.toNat_natCast]
      have hmem:z.tail[j]! ∈ z.tail:=by rw [getElem!_pos z.tail j hj];exact List.getElem_mem hj
      have hsv:=HSv.out _ hmem
      have hOut:=fun ho=>Zz4H (z:=z) (s:=s0) (P:=evK z.tail Z m k) (x:=(Z+(m:Int),X[k]!)) ho
      have hIn:=fun ho=>Zz5E (z:=z) (s:=s0) (P:=evK z.tail Z m k) (x:=(Z+(m:Int),X[k]!)) ho
      rw [←HKS.out k hkl,←HLS.out.1,←HLS.out.2] at hOut hIn
      dsimp only at hOut hIn
      rw [hru] at hOut hIn
      rw [hx2] at e1
      obtain ⟨g,off,c,hRv,hg,hcr⟩:∃ g off c,Value.slice AR z.tail.length cR=E (some ⟨g,off,F⟩) z.tail.length c∧g<w.heap.size∧∀ j,j<z.tail.length→∀ i u,(Rule.cells z.tail[j]!)[i]? = some u→w.cell? ⟨g,off+j*11+i,F⟩=some u:=by
       rcases HR.out with ⟨h0,_⟩|⟨g,off,c,hv',hg,hc⟩
       ·rw [h0] at hj;simp at hj
       exact ⟨g,off,c,hv',hg,hc⟩
      injection hRv with hRA hRl hRc
      subst hRA
      have hcell:∀ i u,(Rule.cells z.tail[j]!)[i]? = some u→wr.cell? ⟨g,off+j*11+i,F⟩=some u:=fun i u hu=>(hbw.cell (p:=⟨g,off+j*11+i,F⟩) hg).trans (hcr j hj i u hu)
      generalize hrr:z.tail[j]! = r at *
      have r0:wr.cell? ⟨g,off+j*11,F⟩=_:=hcell 0 _ rfl
      have r1:=hcell 1 _ rfl
      have r2:=hcell 2 _ rfl
      have r3:=hcell 3 _ rfl
      have r4:=hcell 4 _ rfl
      have r5:=hcell 5 _ rfl
      have r6:=hcell 6 _ rfl
      have r7:=hcell 7 _ rfl
      have r8:=hcell 8 _ rfl
      have r9:=hcell 9 _ rfl
      have r10:=hcell 10 _ rfl
      have yc5:wr.cell? ⟨w.heap.size,5,F⟩=_:=(hbk.cell (p:=⟨w.heap.size,5,F⟩) hsz8).trans YC5.out
      have yc6:wr.cell? ⟨w.heap.size,6,F⟩=_:=(hbk.cell (p:=⟨w.heap.size,6,F⟩) hsz8).trans YC6.out
      have yc7:wr.cell? ⟨w.heap.size,7,F⟩=_:=(hbk.cell (p:=⟨w.heap.size,7,F⟩) hsz8).trans YC7.out
      have hszw:=hbk.size
      have hszr:w.heap.size<wr.heap.size:=nLl hsz8 hszw
      have hszr3:w.heap.size<wr.heap.size+1:=by omega
      have hgr:g<wr.heap.size:=nLl hg hbw.size
      generalize hxx:(X[k]!).1=x1 at *
      have HF:=Hh (fun W=>Zz30 z.form r.lt r.sv W hfs)
      rw [Zz2W] at HF
      have hg71:g7<wr.heap.size+1:=by omega
      clear hcell hrr hru hx hx2 hat hmem hc7 hxx hcr hRc hRl
      have hj1:(0:Int)≤(j:Int):=by omega
      have hj2:(j:Int)<(z.tail.length:Int):=by omega
      go_wp2_with fail
      go_region
      obtain ⟨WR,hWR⟩:∃ W,(wr.alloc (G (Rule.cells r).toArray 93)).drew=W:=⟨_,rfl⟩
      have hq2:Below wr.heap.size wr WR:=by rw [←hWR];exact (Zz6 wr _).drew
      have hzW:WR.heap.size=wr.heap.size+1:=by rw [←hWR];simp
      have hcW:∀ i u,(Rule.cells r)[i]? = some u→WR.cell? ⟨wr.heap.size,i,F⟩=some u:=fun i u hu=>by
       rw [←hWR]
       exact ((Below.refl (wr.heap.size+1) _).drew.cell (p:=⟨wr.heap.size,i,F⟩) (by simp)).trans (Zz2 wr (Rule.cells r) 93 i u hu)
      rw [show (wr.alloc (G #[C r.nm,A B r.fr,A B r.to,A B r.mo,A B r.k,A B r.wk,A B r.d,A B r.at_,A B r.cl,A B r.sv,C r.lt] 93)).drew=WR from hWR]
      clear hWR
      have HO0:=Hh (Zz8 HOWN.out hq2)
      have R6:=Hh (R5.out.on hq2)
      have HQ2:=Hh (hbk.trans (hq2.mono hbk.size))
      have q8:=hcW 8 _ rfl
      have q9:=hcW 9 _ rfl
      have q10:=hcW 10 _ rfl
      have HY9:=Hh q9
      have e0:WR.cell? ⟨g7,o7+k*2,F⟩=_:=(hq2.cell (p:=⟨g7,o7+k*2,F⟩) hg7).trans e0
      have e1:WR.cell? ⟨g7,o7+k*2+1,F⟩=_:=(hq2.cell (p:=⟨g7,o7+k*2+1,F⟩) hg7).trans e1
      have yc6:WR.cell? ⟨w.heap.size,6,F⟩=_:=(hq2.cell (p:=⟨w.heap.size,6,F⟩) hszr).trans yc6
      have yc7:WR.cell? ⟨w.heap.size,7,F⟩=_:=(hq2.cell (p:=⟨w.heap.size,7,F⟩) hszr).trans yc7
      clear hcW r0 r1 r2 r3 r4 r5 r6 r7 r8 r9 r10 yc5
      have hcl:(r.cl=2∧z.shift s r=z.off)∨(r.cl=1∧z.shift s r=z.off+s)∨(r.cl≠1∧r.cl≠2∧z.shift s r=0):=by
       unfold Zn.shift
       by_cases h2:r.cl=2
       ·exact .inl ⟨h2,if_pos h2⟩
       by_cases h1:r.cl=1
       ·exact .inr (.inl ⟨h1,by rw [if_neg h2,if_pos h1]⟩)
       exact .inr (.inr ⟨h1,h2,by rw [if_neg h2,if_neg h1]⟩)
      rcases hcl with ⟨h2,hsh⟩|⟨h1,hsh⟩|⟨h1,h2,hsh⟩
      ·rw [hsh] at hOut hIn
       have b2:(r.cl == 2)=true:=by simpa using h2
       have b1:(r.cl == 1)=false:=by simp;omega
       clear hsh h2
       obtain ⟨D,hD⟩:∃ D,x1-z.off=D:=⟨_,rfl⟩
       rw [hD] at hOut hIn
       have hDb : -400000000000≤D∧D≤400000000000:=by omega
       have hw:IntKind.i64.wrap (x1-z.off)=D:=by rw [IntKind.wrap_i64];omega
       by_cases ho1:D < -62135596800
       ·have hO:=hOut (dTt (.inl ho1))
        have HO1:=Hh hO.1
        have HO2:=Hh hO.2
        clear hOut hIn hO
        go_wp2
        go_roundw
        case rel=>exact ⟨k+1,s,L,by omega,by go_num,rfl,⟨HO1.out.symm,HO2.out.symm⟩,hsb,by omega,HO0.out,HQ2.out,R6,HNE⟩
        case measure=>simp [intOf];omega
       by_cases ho2:253402300800≤D
       ·have hO:=hOut (dTt (.inr ho2))
        have HO1:=Hh hO.1
        have HO2:=Hh hO.2
        clear hOut hIn hO
        go_wp2
        go_roundw
        case rel=>exact ⟨k+1,s,L,by omega,by go_num,rfl,⟨HO1.out.symm,HO2.out.symm⟩,hsb,by omega,HO0.out,HQ2.out,R6,HNE⟩
        case measure=>simp [intOf];omega
       have hI:=hIn (dFf (by omega))
       have HI1:=Hh hI.1
       have HI2:=Hh hI.2
       clear hOut hIn hI
       go_wp2_with fail
       refine (HF.out _).mono ?_
       rintro e w9 ⟨rfl,hb9⟩
       have hz9:wr.heap.size+1≤w9.heap.size:=by have:=hb9.size;omega
       have HO9:=Hh (Zz8 HO0.out hb9)
       have R9:=Hh (R6.out.on hb9)
       have y9:w9.cell? ⟨wr.heap.size,9,F⟩=some (A B r.sv):=(hb9.cell (p:=⟨wr.heap.size,9,F⟩) (by show wr.heap.size<WR.heap.size;omega)).trans HY9.out
       have y6:w9.cell? ⟨w.heap.size,6,F⟩=some (A B z.off):=(hb9.cell (p:=⟨w.heap.size,6,F⟩) (by show w.heap.size<WR.heap.size;omega)).trans yc6
       have hB9:Below w8.heap.size w8 (w9.alloc (G (encH (Z+(m:Int),⟨D,z.tyR r⟩)).toArray 103)):=(HQ2.out.trans (hb9.mono HQ2.out.size)).alloc (by have:=HQ2.out.size;have:=hb9.size;omega) _
       have yne:some wr.heap.size≠u8.ownBlock:=fun e=>by have:=(HOWN.out.lt _ e.symm).2;omega
       have hbase:w8.heap.size≤w9.heap.size+1:=by have:=HQ2.out.size;have:=hb9.size;omega
       go_wp2_with (at_builtin;refine wpList_append_own_at _ rfl (.tmp 88) (.tmp 101) _ rfl w8.heap.size 103 i0 _ 5 48 Tryz.underlying99 hi0 hz0 hz1 hz2 rfl (by decide) _ _ _ rfl (HO9.out.alloc _) ⟨w9.heap.size,0,F⟩ 1 1 (encH (Z+(m:Int),⟨D,z.tyR r⟩)) rfl rfl (ZzS w9 _ _) (Zz5z _) (by simp only [maxLen];omega) (by omega) (by simpa using hbase) ?_;intro v' w2 hown2 hg2 _ hat2;have y9b:w2.cell? ⟨wr.heap.size,9,F⟩=some (A B r.sv):=hg2.cell (Lib.cell?_alloc_some _ y9) yne)
       have HN2:=Hh (show ∀ g,(Value.slice (some ⟨g7,o7,F⟩) X.length c5).ownBlock=some g→v'.ownBlock≠some g from fun g h1 h2=>by
        have h3:g7=g:=Option.some.inj h1
        rcases hat2 with h|h
        ·exact HNE.out g h1 (h.symm.trans h2)
        rw [h] at h2
        have h4:=Option.some.inj h2
        rw [World.size_alloc] at h4
        omega)
       have hB10:=Zz3 HO9.out nlR hB9 hg2
       have R10:=Hh ((R9.out.on (bLR.alloc nlR _)).grown hg2 (by obtain ⟨_,_,_,h,_⟩:=hg2;exact h) HNE.out)
       go_roundw
       case rel=>exact ⟨k+1,r.sv,_,by omega,by go_num,rfl,⟨HI1.out.symm,HI2.out.symm⟩,hsv,by simp;omega,Zzp hown2,hB10,R10,HN2⟩
       case measure=>simp [intOf];omega
      ·rw [hsh] at hOut hIn
       have b2:(r.cl == 2)=false:=by simp;omega
       have b1:(r.cl == 1)=true:=by simpa using h1
       clear hsh h1
       obtain ⟨D,hD⟩:∃ D,x1-(z.off+s)=D:=⟨_,rfl⟩
       rw [hD] at hOut hIn
       have hDb : -400000000000≤D∧D≤400000000000:=by omega
       have hw:IntKind.i64.wrap (x1-(z.off+s))=D:=by rw [IntKind.wrap_i64];omega
       by_cases ho1:D < -62135596800
       ·have hO:=hOut (dTt (.inl ho1))
        have HO1:=Hh hO.1
        have HO2:=Hh hO.2
        clear hOut hIn hO
        go_wp2
        go_roundw
        case rel=>exact ⟨k+1,s,L,by omega,by go_num,rfl,⟨HO1.out.symm,HO2.out.symm⟩,hsb,by omega,HO0.out,HQ2.out,R6,HNE⟩
        case measure=>simp [intOf];omega
       by_cases ho2:253402300800≤D
       ·have hO:=hOut (dTt (.inr ho2))
        have HO1:=Hh hO.1
        have HO2:=Hh hO.2
        clear hOut hIn hO
        go_wp2
        go_roundw
        case rel=>exact ⟨k+1,s,L,by omega,by go_num,rfl,⟨HO1.out.symm,HO2.out.symm⟩,hsb,by omega,HO0.out,HQ2.out,R6,HNE⟩
        case measure=>simp [intOf];omega
       have hI:=hIn (dFf (by omega))
       have HI1:=Hh hI.1
       have HI2:=Hh hI.2
       clear hOut hIn hI
       go_wp2_with fail
       refine (HF.out _).mono ?_
       rintro e w9 ⟨rfl,hb9⟩
       have hz9:wr.heap.size+1≤w9.heap.size:=by have:=hb9.size;omega
       have HO9:=Hh (Zz8 HO0.out hb9)
       have R9:=Hh (R6.out.on hb9)
       have y9:w9.cell? ⟨wr.heap.size,9,F⟩=some (A B r.sv):=(hb9.cell (p:=⟨wr.heap.size,9,F⟩) (by show wr.heap.size<WR.heap.size;omega)).trans HY9.out
       have y6:w9.cell? ⟨w.heap.size,6,F⟩=some (A B z.off):=(hb9.cell (p:=⟨w.heap.size,6,F⟩) (by show w.heap.size<WR.heap.size;omega)).trans yc6
       have hB9:Below w8.heap.size w8 (w9.alloc (G (encH (Z+(m:Int),⟨D,z.tyR r⟩)).toArray 103)):=(HQ2.out.trans (hb9.mono HQ2.out.size)).alloc (by have:=HQ2.out.size;have:=hb9.size;omega) _
       have yne:some wr.heap.size≠u8.ownBlock:=fun e=>by have:=(HOWN.out.lt _ e.symm).2;omega
       have hbase:w8.heap.size≤w9.heap.size+1:=by have:=HQ2.out.size;have:=hb9.size;omega
       go_wp2_with (at_builtin;refine wpList_append_own_at _ rfl (.tmp 88) (.tmp 101) _ rfl w8.heap.size 103 i0 _ 5 48 Tryz.underlying99 hi0 hz0 hz1 hz2 rfl (by decide) _ _ _ rfl (HO9.out.alloc _) ⟨w9.heap.size,0,F⟩ 1 1 (encH (Z+(m:Int),⟨D,z.tyR r⟩)) rfl rfl (ZzS w9 _ _) (Zz5z _) (by simp only [maxLen];omega) (by omega) (by simpa using hbase) ?_;intro v' w2 hown2 hg2 _ hat2;have y9b:w2.cell? ⟨wr.heap.size,9,F⟩=some (A B r.sv):=hg2.cell (Lib.cell?_alloc_some _ y9) yne)
       have HN2:=Hh (show ∀ g,(Value.slice (some ⟨g7,o7,F⟩) X.length c5).ownBlock=some g→v'.ownBlock≠some g from fun g h1 h2=>by
        have h3:g7=g:=Option.some.inj h1
        rcases hat2 with h|h
        ·exact HNE.out g h1 (h.symm.trans h2)
        rw [h] at h2
        have h4:=Option.some.inj h2
        rw [World.size_alloc] at h4
        omega)
       have hB10:=Zz3 HO9.out nlR hB9 hg2
       have R10:=Hh ((R9.out.on (bLR.alloc nlR _)).grown hg2 (by obtain ⟨_,_,_,h,_⟩:=hg2;exact h) HNE.out)
       go_roundw
       case rel=>exact ⟨k+1,r.sv,_,by omega,by go_num,rfl,⟨HI1.out.symm,HI2.out.symm⟩,hsv,by simp;omega,Zzp hown2,hB10,R10,HN2⟩
       case measure=>simp [intOf];omega
      rw [hsh,Int.sub_zero] at hOut hIn
      have b1:(r.cl == 1)=false:=by simpa using h1
      have b2:(r.cl == 2)=false:=by simpa using h2
      clear hsh h1 h2
      obtain ⟨D,hD⟩:∃ D,x1=D:=⟨_,rfl⟩
      subst hD
      by_cases ho1:x1 < -62135596800
      ·have hO:=hOut (dTt (.inl ho1))
       have HO1:=Hh hO.1
       have HO2:=Hh hO.2
       clear hOut hIn hO
       go_wp2
       go_roundw
       case rel=>exact ⟨k+1,s,L,by omega,by go_num,rfl,⟨HO1.out.symm,HO2.out.symm⟩,hsb,by omega,HO0.out,HQ2.out,R6,HNE⟩
       case measure=>simp [intOf];omega
      by_cases ho2:253402300800≤x1
      ·have hO:=hOut (dTt (.inr ho2))
       have HO1:=Hh hO.1
       have HO2:=Hh hO.2
       clear hOut hIn hO
       go_wp2
       go_roundw
       case rel=>exact ⟨k+1,s,L,by omega,by go_num,rfl,⟨HO1.out.symm,HO2.out.symm⟩,hsb,by omega,HO0.out,HQ2.out,R6,HNE⟩
       case measure=>simp [intOf];omega
      have hI:=hIn (dFf (by omega))
      have HI1:=Hh hI.1
      have HI2:=Hh hI.2
      clear hOut hIn hI
      go_wp2_with fail
      refine (HF.out _).mono ?_
      rintro e w9 ⟨rfl,hb9⟩
      have hz9:wr.heap.size+1≤w9.heap.size:=by have:=hb9.size;omega
      have HO9:=Hh (Zz8 HO0.out hb9)
      have R9:=Hh (R6.out.on hb9)
      have y9:w9.cell? ⟨wr.heap.size,9,F⟩=some (A B r.sv):=(hb9.cell (p:=⟨wr.heap.size,9,F⟩) (by show wr.heap.size<WR.heap.size;omega)).trans HY9.out
      have y6:w9.cell? ⟨w.heap.size,6,F⟩=some (A B z.off):=(hb9.cell (p:=⟨w.heap.size,6,F⟩) (by show w.heap.size<WR.heap.size;omega)).trans yc6
      have hB9:Below w8.heap.size w8 (w9.alloc (G (encH (Z+(m:Int),⟨x1,z.tyR r⟩)).toArray 103)):=(HQ2.out.trans (hb9.mono HQ2.out.size)).alloc (by have:=HQ2.out.size;have:=hb9.size;omega) _
      have yne:some wr.heap.size≠u8.ownBlock:=fun e=>by have:=(HOWN.out.lt _ e.symm).2;omega
      have hbase:w8.heap.size≤w9.heap.size+1:=by have:=HQ2.out.size;have:=hb9.size;omega
      go_wp2_with (at_builtin;refine wpList_append_own_at _ rfl (.tmp 88) (.tmp 101) _ rfl w8.heap.size 103 i0 _ 5 48 Tryz.underlying99 hi0 hz0 hz1 hz2 rfl (by decide) _ _ _ rfl (HO9.out.alloc _) ⟨w9.heap.size,0,F⟩ 1 1 (encH (Z+(m:Int),⟨x1,z.tyR r⟩)) rfl rfl (ZzS w9 _ _) (Zz5z _) (by simp only [maxLen];omega) (by omega) (by simpa using hbase) ?_;intro v' w2 hown2 hg2 _ hat2;have y9b:w2.cell? ⟨wr.heap.size,9,F⟩=some (A B r.sv):=hg2.cell (Lib.cell?_alloc_some _ y9) yne)
      have HN2:=Hh (show ∀ g,(Value.slice (some ⟨g7,o7,F⟩) X.length c5).ownBlock=some g→v'.ownBlock≠some g from fun g h1 h2=>by
       have h3:g7=g:=Option.some.inj h1
       rcases hat2 with h|h
       ·exact HNE.out g h1 (h.symm.trans h2)
       rw [h] at h2
       have h4:=Option.some.inj h2
       rw [World.size_alloc] at h4
       omega)
      have hB10:=Zz3 HO9.out nlR hB9 hg2
      have R10:=Hh ((R9.out.on (bLR.alloc nlR _)).grown hg2 (by obtain ⟨_,_,_,h,_⟩:=hg2;exact h) HNE.out)
      go_roundw
      case rel=>exact ⟨k+1,r.sv,_,by omega,by go_num,rfl,⟨HI1.out.symm,HI2.out.symm⟩,hsv,by simp;omega,Zzp hown2,hB10,R10,HN2⟩
      case measure=>simp [intOf];omega
     have hk':k=X.length:=by omega
     subst hk'
     rw [HKA.out] at HLS
     go_wp2
     go_roundw
     case rel=>exact ⟨m+1,s,L,by omega,by go_num,rfl,HLS,hsb,by omega,HOWN.out,hbk⟩
     case measure=>simp [intOf];omega
   have hm':m=n:=by omega
   subst hm'
   have HFIN:=Hh (show Rd encH 5 wr u8 (z.happ s0 (evT z.tail Z m)) by rw [←HLS.out.1];exact Zz7 encH_len HOWN.out rfl)
   have hno:min b 9999<Z+(m:Int):=by have:=HN.out;omega
   go_wp2
   go_ret
   exact ⟨_,rfl,HFIN.out,hB,fun g hg=>nLt hB8.size (HOWN.out.lt g hg).1⟩
theorem Zz2b (z:Zn) (vT vR:Value) (b:Int) (w:World) (hl:z.table.length≤1000000) (hll:z.tail.length≤12) (hT:Rd Trn.cells 4 w vT z.table) (hR:Rd Rule.cells 11 w vR z.tail) (hfs:z.form.size≤2000000) (h1:1≤z.year) (h2:z.year≤9999) (n:Nat) (hn:(n:Int)=min b 9999-z.year+1) (hn1:n≤13) (ho : -57600≤z.off∧z.off≤57600) (hs : -10800≤z.lastT.sv∧z.lastT.sv≤10800) (hrs:∀ r∈z.tail,-10800≤r.sv∧r.sv≤10800) :
  Calls Tryz.prog 66 #[z.v vT vR,A B z.year,A B b] w fun e w'=>∃ v,e=.returned v∧Rd encH 5 w' v (z.happ z.lastT.sv (evT z.tail z.year n))∧Below w.heap.size w w':=by
 refine (Zz5Q z vT vR z.year b z.year z.lastT.sv w hl hll hT hR hfs h1 h2 (.inl ⟨Int.le_refl _,rfl,rfl⟩) n (by omega) (by omega) ho hs hrs).mono ?_
 rintro e w' ⟨v,a1,a2,a3,_⟩
 exact ⟨v,a1,a2,a3⟩
/- The reference of layer 22: happenings from any year on. -/
theorem r22_hapA (z:Zn) (vT vR:Value) (f b:Int) (w:World) (hl:z.table.length≤1000000) (hll:z.tail.length≤12) (hT:Rd Trn.cells 4 w vT z.table) (hR:Rd Rule.cells 11 w vR z.tail) (hfs:z.form.size≤2000000) (h1:1≤z.year) (h2:z.year≤9999) (hfz:f≤z.year) (n:Nat) (hn:n=(min b 9999-z.year+1).toNat) (hn1:n≤200) (ho : -57600≤z.off∧z.off≤57600) (hs : -10800≤z.lastT.sv∧z.lastT.sv≤10800) (hrs:∀ r∈z.tail,-10800≤r.sv∧r.sv≤10800) :
  Calls Tryz.prog 66 #[z.v vT vR,A B f,A B b] w fun e w'=>∃ v,e=.returned v∧Rd encH 5 w' v (z.happ z.lastT.sv (evT z.tail z.year n))∧Below w.heap.size w w'∧∀ g,v.ownBlock=some g→w.heap.size≤g :=
 Zz5Q z vT vR f b z.year z.lastT.sv w hl hll hT hR hfs h1 h2 (.inl ⟨hfz,rfl,rfl⟩) n hn hn1 ho hs hrs
theorem r22_hapB (z:Zn) (vT vR:Value) (f b:Int) (w:World) (hl:z.table.length≤1000000) (hll:z.tail.length≤12) (hT:Rd Trn.cells 4 w vT z.table) (hR:Rd Rule.cells 11 w vR z.tail) (hfs:z.form.size≤2000000) (h1:1≤z.year) (h2:z.year≤9999) (hfz:z.year<f) (hf9:f≤9999) (n:Nat) (hn:n=(min b 9999-f+1).toNat) (hn1:n≤200) (ho : -57600≤z.off∧z.off≤57600) (hrs:∀ r∈z.tail,-10800≤r.sv∧r.sv≤10800) :
  Calls Tryz.prog 66 #[z.v vT vR,A B f,A B b] w fun e w'=>∃ v,e=.returned v∧Rd encH 5 w' v (z.happ 0 (evT z.tail f n))∧Below w.heap.size w w'∧∀ g,v.ownBlock=some g→w.heap.size≤g :=
 Zz5Q z vT vR f b f 0 w hl hll hT hR hfs h1 h2 (.inr ⟨hfz,hf9,rfl,rfl⟩) n hn hn1 ho (by decide) hrs
end Go.Proofs.YtmmgdjgcikbhbaaGreat

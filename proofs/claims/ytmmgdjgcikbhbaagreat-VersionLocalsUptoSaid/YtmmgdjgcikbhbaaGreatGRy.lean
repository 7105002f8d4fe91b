/- Joined by merge.py: RefY. -/
import Derived.Test.YtmmgdjgcikbhbaaGreatGRg
/- The reference of layer 20: insert. -/
open Go.Value renaming int → C
open Go.IntKind renaming i64 → D
open Option renaming none → F
open Go.Obj renaming cells → G
namespace Go.Proofs.YtmmgdjgcikbhbaaGreat
set_option linter.unusedSimpArgs false
set_option linter.unusedVariables false
open Go.ChangeShapes Go.WideShapes Go.ChangeAt Go.RowKit
theorem srt_put {es:List (Int × Int)} {x:Int × Int} {i:Nat} (hs:es.Pairwise (fun a b=>leE a b=true)) (hi:i≤es.length) (h1:∀ j,i≤j→j<es.length→ltE x es[j]! = true) (h2:i=0∨ltE x es[i-1]! = false) :
  es.take i++x :: es.drop i=srt (es++[x]):=by
 have hp:(es.take i++x :: es.drop i).Perm (srt (es++[x])):=by
  refine List.Perm.trans ?_ (List.mergeSort_perm _ _).symm
  refine List.perm_middle.trans ?_
  rw [List.take_append_drop]
  exact (List.perm_append_singleton x es).symm
 have hso:(es.take i++x :: es.drop i).Pairwise (fun a b=>leE a b=true):=by
  rw [List.pairwise_append,List.pairwise_cons]
  have hst:=hs
  rw [←List.take_append_drop i es,List.pairwise_append] at hst
  have hlo:∀ a∈es.take i,leE a x=true:=fun a ha=>by
   obtain ⟨j,hj,rfl⟩:=List.getElem_of_mem ha
   rw [List.length_take] at hj
   rw [List.getElem_take]
   rcases h2 with h2|h2
   ·omega
   have h3:leE es[i-1]! x=true:=by unfold leE;rw [h2];rfl
   rw [getElem!_pos es (i-1) (by omega)] at h3
   rcases Nat.lt_or_eq_of_le (show j≤i-1 by omega) with h4|h4
   ·exact Zz7b _ _ _ ((List.pairwise_iff_getElem.1 hs) j (i-1) (by omega) (by omega) h4) h3
   simp only [h4];exact h3
  have hhi:∀ b∈es.drop i,leE x b=true:=fun b hb=>by
   obtain ⟨j,hj,rfl⟩:=List.getElem_of_mem hb
   rw [List.length_drop] at hj
   rw [List.getElem_drop]
   have h3:=h1 (i+j) (by omega) (by omega)
   rw [getElem!_pos es (i+j) (by omega)] at h3
   unfold leE
   simp [ltE] at h3 ⊢
   omega
  refine ⟨hst.1,⟨hhi,hst.2.1⟩,fun a ha b hb=>?_⟩
  rcases List.mem_cons.1 hb with rfl|hb
  ·exact hlo a ha
  exact hst.2.2 a ha b hb
 exact hp.eq_of_pairwise (fun a b _ _ h1 h2=>Zz3Q h1 h2) hso (Zz1U _)
theorem srt_sorted (l:List (Int × Int)):(srt l).Pairwise (fun a b=>leE a b=true):=Zz1U _
theorem srt_perm {a b:List (Int × Int)} (h:a.Perm b):srt a=srt b :=
 List.Perm.eq_of_pairwise (fun a b _ _ h1 h2=>Zz3Q h1 h2) (Zz1U _) (Zz1U _) ((List.mergeSort_perm _ _).trans (h.trans (List.mergeSort_perm _ _).symm))
theorem srt_self {l:List (Int × Int)} (h:l.Pairwise (fun a b=>leE a b=true)):srt l=l :=
 List.Perm.eq_of_pairwise (fun a b _ _ h1 h2=>Zz3Q h1 h2) (Zz1U _) h (List.mergeSort_perm _ _)
theorem srt_srt (a b:List (Int × Int)):srt (srt a++b)=srt (a++b):=srt_perm ((List.mergeSort_perm _ _).append_right _)
theorem rd_take {es:List (Int × Int)} {i g off c:Nat} {w W:World} (hi:i≤es.length) (hg:g<w.heap.size) (hz:w.heap.size≤W.heap.size) (h:∀ j,j<es.length→∀ q u,(encE es[j]!)[q]? = some u→W.cell? ⟨g,off+j*2+q,F⟩=some u):Rd encE 2 W (.slice (some ⟨g,off,F⟩) i c) (es.take i):=by
 have hl:(es.take i).length=i:=by rw [List.length_take];omega
 refine .inr ⟨g,off,c,by rw [hl],by omega,fun j hj q u hu=>?_⟩
 rw [hl] at hj
 have e:(es.take i)[j]! = es[j]! := by rw [getElem!_pos _ j (by omega),getElem!_pos es j (by omega)];simp
 rw [e] at hu
 exact h j (by omega) q u hu
theorem rd_drop {es:List (Int × Int)} {i g off c:Nat} {w W:World} (hcap:es.length≤c) (hi:i≤es.length) (hg:g<w.heap.size) (hz:w.heap.size≤W.heap.size) (h:∀ j,j<es.length→∀ q u,(encE es[j]!)[q]? = some u→W.cell? ⟨g,off+j*2+q,F⟩=some u) (cc:Nat):Rd encE 2 W (.slice (if c=i then some ⟨g,off,F⟩ else some ⟨g,off+i*2,F⟩) (es.length-i) cc) (es.drop i):=by
 have hl:(es.drop i).length=es.length-i:=by rw [List.length_drop]
 by_cases hci:c=i
 ·have h0:es.length-i=0:=by omega
  rw [if_pos hci,h0]
  exact .inl ⟨List.eq_nil_of_length_eq_zero (hl.trans h0),_,_,rfl⟩
 rw [if_neg hci]
 refine .inr ⟨g,off+i*2,cc,by rw [hl],by omega,fun j hj q u hu=>?_⟩
 rw [hl] at hj
 have e:(es.drop i)[j]! = es[i+j]! := by rw [getElem!_pos _ j (by omega),getElem!_pos es (i+j) (by omega)];simp
 rw [e] at hu
 rw [show off+i*2+j*2+q=off+(i+j)*2+q by omega]
 exact h (i+j) (by omega) q u hu
theorem rd_drop0 {es:List (Int × Int)} {g off:Nat} {w W:World} (hg:g<w.heap.size) (hz:w.heap.size≤W.heap.size) (h:∀ j,j<es.length→∀ q u,(encE es[j]!)[q]? = some u→W.cell? ⟨g,off+j*2+q,F⟩=some u) (cc:Nat):Rd encE 2 W (.slice (some ⟨g,off,F⟩) es.length cc) (es.drop 0) :=
 .inr ⟨g,off,cc,rfl,by omega,h⟩
def Cap (v:Value):Prop:=∀ A l c,v=.slice A l c→l≤c
theorem Zz2z {w:World} {base e k n:Nat} {v:Value} {xs:List Value} (h:w.ownsRow base e k v n xs):Cap v:=by
 intro A l c hv
 rcases h.2 with ⟨e0,e1⟩|⟨g,cap,cur,e0,_,_,hle,_⟩
 ·rw [hv] at e0;cases e0;omega
 rw [hv] at e0;cases e0;exact hle
def CapF (B:Nat) (v:Value):Prop:=Cap v∧∀ g,v.ownBlock=some g→B≤g
theorem Zz2O (w:World) (base:Nat) (hb:base≤w.heap.size):(w.alloc (G #[] 143)).ownsRow base 143 2 (.slice (some ⟨w.heap.size,0,F⟩) 0 0) 0 [] :=
 ⟨rfl,.inr ⟨w.heap.size,0,#[],rfl,hb,heap_alloc_new _ _,Nat.le_refl _,by simp [maxLen],rfl,rfl⟩⟩
set_option maxRecDepth 100000 in
set_option maxHeartbeats 4000000 in
theorem Zz3q (es:List (Int × Int)) (x1 x2:Int) (g off c:Nat) (w:World) (hs:es.Pairwise (fun a b=>leE a b=true)) (hl:es.length≤1000000) (hcap:es.length≤c) (h0:0<es.length) (hg:g<w.heap.size)
  (hc:∀ j,j<es.length→∀ i u,(encE es[j]!)[i]? = some u→w.cell? ⟨g,off+j*2+i,F⟩=some u) :
  Calls Tryz.prog 161 #[.slice (some ⟨g,off,F⟩) es.length c,.agg #[C D x1,C D x2]] w fun e w'=>∃ v,e=.returned v∧Rd encE 2 w' v (srt (es++[(x1,x2)]))∧CapF w.heap.size v∧Below w.heap.size w w':=by
 obtain ⟨i0,hi0,hz0,hz1,hz2⟩:=info_parts infoE
 have HS:=Hh hs
 clear hs
 have bw:Below w.heap.size w (w.alloc (G #[C D x1,C D x2] 143)):=bLR.alloc nlR _
 have HX0:=Hh (show (w.alloc (G #[C D x1,C D x2] 143)).cell? ⟨w.heap.size,0,F⟩=some (C D x1) by simp)
 have HX1:=Hh (show (w.alloc (G #[C D x1,C D x2] 143)).cell? ⟨w.heap.size,1,F⟩=some (C D x2) by simp)
 have hb0':w.heap.size<(w.alloc (G #[C D x1,C D x2] 143)).heap.size:=by simp
 have HC2:=Hh (fun j hj i u hu=>(bw.cell (p:=⟨g,off+j*2+i,F⟩) hg).trans (hc j hj i u hu))
 have hg':g<(w.alloc (G #[C D x1,C D x2] 143)).heap.size:=by simp;omega
 have BW:=Hh bw
 have hwb:w.heap.size+1=(w.alloc (G #[C D x1,C D x2] 143)).heap.size:=by simp
 clear hc bw
 go_enter Tryz.func161,Tryz.ntmps161
 go_wp2
 generalize hb00:w.heap.size=b0 at *
 clear hg
 have hg:=hg'
 have HC:=HC2
 clear HC2 hg'
 generalize w.alloc (G #[C D x1,C D x2] 143)=wb at *
 have HWB:=Hh hwb
 have HB00:=Hh hb00
 clear hwb hb00
 go_loopw [5] (fun v5 wr=>∃ i:Nat,i≤es.length∧v5=C D i∧Hid (∀ j,i≤j→j<es.length→ltE (x1,x2) es[j]! = true)∧Below wb.heap.size wb wr) (fun v5 _=>(intOf v5).toNat)
 case atStart=>exact ⟨es.length,Nat.le_refl _,rfl,fun j h1 h2=>absurd h2 (by omega),Below.refl _ _⟩
 case round =>
  obtain ⟨i,hi,rfl,HJ,hbw⟩:=hrel
  have hx0:=(hbw.cell (p:=⟨b0,0,F⟩) hb0').trans HX0.out
  have hx1:=(hbw.cell (p:=⟨b0,1,F⟩) hb0').trans HX1.out
  by_cases hi0':i=0
  ·subst hi0'
   have HP:=Hh (srt_put HS.out hi HJ.out (.inl rfl))
   go_wp2_with fail
   go_quiet (fail)
   have hb0:=Zz1 hbw nq
   have hcells:=fun (W:World) (hW:Below wb.heap.size wb W) (j:Nat) (hj:j<es.length) (q:Nat) (u:Value) (hu:(encE es[j]!)[q]? = some u)=>(hW.cell (p:=⟨g,off+j*2+q,F⟩) hg).trans (HC.out j hj q u hu)
   have HRT:=Hh (fun W hW=>rd_take (c:=c) (i:=0) (by omega) hg hW.size (hcells W hW))
   have HRD:=Hh (fun W hW cc=>rd_drop0 hg hW.size (hcells W hW) cc)
   clear hcells hbw
   have HLT:=Hh (show (es.take (0)).length=0 by rw [List.length_take];omega)
   generalize wr.drewN nq=wq at hb0 ⊢
   have HB0:=Hh hb0
   have OW:=Hh (Zz2O wq wb.heap.size hb0.size)
   clear hb0
   go_wp2_with (first
    | (at_builtin;refine Zz4 rfl (.tmp 46) (.tmp 49) _ rfl wb.heap.size 143 i0 _ 2 16 Tryz.underlying139 hi0 hz0 hz1 hz2 rfl (by decide) _ _ _ rfl OW.out encE Zzn Zzv _ rfl (es.take (0)) (HRT.out _ (HB0.out.alloc HB0.out.size _)) (by first|omega|(simp only [List.length_take,List.length_drop,maxLen];omega)|(simp [maxLen];omega)) (by first|omega|(simp only [List.length_take,List.length_drop,maxLen];omega)|(simp [maxLen];omega)) (by have:=HB0.out.size;simp;omega) ?_;intro v2 w2 hown2 hg2;rw [HLT.out,Nat.zero_add] at hown2;obtain ⟨A2,c2,rfl⟩:=Zz1n hown2;have hb2:=Zz3 OW.out nlR (HB0.out.alloc HB0.out.size _) hg2;have k0:=(hb2.cell (p:=⟨b0,0,F⟩) hb0').trans HX0.out;have k1:=(hb2.cell (p:=⟨b0,1,F⟩) hb0').trans HX1.out;have HO2:=Hh hown2;have HB2:=Hh hb2;clear hown2 hg2 hb2)
    | (at_builtin;refine wpList_append_own _ rfl (.tmp 51) (.tmp 53) _ rfl wb.heap.size 143 i0 _ 2 16 Tryz.underlying139 hi0 hz0 hz1 hz2 rfl (by decide) _ _ _ rfl (HO2.out.alloc _) ⟨w2.heap.size,0,F⟩ 1 1 (encE (x1,x2)) rfl rfl (ZzS w2 _ _) (Zzv _) (by first|omega|(simp only [List.length_take,List.length_drop,maxLen];omega)|(simp [maxLen];omega)) (by first|omega|(simp only [List.length_take,List.length_drop,maxLen];omega)|(simp [maxLen];omega)) (by have:=HB2.out.size;simp;omega) ?_;intro v3 w3 hown3 hg3 _;obtain ⟨A3,c3,rfl⟩:=Zz1n hown3;have hb3:=Zz3 HO2.out nlR (HB2.out.alloc HB2.out.size _) hg3;have HO3:=Hh hown3;have HB3:=Hh hb3;clear hown3 hg3 hb3)
    | (at_builtin;refine Zz4 rfl (.tmp 55) (.tmp 58) _ rfl wb.heap.size 143 i0 _ 2 16 Tryz.underlying139 hi0 hz0 hz1 hz2 rfl (by decide) _ _ _ rfl HO3.out encE Zzn Zzv _ rfl (es.drop (0)) (HRD.out _ HB3.out _) (by first|omega|(simp only [List.length_take,List.length_drop,maxLen];omega)|(simp [maxLen];omega)) (by first|omega|(simp only [List.length_take,List.length_drop,maxLen];omega)|(simp [maxLen];omega)) HB3.out.size ?_;intro v4 w4 hown4 hg4;have hb4:=Zz3 HO3.out nlR HB3.out hg4;have HO4:=Hh hown4;have HB4:=Hh hb4;clear hown4 hg4 hb4))
   all_goals (
    go_ret
    have hfin:=HO4.out
    have h00:=HB00.out
    refine ⟨_,rfl,?_,⟨Zz2z HO4.out,fun g hg=>by have:=(HO4.out.lt g hg).1;have:=HWB.out;omega⟩,h00▸BW.out.trans (HB4.out.mono (by have:=HWB.out;omega))⟩
    rw [←HP.out]
    refine Zz7 Zzn (n:=0+1+(es.drop (0)).length) (base:=wb.heap.size) (e:=143) ?_ (by simp;omega)
    simpa using hfin)
  obtain ⟨i,rfl⟩:∃ q,i=q+1:=⟨i-1,by omega⟩
  have c0:wr.cell? ⟨g,off+i*2,F⟩=some (C D (es[i]!).1):=(hbw.cell (p:=⟨g,off+i*2,F⟩) hg).trans (HC.out i (by omega) 0 _ rfl)
  have c1:wr.cell? ⟨g,off+i*2+1,F⟩=some (C D (es[i]!).2):=(hbw.cell (p:=⟨g,off+i*2+1,F⟩) hg).trans (HC.out i (by omega) 1 _ rfl)
  have hzz:(0:Int)<(i:Int)+1:=by omega
  have hw1:IntKind.i64.wrap (i:Int)=(i:Int):=by rw [IntKind.wrap_i64];omega
  have hw2:(0:Int)≤(i:Int):=by omega
  have hw3:(i:Int)<(es.length:Int):=by omega
  have ltx:Hid (ltE (x1,x2) es[i]! = decide (x1<(es[i]!).1∨(x1=(es[i]!).1∧x2<(es[i]!).2))):=rfl
  obtain ⟨E1,hE1⟩:∃ E,(es[i]!).1=E:=⟨_,rfl⟩
  obtain ⟨E2,hE2⟩:∃ E,(es[i]!).2=E:=⟨_,rfl⟩
  rw [hE1,hE2] at ltx
  rw [hE1] at c0
  rw [hE2] at c1
  clear hE1 hE2
  by_cases g1:x1<E1
  ·have HL:=Hh (ltx.out.trans (dTt (.inl g1)))
   clear ltx
   go_wp2_with fail
   go_quiet (fail)
   have hbn:=Zz1 hbw nq
   clear hbw hx0 hx1 c0 c1
   generalize wr.drewN nq=wq at hbn ⊢
   go_wp2
   go_roundw
   case rel=>exact ⟨i,by omega,by go_num,fun j h1 h2=>by
    rcases Nat.lt_or_eq_of_le h1 with h3|h3
    ·exact HJ.out j h3 h2
    subst h3;exact HL.out,hbn⟩
   case measure=>first|(simp [intOf];done)|(simp [intOf];omega)
  by_cases g2:E1=x1
  ·have z1:(E1 == x1)=true:=by simpa using g2
   by_cases g3:x2<E2
   ·have HL:=Hh (ltx.out.trans (dTt (.inr ⟨g2.symm,g3⟩)))
    clear ltx g2
    go_wp2_with fail
    go_quiet (fail)
    have hbn:=Zz1 hbw nq
    clear hbw hx0 hx1 c0 c1
    generalize wr.drewN nq=wq at hbn ⊢
    go_wp2
    go_roundw
    case rel=>exact ⟨i,by omega,by go_num,fun j h1 h2=>by
     rcases Nat.lt_or_eq_of_le h1 with h3|h3
     ·exact HJ.out j h3 h2
     subst h3;exact HL.out,hbn⟩
    case measure=>first|(simp [intOf];done)|(simp [intOf];omega)
   have HL:=Hh (ltx.out.trans (dFf (by omega)))
   have HP:=Hh (srt_put HS.out hi HJ.out (.inr HL.out))
   clear ltx g2
   go_wp2_with fail
   go_quiet (fail)
   rw [show ((i:Int)+1)=((i+1:Nat):Int) by omega]
   clear hw1 hw2 hw3 c0 c1 hzz hi0' HL
   generalize i+1=n at *
   have hb0:=Zz1 hbw nq
   have hcells:=fun (W:World) (hW:Below wb.heap.size wb W) (j:Nat) (hj:j<es.length) (q:Nat) (u:Value) (hu:(encE es[j]!)[q]? = some u)=>(hW.cell (p:=⟨g,off+j*2+q,F⟩) hg).trans (HC.out j hj q u hu)
   have HRT:=Hh (fun W hW=>rd_take (c:=c) (i:=n) (by omega) hg hW.size (hcells W hW))
   have HRD:=Hh (fun W hW cc=>rd_drop (c:=c) (i:=n) hcap (by omega) hg hW.size (hcells W hW) cc)
   clear hcells hbw
   have HLT:=Hh (show (es.take (n)).length=n by rw [List.length_take];omega)
   generalize wr.drewN nq=wq at hb0 ⊢
   have HB0:=Hh hb0
   have OW:=Hh (Zz2O wq wb.heap.size hb0.size)
   clear hb0
   go_wp2_with (first
    | (at_builtin;refine Zz4 rfl (.tmp 46) (.tmp 49) _ rfl wb.heap.size 143 i0 _ 2 16 Tryz.underlying139 hi0 hz0 hz1 hz2 rfl (by decide) _ _ _ rfl OW.out encE Zzn Zzv _ rfl (es.take (n)) (HRT.out _ (HB0.out.alloc HB0.out.size _)) (by first|omega|(simp only [List.length_take,List.length_drop,maxLen];omega)|(simp [maxLen];omega)) (by first|omega|(simp only [List.length_take,List.length_drop,maxLen];omega)|(simp [maxLen];omega)) (by have:=HB0.out.size;simp;omega) ?_;intro v2 w2 hown2 hg2;rw [HLT.out,Nat.zero_add] at hown2;obtain ⟨A2,c2,rfl⟩:=Zz1n hown2;have hb2:=Zz3 OW.out nlR (HB0.out.alloc HB0.out.size _) hg2;have k0:=(hb2.cell (p:=⟨b0,0,F⟩) hb0').trans HX0.out;have k1:=(hb2.cell (p:=⟨b0,1,F⟩) hb0').trans HX1.out;have HO2:=Hh hown2;have HB2:=Hh hb2;clear hown2 hg2 hb2)
    | (at_builtin;refine wpList_append_own _ rfl (.tmp 51) (.tmp 53) _ rfl wb.heap.size 143 i0 _ 2 16 Tryz.underlying139 hi0 hz0 hz1 hz2 rfl (by decide) _ _ _ rfl (HO2.out.alloc _) ⟨w2.heap.size,0,F⟩ 1 1 (encE (x1,x2)) rfl rfl (ZzS w2 _ _) (Zzv _) (by first|omega|(simp only [List.length_take,List.length_drop,maxLen];omega)|(simp [maxLen];omega)) (by first|omega|(simp only [List.length_take,List.length_drop,maxLen];omega)|(simp [maxLen];omega)) (by have:=HB2.out.size;simp;omega) ?_;intro v3 w3 hown3 hg3 _;obtain ⟨A3,c3,rfl⟩:=Zz1n hown3;have hb3:=Zz3 HO2.out nlR (HB2.out.alloc HB2.out.size _) hg3;have HO3:=Hh hown3;have HB3:=Hh hb3;clear hown3 hg3 hb3)
    | (at_builtin;refine Zz4 rfl (.tmp 55) (.tmp 58) _ rfl wb.heap.size 143 i0 _ 2 16 Tryz.underlying139 hi0 hz0 hz1 hz2 rfl (by decide) _ _ _ rfl HO3.out encE Zzn Zzv _ rfl (es.drop (n)) (HRD.out _ HB3.out _) (by first|omega|(simp only [List.length_take,List.length_drop,maxLen];omega)|(simp [maxLen];omega)) (by first|omega|(simp only [List.length_take,List.length_drop,maxLen];omega)|(simp [maxLen];omega)) HB3.out.size ?_;intro v4 w4 hown4 hg4;have hb4:=Zz3 HO3.out nlR HB3.out hg4;have HO4:=Hh hown4;have HB4:=Hh hb4;clear hown4 hg4 hb4))
   all_goals (
    go_ret
    have hfin:=HO4.out
    have h00:=HB00.out
    refine ⟨_,rfl,?_,⟨Zz2z HO4.out,fun g hg=>by have:=(HO4.out.lt g hg).1;have:=HWB.out;omega⟩,h00▸BW.out.trans (HB4.out.mono (by have:=HWB.out;omega))⟩
    rw [←HP.out]
    refine Zz7 Zzn (n:=n+1+(es.drop (n)).length) (base:=wb.heap.size) (e:=143) ?_ (by simp;omega)
    simpa using hfin)
  have z1:(E1 == x1)=false:=by simpa using g2
  have HL:=Hh (ltx.out.trans (dFf (by omega)))
  have HP:=Hh (srt_put HS.out hi HJ.out (.inr HL.out))
  have z0:decide (x1<E1)=false:=dFf g1
  clear ltx g2
  go_wp2_with fail
  go_quiet (fail)
  rw [show ((i:Int)+1)=((i+1:Nat):Int) by omega]
  clear hw1 hw2 hw3 c0 c1 hzz hi0' HL
  generalize i+1=n at *
  have hb0:=Zz1 hbw nq
  have hcells:=fun (W:World) (hW:Below wb.heap.size wb W) (j:Nat) (hj:j<es.length) (q:Nat) (u:Value) (hu:(encE es[j]!)[q]? = some u)=>(hW.cell (p:=⟨g,off+j*2+q,F⟩) hg).trans (HC.out j hj q u hu)
  have HRT:=Hh (fun W hW=>rd_take (c:=c) (i:=n) (by omega) hg hW.size (hcells W hW))
  have HRD:=Hh (fun W hW cc=>rd_drop (c:=c) (i:=n) hcap (by omega) hg hW.size (hcells W hW) cc)
  clear hcells hbw
  have HLT:=Hh (show (es.take (n)).length=n by rw [List.length_take];omega)
  generalize wr.drewN nq=wq at hb0 ⊢
  have HB0:=Hh hb0
  have OW:=Hh (Zz2O wq wb.heap.size hb0.size)
  clear hb0
  go_wp2_with (first
   | (at_builtin;refine Zz4 rfl (.tmp 46) (.tmp 49) _ rfl wb.heap.size 143 i0 _ 2 16 Tryz.underlying139 hi0 hz0 hz1 hz2 rfl (by decide) _ _ _ rfl OW.out encE Zzn Zzv _ rfl (es.take (n)) (HRT.out _ (HB0.out.alloc HB0.out.size _)) (by first|omega|(simp only [List.length_take,List.length_drop,maxLen];omega)|(simp [maxLen];omega)) (by first|omega|(simp only [List.length_take,List.length_drop,maxLen];omega)|(simp [maxLen];omega)) (by have:=HB0.out.size;simp;omega) ?_;intro v2 w2 hown2 hg2;rw [HLT.out,Nat.zero_add] at hown2;obtain ⟨A2,c2,rfl⟩:=Zz1n hown2;have hb2:=Zz3 OW.out nlR (HB0.out.alloc HB0.out.size _) hg2;have k0:=(hb2.cell (p:=⟨b0,0,F⟩) hb0').trans HX0.out;have k1:=(hb2.cell (p:=⟨b0,1,F⟩) hb0').trans HX1.out;have HO2:=Hh hown2;have HB2:=Hh hb2;clear hown2 hg2 hb2)
   | (at_builtin;refine wpList_append_own _ rfl (.tmp 51) (.tmp 53) _ rfl wb.heap.size 143 i0 _ 2 16 Tryz.underlying139 hi0 hz0 hz1 hz2 rfl (by decide) _ _ _ rfl (HO2.out.alloc _) ⟨w2.heap.size,0,F⟩ 1 1 (encE (x1,x2)) rfl rfl (ZzS w2 _ _) (Zzv _) (by first|omega|(simp only [List.length_take,List.length_drop,maxLen];omega)|(simp [maxLen];omega)) (by first|omega|(simp only [List.length_take,List.length_drop,maxLen];omega)|(simp [maxLen];omega)) (by have:=HB2.out.size;simp;omega) ?_;intro v3 w3 hown3 hg3 _;obtain ⟨A3,c3,rfl⟩:=Zz1n hown3;have hb3:=Zz3 HO2.out nlR (HB2.out.alloc HB2.out.size _) hg3;have HO3:=Hh hown3;have HB3:=Hh hb3;clear hown3 hg3 hb3)
   | (at_builtin;refine Zz4 rfl (.tmp 55) (.tmp 58) _ rfl wb.heap.size 143 i0 _ 2 16 Tryz.underlying139 hi0 hz0 hz1 hz2 rfl (by decide) _ _ _ rfl HO3.out encE Zzn Zzv _ rfl (es.drop (n)) (HRD.out _ HB3.out _) (by first|omega|(simp only [List.length_take,List.length_drop,maxLen];omega)|(simp [maxLen];omega)) (by first|omega|(simp only [List.length_take,List.length_drop,maxLen];omega)|(simp [maxLen];omega)) HB3.out.size ?_;intro v4 w4 hown4 hg4;have hb4:=Zz3 HO3.out nlR HB3.out hg4;have HO4:=Hh hown4;have HB4:=Hh hb4;clear hown4 hg4 hb4))
  all_goals (
   go_ret
   have hfin:=HO4.out
   have h00:=HB00.out
   refine ⟨_,rfl,?_,⟨Zz2z HO4.out,fun g hg=>by have:=(HO4.out.lt g hg).1;have:=HWB.out;omega⟩,h00▸BW.out.trans (HB4.out.mono (by have:=HWB.out;omega))⟩
   rw [←HP.out]
   refine Zz7 Zzn (n:=n+1+(es.drop (n)).length) (base:=wb.heap.size) (e:=143) ?_ (by simp;omega)
   simpa using hfin)
end Go.Proofs.YtmmgdjgcikbhbaaGreat

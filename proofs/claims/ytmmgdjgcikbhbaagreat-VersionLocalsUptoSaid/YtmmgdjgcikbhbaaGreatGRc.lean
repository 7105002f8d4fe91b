/- Joined by merge.py: RefYear, RefRange. -/
import Derived.Test.YtmmgdjgcikbhbaaGreatGRy
/- The reference of layer 20: insert at an empty list, Year. -/
open Go.Value renaming int → B
open Go.IntKind renaming i64 → C
open Option renaming none → D
namespace Go.Proofs.YtmmgdjgcikbhbaaGreat
set_option linter.unusedSimpArgs false
set_option linter.unusedVariables false
open Go.ChangeShapes Go.WideShapes Go.ChangeAt Go.RowKit
def Ins (w:World) (v:Value) (es:List (Int × Int)):Prop:=(v=.slice none 0 0∧es=[])∨(0<es.length∧Rd encE 2 w v es∧Cap v)
theorem Ins.on {w w':World} {v:Value} {es:List (Int × Int)} (h:Ins w v es) (hb:Below w.heap.size w w'):Ins w' v es:=by
 rcases h with h|⟨h1,h2,h3⟩
 ·exact .inl h
 exact .inr ⟨h1,h2.on hb,h3⟩
theorem Ins.rd {w:World} {v:Value} {es:List (Int × Int)} (h:Ins w v es):Rd encE 2 w v es:=by
 rcases h with ⟨rfl,rfl⟩|⟨_,h2,_⟩
 ·exact .inl ⟨rfl,none,0,rfl⟩
 exact h2
theorem srt_len (l:List (Int × Int)):(srt l).length=l.length:=List.length_mergeSort _
theorem srt_nil:srt []=[]:=List.mergeSort_nil
theorem srt_one (x:Int × Int):srt [x]=[x]:=srt_self (by simp)
set_option maxRecDepth 100000 in
set_option maxHeartbeats 4000000 in
theorem Zz4c (x1 x2:Int) (w:World) :
  Calls Tryz.prog 161 #[.slice none 0 0,.agg #[B C x1,B C x2]] w fun e w'=>∃ v,e=.returned v∧Rd encE 2 w' v [(x1,x2)]∧CapF w.heap.size v∧Below w.heap.size w w':=by
 obtain ⟨i0,hi0,hz0,hz1,hz2⟩:=info_parts infoE
 have bw:Below w.heap.size w (w.alloc (.cells #[B C x1,B C x2] 143)):=bLR.alloc nlR _
 have HX0:=Hh (show (w.alloc (.cells #[B C x1,B C x2] 143)).cell? ⟨w.heap.size,0,D⟩=some (B C x1) by simp)
 have HX1:=Hh (show (w.alloc (.cells #[B C x1,B C x2] 143)).cell? ⟨w.heap.size,1,D⟩=some (B C x2) by simp)
 have hb0':w.heap.size<(w.alloc (.cells #[B C x1,B C x2] 143)).heap.size:=by simp
 have BW:=Hh bw
 have hwb:w.heap.size+1=(w.alloc (.cells #[B C x1,B C x2] 143)).heap.size:=by simp
 clear bw
 go_enter Tryz.func161,Tryz.ntmps161
 go_wp2
 generalize hb00:w.heap.size=b0 at *
 generalize w.alloc (.cells #[B C x1,B C x2] 143)=wb at *
 have HWB:=Hh hwb
 have HB00:=Hh hb00
 clear hwb hb00
 refine wp_loop_rounds 1 ?_
 rw [rounds_succ]
 go_wp2_with fail
 go_quiet (fail)
 have hb0:=Zz1 (Below.refl wb.heap.size wb) nq
 generalize wb.drewN nq=wq at hb0 ⊢
 have HB0:=Hh hb0
 have OW:=Hh (Zz2O wq wb.heap.size hb0.size)
 clear hb0
 go_wp2_with (first
  | (at_builtin;refine Zz4 rfl (.tmp 46) (.tmp 49) _ rfl wb.heap.size 143 i0 _ 2 16 Tryz.underlying139 hi0 hz0 hz1 hz2 rfl (by decide) _ _ _ rfl OW.out encE Zzn Zzv _ rfl [] (.inl ⟨rfl,_,_,rfl⟩) (by simp [maxLen]) (by simp) (by have:=HB0.out.size;simp;omega) ?_;intro v2 w2 hown2 hg2;obtain ⟨A2,c2,rfl⟩:=Zz1n hown2;have hb2:=Zz3 OW.out nlR (HB0.out.alloc HB0.out.size _) hg2;have k0:=(hb2.cell (p:=⟨b0,0,D⟩) hb0').trans HX0.out;have k1:=(hb2.cell (p:=⟨b0,1,D⟩) hb0').trans HX1.out;have HO2:=Hh hown2;have HB2:=Hh hb2;clear hown2 hg2 hb2)
  | (at_builtin;refine wpList_append_own _ rfl (.tmp 51) (.tmp 53) _ rfl wb.heap.size 143 i0 _ 2 16 Tryz.underlying139 hi0 hz0 hz1 hz2 rfl (by decide) _ _ _ rfl (HO2.out.alloc _) ⟨w2.heap.size,0,D⟩ 1 1 (encE (x1,x2)) rfl rfl (ZzS w2 _ _) (Zzv _) (by simp [maxLen]) (by simp) (by have:=HB2.out.size;simp;omega) ?_;intro v3 w3 hown3 hg3 _;obtain ⟨A3,c3,rfl⟩:=Zz1n hown3;have hb3:=Zz3 HO2.out nlR (HB2.out.alloc HB2.out.size _) hg3;have HO3:=Hh hown3;have HB3:=Hh hb3;clear hown3 hg3 hb3)
  | (at_builtin;refine Zz4 rfl (.tmp 55) (.tmp 58) _ rfl wb.heap.size 143 i0 _ 2 16 Tryz.underlying139 hi0 hz0 hz1 hz2 rfl (by decide) _ _ _ rfl HO3.out encE Zzn Zzv _ rfl [] (.inl ⟨rfl,_,_,rfl⟩) (by simp [maxLen]) (by simp) HB3.out.size ?_;intro v4 w4 hown4 hg4;have hb4:=Zz3 HO3.out nlR HB3.out hg4;have HO4:=Hh hown4;have HB4:=Hh hb4;clear hown4 hg4 hb4))
 all_goals (
  go_ret
  have hfin:=HO4.out
  have h00:=HB00.out
  refine ⟨_,rfl,?_,⟨Zz2z HO4.out,fun g hg=>by have:=(HO4.out.lt g hg).1;have:=HWB.out;omega⟩,h00▸BW.out.trans (HB4.out.mono (by have:=HWB.out;omega))⟩
  refine Zz7 Zzn (n:=1) (base:=wb.heap.size) (e:=143) ?_ (by simp)
  simpa using hfin)
theorem Zz7F (es:List (Int × Int)) (x:Int × Int) (v:Value) (w:World) (hs:es.Pairwise (fun a b=>leE a b=true)) (hl:es.length≤1000000) (h:Ins w v es) :
  Calls Tryz.prog 161 #[v,.agg #[B C x.1,B C x.2]] w fun e w'=>∃ v',e=.returned v'∧Ins w' v' (srt (es++[x]))∧Below w.heap.size w w'∧(∀ g,v'.ownBlock=some g→w.heap.size≤g):=by
 rcases h with ⟨rfl,rfl⟩|⟨h1,h2,h3⟩
 ·refine (Zz4c x.1 x.2 w).mono ?_
  rintro e w' ⟨v,rfl,h4,h5,h6⟩
  exact ⟨v,rfl,.inr ⟨by rw [srt_len];simp,by rw [List.nil_append,srt_one];exact h4,h5.1⟩,h6,h5.2⟩
 rcases h2 with ⟨h4,_⟩|⟨g,off,c,rfl,hg,hc⟩
 ·rw [h4] at h1;cases h1
 refine (Zz3q es x.1 x.2 g off c w hs hl (h3 _ _ _ rfl) h1 hg hc).mono ?_
 rintro e w' ⟨v,rfl,h4,h5,h6⟩
 exact ⟨v,rfl,.inr ⟨by rw [srt_len];simp,h4,h5.1⟩,h6,h5.2⟩
theorem Zz6c (r:Rule) (y:Int):(r.active y=true↔(r.at y).2=0):=by
 unfold Rule.active Rule.at
 cases hv:r.valid <;> cases hh:r.has y <;> simp
theorem rat_at {r:Rule} {y:Int} (h:(r.at y).2=0):r.rat y=(r.at y).1:=by
 have h1:=(Zz6c r y).2 h
 unfold Rule.active at h1
 unfold Rule.rat Rule.at
 cases hv:r.valid
 ·simp [hv] at h1
 cases hh:r.has y
 ·simp [hh] at h1
 have h2:r.fr≤y∧y≤r.to:=by
  unfold Rule.has at hh
  simp at hh
  exact ⟨hh.1.1,hh.1.2⟩
 simp [h2]
set_option maxRecDepth 100000 in
set_option maxHeartbeats 2000000 in
theorem Zz4a (rs:List Rule) (y:Int) (b off c:Nat) (w:World) (hb:b<w.heap.size) (hl:rs.length≤1000000) (h0:0<rs.length)
  (hc:∀ j,j<rs.length→∀ i u,(Rule.cells rs[j]!)[i]? = some u→w.cell? ⟨b,off+j*11+i,D⟩=some u) :
  Calls Tryz.prog 102 #[.slice (some ⟨b,off,D⟩) rs.length c,B C y] w fun e w'=>∃ v,e=.returned v∧Ins w' v (yearF rs y)∧Below w.heap.size w w'∧(∀ g,v.ownBlock=some g→w.heap.size≤g):=by
 have HC:=Hh hc
 clear hc
 go_enter Tryz.func102,Tryz.ntmps102
 go_wp2
 go_loopw [5,6] (fun v i wr=>∃ k:Nat,k≤rs.length∧i=B C k∧Hid (Ins wr v (srt (evs y 0 (rs.take k))))∧Below w.heap.size w wr∧Hid (∀ g,v.ownBlock=some g→w.heap.size≤g)) (fun _ i _=>rs.length-(intOf i).toNat)
 case atStart=>exact ⟨0,Nat.zero_le _,rfl,.inl ⟨rfl,by simp [evs,srt_nil]⟩,Below.refl _ _,fun g h=>absurd h (by simp [Value.ownBlock])⟩
 case round =>
  obtain ⟨k,hk,rfl,HI,hbw,HFR⟩:=hrel
  by_cases hlt:k<rs.length
  ·have hcell:∀ i u,(Rule.cells rs[k]!)[i]? = some u→wr.cell? ⟨b,off+k*11+i,D⟩=some u:=fun i u hu=>(hbw.cell (p:=⟨b,off+k*11+i,D⟩) hb).trans (HC.out k hlt i u hu)
   generalize hrr:rs[k]! = r at *
   have c0:wr.cell? ⟨b,off+k*11,D⟩=_:=hcell 0 _ rfl
   have c1:=hcell 1 _ rfl
   have c2:=hcell 2 _ rfl
   have c3:=hcell 3 _ rfl
   have c4:=hcell 4 _ rfl
   have c5:=hcell 5 _ rfl
   have c6:=hcell 6 _ rfl
   have c7:=hcell 7 _ rfl
   have c8:=hcell 8 _ rfl
   have c9:=hcell 9 _ rfl
   have c10:=hcell 10 _ rfl
   have hev:=evs_take y rs k hlt
   rw [hrr] at hev
   have HEV:=Hh hev
   have HA:=Hh (fun W=>r20_At r y W)
   have HAc:=Hh (Zz6c r y)
   have HRat:=Hh (@rat_at r y)
   have hln:=Zz2B y 0 (rs.take k)
   rw [List.length_take] at hln
   have hln':(evs y 0 (rs.take k)).length≤k:=by omega
   clear hcell hrr hev hln
   generalize evs y 0 (rs.take k)=E at *
   by_cases he:(r.at y).2=0
   ·have HE:=Hh (show r.active y=true from HAc.out.2 he)
    have HT:=Hh (HRat.out he)
    have hev1:Hid (ev1 y k r=[((r.at y).1,(k:Int))]):=if_pos he
    clear he
    go_wp2_with (first
     | (go_at_call 160;refine (HA.out _).mono ?_;rintro e w1 ⟨rfl,hb1⟩;rw [HE.out,HT.out])
     | (go_at_call 161;refine (Zz7F (srt E) ((r.at y).1,(k:Int)) _ _ (srt_sorted _) (by rw [srt_len];omega) (HI.out.on hb1)).mono ?_;rintro e w2 ⟨v2,rfl,hi2,hb2,hf2⟩;have HI2:=Hh hi2;clear hi2))
    have hB1:Below w.heap.size w w1:=hbw.trans (hb1.mono hbw.size)
    have hB2:Below w.heap.size w w2:=hB1.trans (hb2.mono hB1.size)
    go_roundw
    case rel=>exact ⟨k+1,by omega,by go_num,by rw [HEV.out,hev1.out,←srt_srt];exact HI2.out,hB2,fun g hg=>nLt hB1.size (hf2 g hg)⟩
    case measure=>simp [intOf];omega
   have HE:=Hh (show r.active y=false by cases hh:r.active y;rfl;exact absurd (HAc.out.1 hh) he)
   have hev1:Hid (ev1 y k r=[]):=if_neg he
   clear he
   go_wp2_with (go_at_call 160;refine (HA.out _).mono ?_;rintro e w1 ⟨rfl,hb1⟩;rw [HE.out])
   go_roundw
   case rel=>exact ⟨k+1,by omega,by go_num,by rw [HEV.out,hev1.out,List.append_nil];exact HI.out.on hb1,hbw.trans (hb1.mono hbw.size),HFR⟩
   case measure=>simp [intOf];omega
  have hk':k=rs.length:=by omega
  subst hk'
  rw [List.take_length] at HI
  go_wp2
  go_ret
  exact ⟨_,rfl,HI.out,hbw,HFR.out⟩
/- The reference of layer 20: All, Range. -/
theorem Zz2a (y:Int) (A:Option Addr) (c:Nat) (w:World) :
  Calls Tryz.prog 102 #[.slice A 0 c,B C y] w fun e w'=>∃ v,e=.returned v∧Ins w' v (yearF [] y)∧Below w.heap.size w w'∧(∀ g,v.ownBlock=some g→w.heap.size≤g):=by
 go_enter Tryz.func102,Tryz.ntmps102
 go_wp2
 refine wp_loop_rounds 1 ?_
 rw [rounds_succ]
 go_wp2
 go_ret
 exact ⟨_,rfl,.inl ⟨rfl,List.mergeSort_nil⟩,Below.refl _ _,fun g h=>absurd h (by simp [Value.ownBlock])⟩
theorem Zz6S (rs:List Rule) (y:Int) (v:Value) (w:World) (hl:rs.length≤1000000) (h:Rd Rule.cells 11 w v rs) :
  Calls Tryz.prog 102 #[v,B C y] w fun e w'=>∃ v,e=.returned v∧Ins w' v (yearF rs y)∧Below w.heap.size w w'∧(∀ g,v.ownBlock=some g→w.heap.size≤g):=by
 by_cases h0:rs=[]
 ·subst h0
  rcases h with ⟨_,A,c,rfl⟩|⟨g,off,c,rfl,_⟩
  ·exact Zz2a y A c w
  exact Zz2a y _ c w
 rcases h with ⟨h1,_⟩|⟨g,off,c,rfl,hg,hc⟩
 ·exact absurd h1 h0
 exact Zz4a rs y g off c w hg hl (List.length_pos_iff.2 h0) hc
theorem r20_Year (rs:List Rule) (y:Int) (v:Value) (w:World) (hl:rs.length≤1000000) (h:Rd Rule.cells 11 w v rs) :
  Calls Tryz.prog 102 #[v,B C y] w fun e w'=>∃ v,e=.returned v∧Ins w' v (yearF rs y)∧Below w.heap.size w w' :=
 (Zz6S rs y v w hl h).mono fun _ _ ⟨v,h1,h2,h3,_⟩=>⟨v,h1,h2,h3⟩
end Go.Proofs.YtmmgdjgcikbhbaaGreat

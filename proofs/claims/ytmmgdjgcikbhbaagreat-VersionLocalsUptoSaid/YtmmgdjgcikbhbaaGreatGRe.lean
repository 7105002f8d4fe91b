/- Joined by merge.py: Ref22a, Ref22b, Ref22c. -/
import Derived.Test.YtmmgdjgcikbhbaaGreatGRc
import Derived.Test.YtmmgdjgcikbhbaaGreatGRd
import Derived.Test.YtmmgdjgcikbhbaaGreatGZw
/- The reference of layer 22: names, types. -/
open Go.Value renaming int → C, string → E, slice → G
open Go.IntKind renaming i64 → D
open Option renaming none → H
namespace Go.Proofs.YtmmgdjgcikbhbaaGreat
set_option linter.unusedSimpArgs false
set_option linter.unusedVariables false
open Go.ChangeShapes Go.WideShapes Go.ChangeAt Go.RowKit
theorem Zz1C (c:UInt8) (w:World):Calls Tryz.prog 152 #[.int .u8 c.toNat] w fun e w'=>e=.returned (.bool (Cv.ltrI c.toNat))∧w'=w:=by
 have hc:=c.toNat_lt
 go_enter Tryz.func152,Tryz.ntmps152
 go_wp2
 all_goals (go_ret;exact ⟨ret1 (vbool (by unfold Cv.ltrI;rw [Bool.eq_iff_iff];simp [*] <;> omega)),rfl⟩)
theorem Zz6R (c:UInt8) (w:World):Calls Tryz.prog 153 #[.int .u8 c.toNat] w fun e w'=>e=.returned (.bool (Cv.digI c.toNat))∧w'=w:=by
 have hc:=c.toNat_lt
 go_enter Tryz.func153,Tryz.ntmps153
 go_wp2
 all_goals (go_ret;exact ⟨ret1 (vbool (by unfold Cv.digI;rw [Bool.eq_iff_iff];simp [*] <;> omega)),rfl⟩)
set_option maxRecDepth 100000 in
set_option maxHeartbeats 1000000 in
theorem r18_Name (s:ByteArray) (w:World):Calls Tryz.prog 97 #[E s] w fun e w'=>e=.returned (.bool (Cv.nameZ s))∧w'=w:=by
 by_cases h1:1≤s.size
 ·by_cases h2:s.size≤30
  ·cases hl:Cv.ltrI (s.get! 0).toNat
   ·rw [show Cv.nameZ s=false by unfold Cv.nameZ;rw [hl];simp]
    rw [Cv.get!_eq s 0 h1] at hl
    have HL:=Hh hl
    clear hl
    go_enter Tryz.func97,Tryz.ntmps97
    go_wp2_with (go_at_call 152;refine (Zz1C _ _).mono ?_;rintro e w1 ⟨rfl,rfl⟩;rw [HL.out])
    go_ret
    exact ⟨rfl,rfl⟩
   have hn:Cv.nameZ s=namAll s:=by unfold Cv.nameZ;rw [hl,dTt ⟨h1,h2⟩];rfl
   rw [hn]
   rw [Cv.get!_eq s 0 h1] at hl
   have HL:=Hh hl
   clear hl hn
   go_enter Tryz.func97,Tryz.ntmps97
   go_wp2_with (go_at_call 152;refine (Zz1C _ _).mono ?_;rintro e w1 ⟨rfl,rfl⟩;rw [HL.out])
   go_loop [3] (fun i=>∃ k:Nat,k≤s.size∧i=C D k∧(s.data.toList.take k).all (fun b=>Cv.namI b.toNat)=true) (fun i=>s.size-(intOf i).toNat)
   case atStart=>exact ⟨0,Nat.zero_le _,rfl,by simp⟩
   case round =>
    obtain ⟨k,hk,rfl,hr⟩:=hrel
    have HR:=Hh hr
    clear hr
    by_cases hlt:k<s.size
    ·cases a1:Cv.ltrI (s[k]'hlt).toNat
     ·cases a2:Cv.digI (s[k]'hlt).toNat
      ·have A1:=Hh a1
       have A2:=Hh a2
       have NS:=Hh (namI_spc a1 a2)
       clear a1 a2
       go_wp2_with (first|(go_at_call 152;refine (Zz1C _ _).mono ?_;rintro e w1 ⟨rfl,rfl⟩;rw [A1.out])|(go_at_call 153;refine (Zz6R _ _).mono ?_;rintro e w1 ⟨rfl,rfl⟩;rw [A2.out]))
       all_goals first
        | (
          go_round
          case rel=>exact ⟨k+1,by omega,by go_num,Cv.all_snoc hlt HR.out (by rw [NS.out];clear NS HR A1 A2;(try simp only [bne_iff_ne,bne_eq_false_iff_eq,ne_eq] at *);simp [spcI];omega)⟩
          case measure=>simp [intOf];omega)
        | (
          go_ret
          exact ⟨ret1 (vbool (Cv.all_bad hlt (by rw [NS.out];clear NS HR A1 A2;(try simp only [bne_iff_ne,bne_eq_false_iff_eq,ne_eq] at *);simp [spcI];omega)).symm),rfl⟩)
      have A1:=Hh a1
      have A2:=Hh a2
      clear a1 a2
      go_wp2_with (first|(go_at_call 152;refine (Zz1C _ _).mono ?_;rintro e w1 ⟨rfl,rfl⟩;rw [A1.out])|(go_at_call 153;refine (Zz6R _ _).mono ?_;rintro e w1 ⟨rfl,rfl⟩;rw [A2.out]))
      go_round
      case rel=>exact ⟨k+1,by omega,by go_num,Cv.all_snoc hlt HR.out (by simp only [Cv.namI,A1.out,A2.out];simp)⟩
      case measure=>simp [intOf];omega
     have A1:=Hh a1
     clear a1
     go_wp2_with (go_at_call 152;refine (Zz1C _ _).mono ?_;rintro e w1 ⟨rfl,rfl⟩;rw [A1.out])
     go_round
     case rel=>exact ⟨k+1,by omega,by go_num,Cv.all_snoc hlt HR.out (by simp only [Cv.namI,A1.out];simp)⟩
     case measure=>simp [intOf];omega
    go_wp2
    go_ret
    exact ⟨ret1 (vbool (Cv.all_end (by omega) HR.out).symm),rfl⟩
  rw [Cv.nameZ_no (by omega)]
  go_enter Tryz.func97,Tryz.ntmps97
  go_wp2
  go_ret
  exact ⟨rfl,rfl⟩
 rw [Cv.nameZ_no (by omega)]
 go_enter Tryz.func97,Tryz.ntmps97
 go_wp2
 go_ret
 exact ⟨rfl,rfl⟩
set_option maxRecDepth 100000 in
set_option maxHeartbeats 1000000 in
theorem r22_plain (s:ByteArray) (w:World):Calls Tryz.prog 154 #[E s] w fun e w'=>e=.returned (.bool (plainB s))∧w=w':=by
 by_cases h1:1≤s.size
 ·by_cases h2:s.size≤8
  ·have hn:plainB s=s.data.toList.all (fun b=>plainC b.toNat):=by unfold plainB;rw [dTt ⟨h1,h2⟩];rfl
   rw [hn]
   clear hn
   obtain ⟨B,hB⟩:∃ B,(s.data.toList.all fun b=>plainC b.toNat)=B:=⟨_,rfl⟩
   rw [hB]
   have HB:=Hh hB
   clear hB
   go_enter Tryz.func154,Tryz.ntmps154
   go_wp2
   go_loop [3] (fun i=>∃ k:Nat,k≤s.size∧i=C D k∧Hid ((s.data.toList.take k).all (fun b=>plainC b.toNat)=true)) (fun i=>s.size-(intOf i).toNat)
   case atStart=>exact ⟨0,Nat.zero_le _,rfl,by simp [RowKit.Hid]⟩
   case round =>
    obtain ⟨k,hk,rfl,HR⟩:=hrel
    by_cases hlt:k<s.size
    ·have HY:=Hh (fun h:plainC (s[k]'hlt).toNat=true=>Cv.all_snoc (p:=fun b=>plainC b.toNat) hlt HR.out h)
     have HN:=Hh (fun h:plainC (s[k]'hlt).toNat=false=>HB.out.symm.trans (Cv.all_bad (p:=fun b=>plainC b.toNat) hlt h))
     go_wp2
     all_goals first
      | (go_ret;refine ⟨ret1 (vbool (HN.out (dFf ?_)).symm),rfl⟩;(try simp only [Bool.not_eq_true',Bool.not_eq_false',beq_iff_eq,beq_eq_false_iff_ne,decide_eq_true_eq,decide_eq_false_iff_not,ne_eq] at *);omega)
      | (
        go_round
        case rel=>refine ⟨k+1,by omega,by go_num,HY.out (dTt ?_)⟩;(try simp only [Bool.not_eq_true',Bool.not_eq_false',beq_iff_eq,beq_eq_false_iff_ne,decide_eq_true_eq,decide_eq_false_iff_not,ne_eq] at *);omega
        case measure=>simp [intOf];omega)
    have HE:=Hh (HB.out.symm.trans (Cv.all_end (p:=fun b=>plainC b.toNat) (show s.size≤k by omega) HR.out))
    go_wp2
    go_ret
    exact ⟨ret1 (vbool HE.out.symm),rfl⟩
  rw [show plainB s=false by unfold plainB;rw [dFf (by omega)];rfl]
  go_enter Tryz.func154,Tryz.ntmps154
  go_wp2
  go_ret
  exact ⟨rfl,rfl⟩
 rw [show plainB s=false by unfold plainB;rw [dFf (by omega)];rfl]
 go_enter Tryz.func154,Tryz.ntmps154
 go_wp2
 go_ret
 exact ⟨rfl,rfl⟩
theorem Zz4d (t:Typ) (w:World):Calls Tryz.prog 98 #[.agg #[C D t.off,C D t.sv,E t.nm]] w fun e w'=>e=.returned (.bool (typB t))∧Below w.heap.size w w':=by
 obtain ⟨a,b,s⟩:=t
 unfold typB
 dsimp only
 by_cases a1 : -93600<a
 ·by_cases a2:a<93600
  ·by_cases a4 : -10800≤b
   ·by_cases a5:b≤10800
    ·have a30:=tmz b
     cases a3:(b.tmod 60 == 0)
     ·rw [a3] at a30
      rw [dTt a1,dTt a2,dTt a4,dTt a5]
      go_enter Tryz.func98,Tryz.ntmps98
      go_wp2
      go_ret
      exact ⟨rfl,bLR.alloc nlR _⟩
     rw [a3] at a30
     rw [dTt a1,dTt a2,dTt a4,dTt a5]
     generalize hp:plainB s=P
     have HP:=Hh (fun W=>r22_plain s W)
     rw [hp] at HP
     clear hp
     go_enter Tryz.func98,Tryz.ntmps98
     go_wp2_with (go_at_call 154;refine (HP.out _).mono ?_;rintro e w1 ⟨rfl,rfl⟩)
     go_ret
     exact ⟨ret1 (vbool (by simp)),bLR.alloc nlR _⟩
    rw [dTt a1,dTt a2,dTt a4,dFf a5]
    have d5:decide (b≤10800)=false:=dFf a5
    go_enter Tryz.func98,Tryz.ntmps98
    go_wp2
    go_ret
    exact ⟨ret1 (vbool (by simp)),bLR.alloc nlR _⟩
   rw [dTt a1,dTt a2,dFf a4]
   have d4:decide (-10800≤b)=false:=dFf a4
   go_enter Tryz.func98,Tryz.ntmps98
   go_wp2
   go_ret
   exact ⟨ret1 (vbool (by simp)),bLR.alloc nlR _⟩
  rw [dTt a1,dFf a2]
  have d2:decide (a<93600)=false:=dFf a2
  go_enter Tryz.func98,Tryz.ntmps98
  go_wp2
  go_ret
  exact ⟨rfl,bLR.alloc nlR _⟩
 rw [dFf a1]
 have d1:decide (-93600<a)=false:=dFf a1
 go_enter Tryz.func98,Tryz.ntmps98
 go_wp2
 go_ret
 exact ⟨rfl,bLR.alloc nlR _⟩
/- The reference of layer 22: end, spaced. -/
set_option maxRecDepth 100000 in
set_option maxHeartbeats 1000000 in
theorem r22_end (z:Zn) (vT vR:Value) (w:World) (hl:z.table.length≤1000000) (h:Rd Trn.cells 4 w vT z.table) :
  Calls Tryz.prog 67 #[z.v vT vR] w fun e w'=>e=.returned (.agg #[C D z.lastT.off,C D z.lastT.sv,E z.lastT.nm])∧Below w.heap.size w w':=by
 rcases h with ⟨h0,A,c,rfl⟩|⟨g,off,c,rfl,hg,hc⟩
 ·have e:z.lastT=z.first:=if_pos h0
  rw [e]
  unfold Zn.v
  generalize z.first=F
  go_enter Tryz.func67,Tryz.ntmps67
  go_wp2
  exact bodyPost_ret (v:=.agg #[C D F.off,C D F.sv,E F.nm]) (by simp [results,Tryz.results67,go_sem]) rfl ⟨rfl,(bLR.alloc nlR _).alloc (by simp) _⟩
 cases hn:z.table.length with
 | zero =>
  have h0:z.table=[]:=List.eq_nil_of_length_eq_zero hn
  have e:z.lastT=z.first:=if_pos h0
  rw [e]
  unfold Zn.v
  generalize z.first=F
  go_enter Tryz.func67,Tryz.ntmps67
  go_wp2
  exact bodyPost_ret (v:=.agg #[C D F.off,C D F.sv,E F.nm]) (by simp [results,Tryz.results67,go_sem]) rfl ⟨rfl,(bLR.alloc nlR _).alloc (by simp) _⟩
 | succ q =>
  rw [Zz58 hn]
  have c1:=hc q (by omega) 1 _ rfl
  have c2:=hc q (by omega) 2 _ rfl
  have c3:=hc q (by omega) 3 _ rfl
  unfold Zn.v
  generalize z.table[q]! = T at *
  clear hc
  go_enter Tryz.func67,Tryz.ntmps67
  go_wp2
  exact bodyPost_ret (v:=.agg #[C D T.ty.off,C D T.ty.sv,E T.ty.nm]) (by simp [results,Tryz.results67,go_sem]) rfl ⟨rfl,(bLR.alloc nlR _).alloc (by simp) _⟩
/- The reference of layer 22: spaced. -/
def SpInv (P:List (Int × Int × Int)) (L:Int):Prop:=P.Pairwise farP∧(∀ x∈P,x.2.1≤L) ∧ -124271193600≤L∧L≤300000000000
theorem SpInv.zero:SpInv [] (-124271193600):=⟨List.Pairwise.nil,fun _ h=>absurd h List.not_mem_nil,by decide,by decide⟩
theorem SpInv.add {P:List (Int × Int × Int)} {L:Int} (h:SpInv P L) (x:Int × Int × Int) (h1:604800≤x.2.1-L) (h2:x.2.1≤300000000000):SpInv (P++[x]) x.2.1:=by
 obtain ⟨p1,p2,p3,p4⟩:=h
 refine ⟨List.pairwise_append.2 ⟨p1,by simp,fun a ha b hb=>?_⟩,fun a ha=>?_,by omega,h2⟩
 ·rw [List.mem_singleton] at hb
  subst hb
  have:=p2 a ha
  unfold farP
  omega
 rcases List.mem_append.1 ha with h|h
 ·have:=p2 a h;omega
 rw [List.mem_singleton] at h;subst h;exact Int.le_refl _
def evK (rs:List Rule) (a:Int) (n k:Nat):List (Int × Int × Int):=evT rs a n++((yearF rs (a+n)).take k).map fun x=>(a+n,x)
theorem Zz5A (rs:List Rule) (a:Int) (n:Nat):evK rs a n 0=evT rs a n:=by simp [evK]
theorem Zz6x (rs:List Rule) (a:Int) (n:Nat):evK rs a n (yearF rs (a+n)).length=evT rs a (n+1):=by simp [evK,evT]
theorem Zz3Z (rs:List Rule) (a:Int) (n k:Nat) (h:k<(yearF rs (a+n)).length):evK rs a n (k+1)=evK rs a n k++[(a+n,(yearF rs (a+n))[k]!)]:=by
 unfold evK
 rw [List.take_succ_eq_append_getElem h,List.map_append,←List.append_assoc,getElem!_pos _ k h]
 rfl
theorem year_bd {rs:List Rule} {y:Int} {x:Int × Int} (h:x∈yearF rs y) : -300000000000≤x.1∧x.1≤300000000000:=by
 obtain ⟨j,_,hx,_⟩:=mem_yearI.1 h
 rw [hx]
 exact at_bd
set_option maxRecDepth 100000 in
set_option maxHeartbeats 2000000 in
theorem r22_spaced (z:Zn) (vT vR:Value) (w:World) (hll:z.tail.length≤12) (hR:Rd Rule.cells 11 w vR z.tail) (hT:∃ A c,vT=G A z.table.length c) (h1:1≤z.year) (h2:z.year≤9999) (n:Nat) (hn:(n:Int)=min (z.year+400) 9999-z.year+1) :
  Calls Tryz.prog 156 #[z.v vT vR] w fun e w'=>∃ b,e=.returned (.bool b)∧(b=true→(evT z.tail z.year n).Pairwise farP)∧Below w.heap.size w w':=by
 have HY:=Hh (fun y v W (h:Rd Rule.cells 11 W v z.tail)=>r20_Year z.tail y v W (by omega) h)
 have HR:=Hh hR
 have hlen:∀ y,(yearF z.tail y).length≤12:=fun y=>by
  have:=Zz2B y 0 z.tail
  rw [Zz2R];omega
 obtain ⟨AT,cT,rfl⟩:=hT
 obtain ⟨AR,cR,rfl⟩:=Zzb hR
 clear hR
 have hzc:=Zz2 w [E z.nm,C D z.first.off,C D z.first.sv,E z.first.nm,G AT z.table.length cT,G AR z.tail.length cR,C D z.off,E z.form,C D z.year] 27
 have hbz:Below w.heap.size w (w.alloc (.cells #[E z.nm,C D z.first.off,C D z.first.sv,E z.first.nm,G AT z.table.length cT,G AR z.tail.length cR,C D z.off,E z.form,C D z.year] 27)):=bLR.alloc nlR _
 have hszz:w.heap.size<(w.alloc (.cells #[E z.nm,C D z.first.off,C D z.first.sv,E z.first.nm,G AT z.table.length cT,G AR z.tail.length cR,C D z.off,E z.form,C D z.year] 27)).heap.size:=by simp
 have ZC5:=Hh (hzc 5 _ rfl)
 have ZC8:=Hh (hzc 8 _ rfl)
 have HBZ:=Hh hbz
 clear hzc hbz
 unfold Zn.v
 generalize hZ:z.year=Z at *
 have HN:=Hh hn
 have hn1:n≤401:=by omega
 clear hn
 go_enter Tryz.func156,Tryz.ntmps156
 go_wp2_with fail
 generalize w.alloc (.cells #[E z.nm,C D z.first.off,C D z.first.sv,E z.first.nm,G AT z.table.length cT,G AR z.tail.length cR,C D z.off,E z.form,C D Z] 27)=wz at *
 go_loopw [3,4] (fun v3 v4 wr=>∃ (m:Nat) (L:Int),m≤n∧v3=C D L∧v4=C D (Z+m)∧SpInv (evT z.tail Z m) L∧Below wz.heap.size wz wr) (fun _ y _=>(20000-intOf y).toNat)
 case atStart=>exact ⟨0,_,Nat.zero_le _,rfl,vint (by simp),SpInv.zero,Below.refl _ _⟩
 case round =>
  obtain ⟨m,L,hm,rfl,rfl,hsi,hbw⟩:=hrel
  have HSI:=Hh hsi
  have hL3:=hsi.2.2.1
  have hL4:=hsi.2.2.2
  clear hsi
  have yc5:wr.cell? ⟨w.heap.size,5,H⟩=_:=(hbw.cell (p:=⟨w.heap.size,5,H⟩) hszz).trans ZC5.out
  have yc8:wr.cell? ⟨w.heap.size,8,H⟩=_:=(hbw.cell (p:=⟨w.heap.size,8,H⟩) hszz).trans ZC8.out
  have hB:Below w.heap.size w wr:=HBZ.out.trans (hbw.mono HBZ.out.size)
  by_cases hlt:m<n
  ·have hle:Z+(m:Int)≤min (Z+400) 9999:=by have:=HN.out;omega
   have hl12:=hlen (Z+m)
   have HYB:=Hh (fun (k:Nat) (hk:k<(yearF z.tail (Z+m)).length)=>year_bd (rs:=z.tail) (y:=Z+m) (x:=(yearF z.tail (Z+m))[k]!) (by rw [getElem!_pos _ k hk];exact List.getElem_mem hk))
   have HK0:=Hh (Zz5A z.tail Z m)
   have HKA:=Hh (Zz6x z.tail Z m)
   have HKS:=Hh (Zz3Z z.tail Z m)
   go_wp2_with (go_at_call 102;refine (HY.out _ _ _ (HR.out.on hB)).mono ?_;rintro e w5 ⟨v5,rfl,i5,hb5⟩)
   have R5:=Hh i5.rd
   clear i5
   obtain ⟨A5,c5,rfl⟩:=Zz2Z R5.out
   generalize yearF z.tail (Z+m)=X at *
   have hbw5:Below wz.heap.size wz w5:=hbw.trans (hb5.mono hbw.size)
   generalize hq:wr=wq at *
   clear hq
   go_loopw [3,6] (fun v3 v6 wv=>∃ (k:Nat) (L:Int),k≤X.length∧v3=C D L∧v6=C D k∧SpInv (evK z.tail Z m k) L∧Below w5.heap.size w5 wv) (fun _ i _=>X.length-(intOf i).toNat)
   case atStart=>exact ⟨0,L,Nat.zero_le _,rfl,rfl,by rw [HK0.out];exact HSI.out,Below.refl _ _⟩
   case round =>
    obtain ⟨k,L,hk,rfl,rfl,hsi,hbk⟩:=hrel
    have HSK:=Hh hsi
    have hL3:=hsi.2.2.1
    have hL4:=hsi.2.2.2
    clear hsi
    by_cases hkl:k<X.length
    ·obtain ⟨g7,o7,hA7,hg7,hc7⟩:∃ g off,A5=some ⟨g,off,H⟩∧g<w5.heap.size∧∀ j,j<X.length→∀ i u,(encE X[j]!)[i]? = some u→w5.cell? ⟨g,off+j*2+i,H⟩=some u:=by
      rcases R5.out with ⟨h0,_⟩|⟨g,off,c',hv',hg,hc⟩
      ·rw [h0] at hkl;simp at hkl
      cases hv';exact ⟨g,off,rfl,hg,hc⟩
     subst hA7
     have e0:wr.cell? ⟨g7,o7+k*2,H⟩=some (C D (X[k]!).1):=(hbk.cell (p:=⟨g7,o7+k*2,H⟩) hg7).trans (hc7 k hkl 0 _ rfl)
     have e1:wr.cell? ⟨g7,o7+k*2+1,H⟩=some (C D (X[k]!).2):=(hbk.cell (p:=⟨g7,o7+k*2+1,H⟩) hg7).trans (hc7 k hkl 1 _ rfl)
     have hxb:=HYB.out k hkl
     have HST:=Hh (fun (h:604800≤(X[k]!).1-L)=>show SpInv (evK z.tail Z m (k+1)) (X[k]!).1 by rw [HKS.out k hkl];exact HSK.out.add _ h hxb.2)
     clear hc7
     generalize X[k]! = x at *
     go_wp2
     ·go_ret
      exact ⟨false,rfl,fun h=>absurd h (by decide),HBZ.out.trans ((hbw5.trans (hbk.mono hbw5.size)).mono HBZ.out.size)⟩
     go_roundw
     case rel=>exact ⟨k+1,x.1,by omega,rfl,by go_num,HST.out (by omega),hbk⟩
     case measure=>simp [intOf];omega
    have hk':k=X.length:=by omega
    subst hk'
    rw [HKA.out] at HSK
    go_wp2
    go_roundw
    case rel=>exact ⟨m+1,L,by omega,rfl,by go_num,HSK.out,hbw5.trans (hbk.mono hbw5.size)⟩
    case measure=>simp [intOf];omega
  have hm':m=n:=by omega
  subst hm'
  have hno:min (Z+400) 9999<Z+(m:Int):=by have:=HN.out;omega
  go_wp2
  go_ret
  exact ⟨true,rfl,fun _=>HSI.out.1,hB⟩
end Go.Proofs.YtmmgdjgcikbhbaaGreat

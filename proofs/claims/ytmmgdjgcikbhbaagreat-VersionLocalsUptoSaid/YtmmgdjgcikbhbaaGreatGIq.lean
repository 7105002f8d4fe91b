/- Joined by merge.py: Ref01d, Ref20v. -/
import Derived.Test.YtmmgdjgcikbhbaaGreatGRa
import Derived.Test.YtmmgdjgcikbhbaaGreatGZa
/- The reference: Div, Floor, Date, the year of an instant. -/
open Go.Value renaming int → A
open Go.IntKind renaming i64 → B
namespace Go.Proofs.YtmmgdjgcikbhbaaGreat
set_option linter.unusedSimpArgs false
set_option linter.unusedVariables false
open Go.ChangeShapes Go.WideShapes Go.ChangeAt Go.RowKit
theorem r01_Div (a b:Int) (w:World) (hb:0<b) (ha : -4611686018427387904≤a∧a≤4611686018427387904) (hb':b≤4611686018427387904) :
  Calls Tryz.prog 159 #[A B a,A B b] w fun e w'=>e=.returned (.tuple #[A B (a / b),A B (a % b),A B 0])∧∃ n,w.drewN n=w':=by
 by_cases h0:0≤a
 ·have h3:0≤a % b:=Int.emod_nonneg _ (by omega)
  have hn:(decide (a % b<0))=false:=by simpa using h3
  have hm:(decide (b<0))=false:=by simp;omega
  go_enter Tryz.func159,Tryz.ntmps159
  go_wp2
  go_quiet (fail)
  go_wp2
  all_goals go_ret3
  all_goals first|(exfalso;simp [hn,hm] at *;done)|exact ⟨ret3 rfl rfl rfl,_,rfl⟩|skip
  all_goals (refine ⟨ret3 (vint ?_) (vint ?_) rfl,_,rfl⟩ <;> first|rfl|omega)
 obtain ⟨h1,h2,h3,h4,h5,h6⟩:=tq_neg a b hb (by omega)
 have hm:(decide (b<0))=false:=by simp;omega
 have H5:=Hh h5
 have H6:=Hh h6
 clear h5 h6
 by_cases hr:a.tmod b=0
 ·go_enter Tryz.func159,Tryz.ntmps159
  go_wp2
  go_quiet (fail)
  go_wp2
  all_goals go_ret3
  refine ⟨ret3 (vint (H5.out hr).1) (vint (H5.out hr).2.symm) rfl,_,rfl⟩
 have hn:decide (a.tmod b<0)=true:=by simp;omega
 go_enter Tryz.func159,Tryz.ntmps159
 go_wp2
 go_quiet (fail)
 go_wp2
 all_goals go_ret3
 all_goals first|(exfalso;simp [hn,hm] at *;done)|(refine ⟨ret3 (vint (H6.out hr).1) (vint (H6.out hr).2) rfl,_,rfl⟩)
theorem r01_Floor (t:Int) (ht : -62135596800≤t∧t<253402300800) (w:World):Calls Tryz.prog 101 #[A B t,A B 86400] w fun e w'=>e=.returned (A B (t / 86400))∧Below w.heap.size w w':=by
 have H:=Hh (fun W=>show Calls Tryz.prog 159 #[A B t,A B 86400] W fun e w'=>e=.returned (.tuple #[A B (t / 86400),A B (t % 86400),A B 0])∧Below W.heap.size W w' from (r01_Div t 86400 W (by decide) (by omega) (by decide)).mono (by rintro e w' ⟨rfl,n,rfl⟩;exact ⟨rfl,Zz1 bLR n⟩))
 obtain ⟨q,hq⟩:∃ q,t / 86400=q:=⟨_,rfl⟩
 obtain ⟨r,hr⟩:∃ r,t % 86400=r:=⟨_,rfl⟩
 rw [hq,hr] at H
 rw [hq]
 clear hq hr
 go_enter Tryz.func101,Tryz.ntmps101
 go_wp2_with (go_at_call 159;refine (H.out _).mono ?_;rintro e w1 ⟨rfl,hb1⟩)
 go_ret
 exact ⟨rfl,hb1⟩
theorem Zz51 (y:Int) {k:Int} (hk:1≤k):Cv.ahead y k.toNat=Cv.ahead y (k-1).toNat+Cv.lenF y k:=by
 rw [show k.toNat=(k-1).toNat+1 by omega]
 show Cv.ahead y (k-1).toNat+Cv.lenF y (((k-1).toNat:Int)+1)=_
 rw [show (((k-1).toNat:Nat):Int)+1=k by omega]
set_option maxRecDepth 100000 in
set_option maxHeartbeats 2000000 in
theorem r02_Date (y m d:Int) (w:World) (hv:Cv.validB y m d=true):Calls Tryz.prog 100 #[A B (Cv.count y m d)] w fun e w'=>e=.returned (.tuple #[.agg #[A B y,A B m,A B d],A B 0])∧Below w.heap.size w w':=by
 obtain ⟨h1,h2,h3,h4,h5,h6⟩:=Cv.validB_iff.1 hv
 obtain ⟨g1,g2,g3⟩:=Zz5P hv
 obtain ⟨g4,g5⟩:=Cv.count_in hv
 have HCO:=Hh (Zz2f ⟨h1,h2⟩ h3 h4 d)
 have hlf:=Cv.lenF_in (y:=y) (m:=m) ⟨h1,h2,h3,h4⟩
 have hml:=Cv.mlen_bd y m
 have hfy:=Cv.first_bd (y:=y) h1 (by omega)
 have had:=Cv.ahead_bd y (m-1).toNat
 have HF:=Hh (fun z W (a:1≤z) (b:z≤10000)=>r2_first z W a b)
 have HL:=Hh (fun k W=>Zz18 y k W)
 have HMN:=Hh (fun z (a:1≤z) (b:z+1≤y)=>(Zz15 (y:=z+1) (by omega) (y-(z+1)).toNat (by omega)))
 have HMZ:=Hh (fun z (b:z+1≤y)=>show z+1+((y-(z+1)).toNat:Int)=y by omega)
 generalize Cv.count y m d=D at *
 have hq:=Zz11 (D-(-719162)) 366 (by decide) (by omega)
 have hqd:(D-(-719162)).tdiv 366=(D-(-719162)) / 366:=Int.tdiv_eq_ediv_of_nonneg (by omega)
 have d1:decide (D < -719162)=false:=dFf (by omega)
 have d2:decide (2932897≤D)=false:=dFf (by omega)
 clear hv
 go_enter Tryz.func100,Tryz.ntmps100
 go_wp2_with fail
 go_loop [4] (fun v4=>∃ z:Int,1≤z∧z≤y∧v4=A B z) (fun v4=>(20000-intOf v4).toNat)
 case atStart=>exact ⟨(D+719162) / 366+1,by omega,by omega,rfl⟩
 case round =>
  obtain ⟨z,hz1,hz2,rfl⟩:=hrel
  by_cases hlt:z+1≤y
  ·have e1:=HMN.out z hz1 hlt
   rw [HMZ.out z hlt] at e1
   go_wp2_with (go_at_call 157;refine (HF.out _ _ (by omega) (by omega)).mono ?_;rintro e w' ⟨rfl,rfl⟩)
   go_round
   case rel=>exact ⟨z+1,by omega,hlt,rfl⟩
   case measure=>simp [intOf];omega
  obtain rfl:z=y:=by omega
  go_wp2_with (go_at_call 157;refine (HF.out _ _ (by omega) (by omega)).mono ?_;rintro e w' ⟨rfl,rfl⟩)
  go_loop [5,6] (fun v5 v6=>∃ k N:Int,1≤k∧k≤m∧Hid (N=Cv.ahead z (m-1).toNat-Cv.ahead z (k-1).toNat+d)∧(1≤N∧N≤1000)∧v5=A B N∧v6=A B k) (fun _ v6=>(20-intOf v6).toNat)
  case atStart=>exact ⟨1,D-Cv.first z+1,by omega,h3,(by have:=HCO.out;rw [show Cv.ahead z ((1:Int)-1).toNat=0 from rfl];show _=_;omega),by have:=HCO.out;omega,rfl,rfl⟩
  case round =>
   obtain ⟨k,N,hk1,hk2,HN,hNb,rfl,rfl⟩:=hrel
   by_cases hkm:k<m
   ·have hN2:Hid (N-Cv.lenF z k=Cv.ahead z (m-1).toNat-Cv.ahead z (k+1-1).toNat+d):=by
     have:=HN.out
     have e2:=Zz51 z hk1
     rw [show k+1-1=k by omega]
     show _=_
     omega
    have hN3:Cv.lenF z k<N:=by
     have:=HN.out
     have e2:=Zz51 z hk1
     have e3:=Zz31 z (show k.toNat≤(m-1).toNat by omega)
     omega
    have el:=Cv.lenF_bd z k
    have dn:decide (Cv.lenF z k<N)=true:=dTt hN3
    have HL2:=Hh (fun W=>HL.out k W)
    clear HN had hlf hml HL
    generalize Cv.lenF z k=l at *
    go_wp2_with (go_at_call 158;refine (HL2.out _).mono ?_;rintro e w' ⟨rfl,rfl⟩)
    go_round
    case rel=>exact ⟨k+1,N-l,by omega,by omega,hN2,by omega,rfl,rfl⟩
    case measure=>simp [intOf];omega
   obtain rfl:k=m:=by omega
   have hN2:N=d:=by have:=HN.out;omega
   subst hN2
   have dn:decide (Cv.lenF z k<N)=false:=dFf (by omega)
   have HL2:=Hh (fun W=>HL.out k W)
   clear HN had HL
   generalize Cv.lenF z k=l at *
   go_wp2_with (go_at_call 158;refine (HL2.out _).mono ?_;rintro e w' ⟨rfl,rfl⟩)
   exact bodyPost_ret (v:=.tuple #[.agg #[A B z,A B k,A B N],A B 0]) (by simp [results,Tryz.results100,go_sem]) rfl ⟨rfl,bLR.alloc nlR _⟩
theorem Zz4j (t:Int) (h1 : -62135596800≤t) (h2:t<253402300800):∃ Y,YearOf t Y∧∀ w,Calls Tryz.prog 65 #[A B t] w fun e w'=>e=.returned (A B Y)∧Below w.heap.size w w':=by
 obtain ⟨y,m,d,hv,hc,hf1,hf2⟩:=Zz5e (D:=t / 86400) (by omega) (by omega)
 have hy:=Cv.validB_iff.1 hv
 refine ⟨y,⟨hy.1,hy.2.1,by omega,by omega⟩,fun w=>?_⟩
 have HD:=Hh (fun W=>r02_Date y m d W hv)
 rw [hc] at HD
 have HQ:=Hh (fun W=>r01_Floor t ⟨h1,h2⟩ W)
 clear hv hc hf1 hf2 hy
 go_enter Tryz.func65,Tryz.ntmps65
 go_wp2_with (first
  | (go_at_call 101;refine (HQ.out _).mono ?_;rintro e w1 ⟨rfl,hb1⟩)
  | (go_at_call 100;refine (HD.out _).mono ?_;rintro e w2 ⟨rfl,hb2⟩))
 go_ret
 exact ⟨rfl,((hb1.trans (hb2.mono hb1.size))).alloc (by have:=hb1.size;have:=hb2.size;omega) _⟩
/- The reference of layer 20: Valid. -/
set_option maxRecDepth 100000 in
set_option maxHeartbeats 2000000 in
theorem Zz4e (r:Rule) (w:World):Calls Tryz.prog 155 #[r.v] w fun e w'=>e=.returned (.bool r.valid)∧Below w.heap.size w w':=by
 show Calls Tryz.prog 155 #[.agg #[.string r.nm,A B r.fr,A B r.to,A B r.mo,A B r.k,A B r.wk,A B r.d,A B r.at_,A B r.cl,A B r.sv,.string r.lt]] w _
 obtain ⟨nm,fr,to,mo,k,wk,d,at_,cl,sv,lt⟩:=r
 dsimp only
 cases hn:Cv.nameZ nm
 ·have HN:=Hh hn
  clear hn
  go_enter Tryz.func155,Tryz.ntmps155
  go_wp2_with (first
     | (go_at_call 192;refine (Zz5J _ _).mono ?_;rintro e w' ⟨rfl,rfl⟩;rw [HN.out]))
  go_ret
  exact ⟨ret1 (vbool (by simp [Rule.valid,HN.out])),bLR.alloc nlR _⟩
 have HN:=Hh hn
 clear hn
 cases hl:(decide (lt.size≤8) && Cv.lettersB [] lt.data.toList)
 ·have HL:=Hh hl
  clear hl
  go_enter Tryz.func155,Tryz.ntmps155
  go_wp2_with (first
   | (go_at_call 192;refine (Zz5J _ _).mono ?_;rintro e w' ⟨rfl,rfl⟩;rw [HN.out])
   | (go_at_call 162;refine (Zzk _ _).mono ?_;rintro e w1 ⟨rfl,rfl⟩;rw [HL.out]))
  go_ret
  exact ⟨ret1 (vbool (by unfold Rule.valid;dsimp only;rw [HN.out,←Bool.and_assoc (decide _),HL.out];simp)),bLR.alloc nlR _⟩
 have HL:=Hh hl
 clear hl
 go_enter Tryz.func155,Tryz.ntmps155
 go_wp2_with (first
  | (go_at_call 192;refine (Zz5J _ _).mono ?_;rintro e w' ⟨rfl,rfl⟩;rw [HN.out])
  | (go_at_call 162;refine (Zzk _ _).mono ?_;rintro e w1 ⟨rfl,rfl⟩;rw [HL.out])
  | (go_at_call 193;refine (Zz5b _ _ _ _ _).mono ?_;rintro e w2 ⟨rfl,hb2⟩;obtain ⟨hc2,hf2⟩:=bcell hb2))
 all_goals
  go_ret
  refine ⟨ret1 (vbool ?_),by first|exact (bLR.alloc nlR _).trans (hb2.mono (by simp))|exact bLR.alloc nlR _⟩
  unfold Rule.valid Rule.ok
  dsimp only
  rw [HN.out,←Bool.and_assoc (decide _),HL.out]
  simp only [Bool.true_and]
  clear HN HL
  first|(simp [*];done)|(simp_all;done)|(simp [*];omega)
end Go.Proofs.YtmmgdjgcikbhbaaGreat

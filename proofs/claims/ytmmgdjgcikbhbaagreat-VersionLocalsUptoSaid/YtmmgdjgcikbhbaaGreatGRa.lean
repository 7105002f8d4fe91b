/- Joined by merge.py: Ref2, Ref20l, Ref20, Ref20b. -/
import Derived.Test.YtmmgdjgcikbhbaaGreatGValid
/- The reference of layer 2. -/
open Go.Value renaming int → A
open Go.IntKind renaming i64 → B
open Option renaming none → C
open Go.Ending renaming returned → D
namespace Go.Proofs.YtmmgdjgcikbhbaaGreat
set_option linter.unusedSimpArgs false
set_option linter.unusedVariables false
open Go.ChangeShapes Go.WideShapes Go.ChangeAt Go.RowKit
theorem Zz6o (a b:Int):(a.tmod b=0)=(a % b=0):=by
  apply propext
  rw [←Int.dvd_iff_tmod_eq_zero,Int.dvd_iff_emod_eq_zero]
theorem r2_Leap (y:Int) (w:World):Calls Tryz.prog 194 #[A B y] w fun e w'=>e=D (.bool (Cv.leapB y))∧w'=w:=by
  by_cases hy:1≤y∧y≤9999
  · have h:=Hh (Cv.leapB_iff hy)
    obtain ⟨h1,h2⟩:=hy
    have e4:=Zz11 y 4 (by omega) (by omega)
    have e100:=Zz11 y 100 (by omega) (by omega)
    have e400:=Zz11 y 400 (by omega) (by omega)
    go_enter Tryz.func194,Tryz.ntmps194
    go_wp2
    all_goals (go_ret;refine ⟨ret1 (vbool ?_),rfl⟩;rw [h.out])
    all_goals (clear h;(try simp only [beq_iff_eq,beq_eq_false_iff_ne,Zz6o] at *);rw [Bool.eq_iff_iff];simp [Zz6o];omega)
  · have h:=Hh (show Cv.leapB y=false by simp [Cv.leapB,Cv.yearB];omega)
    go_enter Tryz.func194,Tryz.ntmps194
    go_wp2
    all_goals (go_ret;exact ⟨ret1 (vbool (by rw [h.out])),rfl⟩)
theorem Zz18 (y m:Int) (w:World):Calls Tryz.prog 158 #[A B y,A B m] w fun e w'=>e=D (A B (Cv.lenF y m))∧w'=w:=by
  have hL:=fun w=>r2_Leap y w
  cases hl:Cv.leapB y
  all_goals
    rw [hl] at hL
    have HL:=Hh hL
    have Hl:=Hh hl
    clear hL hl
    go_enter Tryz.func158,Tryz.ntmps158
    go_wp2_with (go_at_call 194;refine (HL.out _).mono ?_;rintro e w' ⟨rfl,rfl⟩)
    all_goals (go_ret;refine ⟨ret1 (vint ?_),rfl⟩;unfold Cv.lenF Cv.mlen;rw [Hl.out];clear HL Hl;(try simp only [beq_iff_eq,beq_eq_false_iff_ne] at *);repeat' split;all_goals first|rfl|omega|(simp_all;done))
set_option maxHeartbeats 400000 in
theorem Zz69 (y m d:Int) (w:World):Calls Tryz.prog 223 #[.agg #[A B y,A B m,A B d]] w fun e w'=>e=D (.bool (Cv.validB y m d))∧Below w.heap.size w w':=by
  by_cases h1:1≤d
  · have hl:=Cv.lenF_bd y m
    go_enter Tryz.func223,Tryz.ntmps223
    go_wp2
    go_quiet ((go_at_call 158;exact Calls.quiet_of_same (Zz18 _ _ _)))
    go_wp2
    go_ret
    exact ⟨ret1 (vbool (by simp [Cv.validB,h1])),Zz1d _ _ _⟩
  · have hd:decide (1≤d)=false:=by simpa using h1
    go_enter Tryz.func223,Tryz.ntmps223
    go_wp2
    go_quiet (fail)
    go_wp2
    go_ret
    exact ⟨ret1 (vbool (by unfold Cv.validB;rw [eq_comm,decide_eq_false_iff_not];omega)),Zz1d _ _ _⟩
theorem r2_first (y:Int) (w:World) (h1:1≤y) (h2:y≤10000):Calls Tryz.prog 157 #[A B y] w fun e w'=>e=D (A B (Cv.first y))∧w'=w:=by
  have e4:=Zz11 (y-1) 4 (by omega) (by omega)
  have e100:=Zz11 (y-1) 100 (by omega) (by omega)
  have e400:=Zz11 (y-1) 400 (by omega) (by omega)
  go_enter Tryz.func157,Tryz.ntmps157
  go_wp2
  go_ret
  exact ⟨ret1 (vint (by unfold Cv.first;rfl)),rfl⟩
set_option maxHeartbeats 1000000 in
theorem r2_YearDay (y m d:Int) (w:World) (hv:Cv.validB y m d=true):Calls Tryz.prog 224 #[.agg #[A B y,A B m,A B d]] w fun e w'=>e=D (A B (d+Cv.ahead y (m-1).toNat))∧Below w.heap.size w w':=by
  have h:=Hh hv
  obtain ⟨a1,a2,a3,a4,a5,a6⟩:=Cv.validB_iff.1 hv
  have a7:=Cv.mlen_bd y m
  have HL:=Hh (fun m w=>Zz18 y m w)
  clear hv
  go_enter Tryz.func224,Tryz.ntmps224
  go_wp2_with (go_at_call 223;refine (Zz69 _ _ _ _).mono ?_;rintro e w1 ⟨rfl,hb⟩;rw [h.out];obtain ⟨hc1,hf1⟩:=bcell hb)
  have hs1:w.heap.size<w1.heap.size:=by have:=hb.size;simp at this;omega
  go_loop [3,4] (fun n i=>∃ k:Nat,(k:Int)≤m-1∧n=A B (d+Cv.ahead y k)∧i=A B ((k:Int)+1)) (fun _ i=>20-(intOf i).toNat)
  case atStart=>exact ⟨0,by omega,by rw [show Cv.ahead y 0=0 from rfl,Int.add_zero],by go_num⟩
  case round =>
    obtain ⟨k,hk,rfl,rfl⟩:=hrel
    have hk1:=Cv.ahead_bd y k
    have hk2:=Cv.lenF_bd y ((k:Int)+1)
    by_cases hlt:(k:Int)+1<m
    · have hs:d+Cv.ahead y (k+1)=d+Cv.ahead y k+Cv.lenF y ((k:Int)+1):=by rw [Cv.ahead];omega
      go_wp2_with (go_at_call 158;refine (HL.out _ _).mono ?_;rintro e w' ⟨rfl,rfl⟩)
      go_round
      case rel=>exact ⟨k+1,by omega,by rw [hs],by go_num⟩
      case measure=>simp [intOf];omega
    · have hm:(m-1).toNat=k:=by omega
      go_wp2
      go_ret
      exact ⟨ret1 (vint (by first|rfl|rw [hm])),(bLR.alloc nlR _).trans (hb.mono (by simp))⟩
theorem held3 {w wx w':World} {a b c:Value} (h:wx.cell? ⟨w.heap.size,0,C⟩=some a∧wx.cell? ⟨w.heap.size,1,C⟩=some b∧wx.cell? ⟨w.heap.size,2,C⟩=some c∧Below w.heap.size w wx∧w.heap.size<wx.heap.size) (hb:Below wx.heap.size wx w') :
    w'.cell? ⟨w.heap.size,0,C⟩=some a∧w'.cell? ⟨w.heap.size,1,C⟩=some b∧w'.cell? ⟨w.heap.size,2,C⟩=some c∧Below w.heap.size w w'∧w.heap.size<w'.heap.size :=
  ⟨(hb.cell (p:=⟨w.heap.size,0,C⟩) h.2.2.2.2).trans h.1,(hb.cell (p:=⟨w.heap.size,1,C⟩) h.2.2.2.2).trans h.2.1,(hb.cell (p:=⟨w.heap.size,2,C⟩) h.2.2.2.2).trans h.2.2.1,h.2.2.2.1.trans (hb.mono (by have:=h.2.2.2.2;omega)),by have:=hb.size;have:=h.2.2.2.2;omega⟩
theorem keepE {w w':World} (h:w'=w):Below w.heap.size w w':=h▸Below.refl _ _
set_option maxHeartbeats 1000000 in
theorem r2_Day (y m d:Int) (w:World):Calls Tryz.prog 211 #[.agg #[A B y,A B m,A B d]] w fun e w'=>e=D (.tuple #[A B (if Cv.validB y m d then Cv.count y m d else 0),A B (if Cv.validB y m d then 0 else 1)])∧Below w.heap.size w w':=by
  cases hv:Cv.validB y m d
  · have h:=Hh hv
    clear hv
    go_enter Tryz.func211,Tryz.ntmps211
    go_wp2_with (go_at_call 223;refine (Zz69 _ _ _ _).mono ?_;rintro e w1 ⟨rfl,hb⟩;rw [h.out])
    go_ret2
    exact ⟨rfl,(bLR.alloc nlR _).trans (hb.mono (by simp))⟩
  · have h:=Hh hv
    obtain ⟨a1,a2,a3,a4,a5,a6⟩:=Cv.validB_iff.1 hv
    have a7:=Cv.mlen_bd y m
    have e1:=Cv.first_ahead ⟨a1,a2⟩ a3 a4 d
    have b1:=Cv.first_bd (y:=y) a1 (by omega)
    have b2:=Cv.ahead_bd y (m-1).toNat
    have b3:(m-1).toNat≤11:=by omega
    have HY:=Hh (fun w=>r2_YearDay y m d w hv)
    have HF:=Hh (fun w=>r2_first y w a1 (by omega))
    clear hv
    rw [←e1]
    clear e1
    generalize Cv.ahead y (m-1).toNat=a at *
    generalize Cv.first y=f at *
    obtain ⟨b11,b12⟩ : -719162≤f∧f≤2932897:=by omega
    obtain ⟨b21,b22⟩:0≤a∧a≤341:=by omega
    clear b1 b2 b3
    go_enter Tryz.func211,Tryz.ntmps211
    go_wp2_with (go_at_call 223;refine (Zz69 _ _ _ _).mono ?_;rintro e w1 ⟨rfl,hb⟩;rw [h.out];obtain ⟨hc1,hf1⟩:=bcell hb)
    have hs1:w.heap.size<w1.heap.size:=by have:=hb.size;simp at this;omega
    have c0:w1.cell? ⟨w.heap.size,0,C⟩=some (A B y):=(hc1 _ _ (by simp)).trans (by simp)
    have c1:w1.cell? ⟨w.heap.size,1,C⟩=some (A B m):=(hc1 _ _ (by simp)).trans (by simp)
    have c2:w1.cell? ⟨w.heap.size,2,C⟩=some (A B d):=(hc1 _ _ (by simp)).trans (by simp)
    have hb0:Below w.heap.size w w1:=(bLR.alloc nlR _).trans (hb.mono (by simp))
    clear hc1 hf1
    go_region_held3 (fun w'=>w'.cell? ⟨w.heap.size,0,C⟩=some (A B y)∧w'.cell? ⟨w.heap.size,1,C⟩=some (A B m)∧w'.cell? ⟨w.heap.size,2,C⟩=some (A B d)∧Below w.heap.size w w'∧w.heap.size<w'.heap.size) (first|exact ⟨c0,c1,c2,hb0.drew,by simp;omega⟩|exact held3 (by assumption) hbd|go_keep)
      (first|(go_at_call 157;refine (HF.out _).mono ?_;rintro e w' ⟨rfl,hn⟩;have hbd:=keepE hn;clear hn)|(go_at_call 224;refine (HY.out _).mono ?_;rintro e w' ⟨rfl,hbd⟩))
    have hz:=(by assumption:_∧_∧_∧Below w.heap.size w w'∧_).2.2.2.1
    go_wp2
    go_ret2
    exact ⟨ret2 (vint (by rw [IntWalk.i64_in (f+(d+a)) (by omega),IntWalk.i64_in _ (by omega)])) rfl,hz⟩
/- The reference of layer 20: letters. -/
theorem ZzC (c:UInt8) (w:World):Calls Tryz.prog 196 #[.int .u8 c.toNat] w fun e w'=>e=D (.bool (Cv.ltrI c.toNat))∧w'=w:=by
  have hc:=c.toNat_lt
  go_enter Tryz.func196,Tryz.ntmps196
  go_wp2
  all_goals (go_ret;exact ⟨ret1 (vbool (by unfold Cv.ltrI;rw [Bool.eq_iff_iff];simp [*] <;> omega)),rfl⟩)
theorem Zz1M (c:UInt8) (w:World):Calls Tryz.prog 197 #[.int .u8 c.toNat] w fun e w'=>e=D (.bool (Cv.digI c.toNat))∧w'=w:=by
  have hc:=c.toNat_lt
  go_enter Tryz.func197,Tryz.ntmps197
  go_wp2
  all_goals (go_ret;exact ⟨ret1 (vbool (by unfold Cv.digI;rw [Bool.eq_iff_iff];simp [*] <;> omega)),rfl⟩)
theorem alnum_bad (c:UInt8):(!Cv.badR [] c.toNat)=(Cv.ltrI c.toNat || Cv.digI c.toNat):=by
  have hc:=c.toNat_lt
  unfold Cv.badR Cv.alnumN Cv.ltrI Cv.digI
  rw [Bool.eq_iff_iff]
  simp
  omega
def alnAll (s:ByteArray):Bool:=s.data.toList.all fun b=>Cv.ltrI b.toNat || Cv.digI b.toNat
set_option maxRecDepth 100000 in
set_option maxHeartbeats 1000000 in
theorem Zzk (s:ByteArray) (w:World):Calls Tryz.prog 162 #[.string s] w fun e w'=>e=D (.bool (decide (s.size≤8) && Cv.lettersB [] s.data.toList))∧w'=w:=by
  by_cases h2:s.size≤8
  · rw [dTt h2,Bool.true_and]
    have hL:=Hh (show Cv.lettersB [] s.data.toList=alnAll s by unfold Cv.lettersB alnAll;congr 1;funext b;exact alnum_bad b)
    rw [hL.out]
    go_enter Tryz.func162,Tryz.ntmps162
    go_wp2
    go_loop [3] (fun i=>∃ k:Nat,k≤s.size∧i=A B k∧(s.data.toList.take k).all (fun b=>Cv.ltrI b.toNat || Cv.digI b.toNat)=true) (fun i=>s.size-(intOf i).toNat)
    case atStart=>exact ⟨0,Nat.zero_le _,rfl,by simp⟩
    case round =>
      obtain ⟨k,hk,rfl,hr⟩:=hrel
      have HR:=Hh hr
      clear hr
      by_cases hlt:k<s.size
      · cases a1:Cv.ltrI (s[k]'hlt).toNat
        · cases a2:Cv.digI (s[k]'hlt).toNat
          · have A1:=Hh a1
            have A2:=Hh a2
            clear a1 a2
            go_wp2_with (first|(go_at_call 196;refine (ZzC _ _).mono ?_;rintro e w1 ⟨rfl,rfl⟩;rw [A1.out])|(go_at_call 197;refine (Zz1M _ _).mono ?_;rintro e w1 ⟨rfl,rfl⟩;rw [A2.out]))
            go_ret
            exact ⟨ret1 (vbool (Cv.all_bad hlt (by rw [A1.out,A2.out];rfl)).symm),rfl⟩
          · have A1:=Hh a1
            have A2:=Hh a2
            clear a1 a2
            go_wp2_with (first|(go_at_call 196;refine (ZzC _ _).mono ?_;rintro e w1 ⟨rfl,rfl⟩;rw [A1.out])|(go_at_call 197;refine (Zz1M _ _).mono ?_;rintro e w1 ⟨rfl,rfl⟩;rw [A2.out]))
            go_round
            case rel=>exact ⟨k+1,by omega,by go_num,Cv.all_snoc hlt HR.out (by rw [A1.out,A2.out];rfl)⟩
            case measure=>simp [intOf];omega
        · have A1:=Hh a1
          clear a1
          go_wp2_with (go_at_call 196;refine (ZzC _ _).mono ?_;rintro e w1 ⟨rfl,rfl⟩;rw [A1.out])
          go_round
          case rel=>exact ⟨k+1,by omega,by go_num,Cv.all_snoc hlt HR.out (by rw [A1.out];rfl)⟩
          case measure=>simp [intOf];omega
      · go_wp2
        go_ret
        exact ⟨ret1 (vbool (Cv.all_end (by omega) HR.out).symm),rfl⟩
  · rw [dFf h2,Bool.false_and]
    go_enter Tryz.func162,Tryz.ntmps162
    go_wp2
    go_ret
    exact ⟨rfl,rfl⟩
/- The reference of layer 20: names. -/
def spcI (c:Int):Bool:=c == 95 || c == 47 || c == 43 || c == 45
theorem namI_spc {c:Int} (h1:Cv.ltrI c=false) (h2:Cv.digI c=false):Cv.namI c=spcI c:=by unfold Cv.namI spcI;rw [h1,h2];simp
set_option maxRecDepth 100000 in
set_option maxHeartbeats 1000000 in
theorem Zz5J (s:ByteArray) (w:World):Calls Tryz.prog 192 #[.string s] w fun e w'=>e=D (.bool (Cv.nameZ s))∧w'=w:=by
  by_cases h1:1≤s.size
  · by_cases h2:s.size≤30
    · cases hl:Cv.ltrI (s.get! 0).toNat
      · rw [show Cv.nameZ s=false by unfold Cv.nameZ;rw [hl];simp]
        rw [Cv.get!_eq s 0 h1] at hl
        have HL:=Hh hl
        clear hl
        go_enter Tryz.func192,Tryz.ntmps192
        go_wp2_with (go_at_call 196;refine (ZzC _ _).mono ?_;rintro e w1 ⟨rfl,rfl⟩;rw [HL.out])
        go_ret
        exact ⟨rfl,rfl⟩
      · have hn:Cv.nameZ s=namAll s:=by unfold Cv.nameZ;rw [hl,dTt ⟨h1,h2⟩];rfl
        rw [hn]
        rw [Cv.get!_eq s 0 h1] at hl
        have HL:=Hh hl
        clear hl hn
        go_enter Tryz.func192,Tryz.ntmps192
        go_wp2_with (go_at_call 196;refine (ZzC _ _).mono ?_;rintro e w1 ⟨rfl,rfl⟩;rw [HL.out])
        go_loop [3] (fun i=>∃ k:Nat,k≤s.size∧i=A B k∧(s.data.toList.take k).all (fun b=>Cv.namI b.toNat)=true) (fun i=>s.size-(intOf i).toNat)
        case atStart=>exact ⟨0,Nat.zero_le _,rfl,by simp⟩
        case round =>
          obtain ⟨k,hk,rfl,hr⟩:=hrel
          have HR:=Hh hr
          clear hr
          by_cases hlt:k<s.size
          · cases a1:Cv.ltrI (s[k]'hlt).toNat
            · cases a2:Cv.digI (s[k]'hlt).toNat
              · have A1:=Hh a1
                have A2:=Hh a2
                have NS:=Hh (namI_spc a1 a2)
                clear a1 a2
                go_wp2_with (first|(go_at_call 196;refine (ZzC _ _).mono ?_;rintro e w1 ⟨rfl,rfl⟩;rw [A1.out])|(go_at_call 197;refine (Zz1M _ _).mono ?_;rintro e w1 ⟨rfl,rfl⟩;rw [A2.out]))
                all_goals first
                  | (go_round
                     case rel=>exact ⟨k+1,by omega,by go_num,Cv.all_snoc hlt HR.out (by rw [NS.out];clear NS HR A1 A2;(try simp only [bne_iff_ne,bne_eq_false_iff_eq,ne_eq] at *);simp [spcI];omega)⟩
                     case measure=>simp [intOf];omega)
                  | (go_ret
                     exact ⟨ret1 (vbool (Cv.all_bad hlt (by rw [NS.out];clear NS HR A1 A2;(try simp only [bne_iff_ne,bne_eq_false_iff_eq,ne_eq] at *);simp [spcI];omega)).symm),rfl⟩)
              · have A1:=Hh a1
                have A2:=Hh a2
                clear a1 a2
                go_wp2_with (first|(go_at_call 196;refine (ZzC _ _).mono ?_;rintro e w1 ⟨rfl,rfl⟩;rw [A1.out])|(go_at_call 197;refine (Zz1M _ _).mono ?_;rintro e w1 ⟨rfl,rfl⟩;rw [A2.out]))
                go_round
                case rel=>exact ⟨k+1,by omega,by go_num,Cv.all_snoc hlt HR.out (by simp only [Cv.namI,A1.out,A2.out];simp)⟩
                case measure=>simp [intOf];omega
            · have A1:=Hh a1
              clear a1
              go_wp2_with (go_at_call 196;refine (ZzC _ _).mono ?_;rintro e w1 ⟨rfl,rfl⟩;rw [A1.out])
              go_round
              case rel=>exact ⟨k+1,by omega,by go_num,Cv.all_snoc hlt HR.out (by simp only [Cv.namI,A1.out];simp)⟩
              case measure=>simp [intOf];omega
          · go_wp2
            go_ret
            exact ⟨ret1 (vbool (Cv.all_end (by omega) HR.out).symm),rfl⟩
    · rw [Cv.nameZ_no (by omega)]
      go_enter Tryz.func192,Tryz.ntmps192
      go_wp2
      go_ret
      exact ⟨rfl,rfl⟩
  · rw [Cv.nameZ_no (by omega)]
    go_enter Tryz.func192,Tryz.ntmps192
    go_wp2
    go_ret
    exact ⟨rfl,rfl⟩
/- The reference of layer 20: ValidOn, Valid, weekday. -/
theorem r20_on_in (mo k wk d:Int) (w:World) (h1:1≤mo) (h2:mo≤12) :
    Calls Tryz.prog 193 #[A B mo,.agg #[A B k,A B wk,A B d]] w fun e w'=>e=D (.bool (Cv.fitsB mo k wk d))∧Below w.heap.size w w':=by
  have hm:Cv.fitsB mo k wk d=if k=1 then Cv.dayB mo d && wk == 0 else if k=2 then Cv.wkB wk && d == 0 else if k=3 then Cv.dayB mo d && Cv.wkB wk else if k=4 then Cv.dayB mo d && Cv.wkB wk else false:=by
    unfold Cv.fitsB;rw [if_neg (by omega)]
  rw [hm]
  clear hm
  have hl:=Cv.lenF_bd 2000 mo
  have e1:Cv.dayB mo d=(decide (1≤d) && decide (d≤Cv.lenF 2000 mo)):=by unfold Cv.dayB;rw [Bool.eq_iff_iff];simp
  have e2:Cv.wkB wk=(decide (1≤wk) && decide (wk≤7)):=by unfold Cv.wkB;rw [Bool.eq_iff_iff];simp
  rw [e1,e2]
  clear e1 e2
  by_cases g1:1≤d
  all_goals by_cases g2:1≤wk
  all_goals
    (try have n1:decide (1≤d)=false:=by simpa using g1)
    (try have n2:decide (1≤wk)=false:=by simpa using g2)
    go_enter Tryz.func193,Tryz.ntmps193
    go_wp2
    go_quiet ((go_at_call 158;exact Calls.quiet_of_same (Zz18 _ _ _)))
    go_wp2
  all_goals (go_ret;refine ⟨ret1 (vbool ?_),Zz1d _ _ _⟩)
  all_goals simp only [beq_iff_eq,beq_eq_false_iff_ne,ne_eq] at *
  all_goals first|rfl|(simp [*];done)|(simp_all;done)|(simp_all;omega)|(simp_all [Bool.and_comm];done)
theorem Zz5b (mo k wk d:Int) (w:World) :
    Calls Tryz.prog 193 #[A B mo,.agg #[A B k,A B wk,A B d]] w fun e w'=>e=D (.bool (Cv.fitsB mo k wk d))∧Below w.heap.size w w':=by
  by_cases h1:1≤mo
  · by_cases h2:mo≤12
    · exact r20_on_in mo k wk d w h1 h2
    · rw [show Cv.fitsB mo k wk d=false from if_pos (by omega)]
      go_enter Tryz.func193,Tryz.ntmps193
      go_wp2
      go_ret
      exact ⟨rfl,Zz1d _ _ 0⟩
  · rw [show Cv.fitsB mo k wk d=false from if_pos (by omega)]
    go_enter Tryz.func193,Tryz.ntmps193
    go_wp2
    go_ret
    exact ⟨rfl,Zz1d _ _ 0⟩
theorem Zz2p (d:Int) (w:World) (h1 : -800000≤d) (h2:d≤3000000):Calls Tryz.prog 212 #[A B d] w fun e w'=>e=D (A B (Cv.wd d))∧w'=w:=by
  have e7:=Zz11 (d+3+1400000) 7 (by omega) (by omega)
  go_enter Tryz.func212,Tryz.ntmps212
  go_wp2
  go_ret
  exact ⟨ret1 (vint (by unfold Cv.wd;omega)),rfl⟩
end Go.Proofs.YtmmgdjgcikbhbaaGreat

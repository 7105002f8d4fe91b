/- Joined by merge.py: FormP, Ref20f, Ref20g. -/
import Derived.Test.YtmmgdjgcikbhbaaGreatGZoneP
import Derived.Test.YtmmgdjgcikbhbaaGreatGRa
/- Formats: what the reference computes is what the program computes. No program in sight. -/
open Go.Value renaming string → C
namespace Go.Proofs.YtmmgdjgcikbhbaaGreat
set_option linter.unusedSimpArgs false
set_option linter.unusedVariables false
theorem cut_yes {s sep:List UInt8} (h:(Lib.cut s sep).2.2=true):s=(Lib.cut s sep).1++sep++(Lib.cut s sep).2.1:=by
  rcases Lib.index_spec s sep with ⟨h1,_⟩|⟨i,h1,h2,h3,_⟩
  · unfold Lib.cut at h;rw [if_neg (by omega)] at h;cases h
  · have e:Lib.cut s sep=(s.take i,s.drop (i+sep.length),true):=by unfold Lib.cut;rw [if_pos (by omega),h1];rfl
    rw [e]
    unfold Lib.occAt at h3
    obtain ⟨t,ht⟩:=List.isPrefixOf_iff_prefix.1 h3
    dsimp only
    rw [←List.drop_drop,←ht,List.drop_left,List.append_assoc,ht,List.take_append_drop]
theorem Zz1H {o l:List UInt8} {b:UInt8} (hb:Cv.badR o b.toNat=true) (h:b∈l):Cv.lettersB o l=false:=by
  unfold Cv.lettersB
  rw [List.all_eq_false]
  exact ⟨b,h,by simp [hb]⟩
theorem Zz43 (o l m:List UInt8):Cv.lettersB o (l++m)=(Cv.lettersB o l && Cv.lettersB o m):=by unfold Cv.lettersB;rw [List.all_append]
def pcA (f:ByteArray):ByteArray:=⟨(Lib.cut f.data.toList [37,115]).1.toArray⟩
def pcB (f:ByteArray):ByteArray:=⟨(Lib.cut f.data.toList [37,115]).2.1.toArray⟩
def pcF (f:ByteArray):Bool:=(Lib.cut f.data.toList [37,115]).2.2
def slA (f:ByteArray):ByteArray:=⟨(Lib.cut f.data.toList [47]).1.toArray⟩
def slB (f:ByteArray):ByteArray:=⟨(Lib.cut f.data.toList [47]).2.1.toArray⟩
def slF (f:ByteArray):Bool:=(Lib.cut f.data.toList [47]).2.2
def partB (s:ByteArray):Bool:=decide (s.size≤8) && Cv.lettersB [43,45] s.data.toList
def fullB (s:ByteArray):Bool:=decide (1≤s.size)
def formB (f:ByteArray):Bool :=
  if pcF f=true then decide (f.size≤8) && (partB (pcA f) && partB (pcB f))
  else if slF f=true then fullB (slA f) && (fullB (slB f) && (partB (slA f) && partB (slB f)))
  else fullB f && partB f
def rname (f l:ByteArray) (sv:Int):ByteArray:=if pcF f=true then pcA f++l++pcB f else if slF f=true then (if sv=0 then slA f else slB f) else f
def rformatF (f l:ByteArray) (sv:Int):ByteArray × Int :=
  if ¬ (l.size≤8∧Cv.lettersB [] l.data.toList=true) then (⟨#[]⟩,1)
  else if formB f=false then (⟨#[]⟩,3) else strFin (rname f l sv)
theorem Zz26 (s:ByteArray):Cv.nameB s=(fullB s && partB s):=by
  unfold Cv.nameB fullB partB
  rw [←Bool.and_assoc];congr 1
  rw [Bool.eq_iff_iff];simp
theorem bytes_app (a b c:ByteArray):a++b++c=⟨(a.data.toList++b.data.toList++c.data.toList).toArray⟩:=by
  rw [←Zz1j,←Zz1j,Zz59]
theorem Zz2W (f l:ByteArray) (sv:Int):rformatF f l sv=formatF f l sv:=by
  unfold rformatF formatF
  by_cases hl:l.size≤8∧Cv.lettersB [] l.data.toList=true
  · rw [if_neg (not_not_intro hl),if_neg (not_not_intro hl)]
    have hs:slF f=(Lib.cut f.data.toList [47]).2.2:=rfl
    have hp:pcF f=(Lib.cut f.data.toList [37,115]).2.2:=rfl
    have ha:(⟨(Lib.cut f.data.toList [47]).1.toArray⟩:ByteArray)=slA f:=rfl
    have hb:(⟨(Lib.cut f.data.toList [47]).2.1.toArray⟩:ByteArray)=slB f:=rfl
    rw [ha,hb,←hs,←hp]
    have bad37:Cv.badR [43,45] (37:UInt8).toNat=true:=by decide
    have bad47:Cv.badR [43,45] (47:UInt8).toNat=true:=by decide
    cases es:slF f
    · rw [if_neg Bool.false_ne_true]
      cases ep:pcF f
      · rw [if_neg Bool.false_ne_true]
        unfold formB rname
        rw [ep,es,Zz26]
        simp
      · rw [if_pos rfl]
        have e1:rname f l sv=⟨((Lib.cut f.data.toList [37,115]).1++l.data.toList++(Lib.cut f.data.toList [37,115]).2.1).toArray⟩:=by
          unfold rname;rw [if_pos ep,bytes_app];rfl
        have hc:=cut_yes (hp.symm.trans ep)
        have hz:f.size=(pcA f).size+2+(pcB f).size:=by
          have:=congrArg List.length hc
          rw [List.length_append,List.length_append,←Lib.size_eq] at this
          exact this
        have e2:formB f=decide (f.size≤8∧Cv.lettersB [43,45] ((Lib.cut f.data.toList [37,115]).1++(Lib.cut f.data.toList [37,115]).2.1)=true):=by
          unfold formB
          rw [if_pos ep,Zz43]
          have x1:Cv.lettersB [43,45] (pcA f).data.toList=Cv.lettersB [43,45] (Lib.cut f.data.toList [37,115]).1:=rfl
          have x2:Cv.lettersB [43,45] (pcB f).data.toList=Cv.lettersB [43,45] (Lib.cut f.data.toList [37,115]).2.1:=rfl
          unfold partB
          rw [x1,x2]
          by_cases h8:f.size≤8
          · rw [dTt h8,dTt (show (pcA f).size≤8 by omega),dTt (show (pcB f).size≤8 by omega)]
            simp [h8]
          · simp [h8]
        rw [e1,e2]
        by_cases hx:f.size≤8∧Cv.lettersB [43,45] ((Lib.cut f.data.toList [37,115]).1++(Lib.cut f.data.toList [37,115]).2.1)=true
        · rw [dTt hx,if_neg (by simp),if_neg (by simpa using hx)]
        · rw [dFf hx,if_pos rfl,if_pos hx]
    · rw [if_pos rfl]
      have hc:=cut_yes (hs.symm.trans es)
      cases ep:pcF f
      · have e1:rname f l sv=if sv=0 then slA f else slB f:=by unfold rname;rw [if_neg (by simp [ep]),if_pos es]
        have e2:formB f=(Cv.nameB (slA f) && Cv.nameB (slB f)):=by
          unfold formB;rw [if_neg (by simp [ep]),if_pos es,Zz26,Zz26]
          cases fullB (slA f) <;> cases fullB (slB f) <;> simp
        rw [e1,e2]
        by_cases hx:Cv.nameB (slA f)=true∧Cv.nameB (slB f)=true
        · rw [hx.1,hx.2];simp
        · rw [if_pos hx,if_pos]
          simpa using hx
      · have hcp:=cut_yes (hp.symm.trans ep)
        have h47:(47:UInt8)∈f.data.toList:=by rw [hc];simp
        have h37:(37:UInt8)∈f.data.toList:=by rw [hcp];simp
        have e1:formB f=false:=by
          unfold formB
          rw [if_pos ep]
          rw [hcp] at h47
          simp at h47
          unfold partB
          rcases h47 with h|h
          · rw [Zz1H (l:=(pcA f).data.toList) bad47 h];simp
          · rw [Zz1H (l:=(pcB f).data.toList) bad47 h];simp
        have e2:¬ (Cv.nameB (slA f)=true∧Cv.nameB (slB f)=true):=by
          rw [hc] at h37
          simp at h37
          rw [Zz26,Zz26]
          unfold partB
          rcases h37 with h|h
          · rw [Zz1H (l:=(slA f).data.toList) bad37 h];simp
          · rw [Zz1H (l:=(slB f).data.toList) bad37 h];simp
        rw [if_pos e1,if_pos e2]
  · rw [if_pos hl,if_pos hl]
/- The reference of layer 20: part, cut, Form, Format. -/
open Go.ChangeShapes Go.WideShapes Go.ChangeAt Go.RowKit
theorem occ_raw (s p:ByteArray) (k:Nat) (h:k+p.size≤s.size):((s.extract k (k+p.size)).toList == p.toList)=Lib.occAt s.data.toList p.data.toList k:=by
  rw [Lib.extract_toList,Lib.toList_data,Nat.add_sub_cancel_left]
  unfold Lib.occAt
  have e:=Lib.hasPrefix_of_take (s.data.toList.drop k) p.data.toList
  unfold Lib.hasPrefix at e
  rw [←e,dTt (by rw [List.length_drop,←Lib.size_eq,←Lib.size_eq];omega),Bool.true_and,Lib.size_eq]
theorem cut_hit {s p:ByteArray} {k:Nat} (h:Lib.NoOcc s.data.toList p.data.toList k) (hk:k+p.size≤s.size) (ho:Lib.occAt s.data.toList p.data.toList k=true) :
    Lib.cut s.data.toList p.data.toList=(s.data.toList.take k,s.data.toList.drop (k+p.size),true):=by
  have e:=Lib.index_hit h (by rw [←Lib.size_eq];omega) ho
  unfold Lib.cut
  rw [if_pos (by omega),e,Lib.size_eq p];try rfl
theorem cut_none {s p:ByteArray} {k:Nat} (h:Lib.NoOcc s.data.toList p.data.toList k) (hp:0<p.size) (hk:s.size<k+p.size) :
    Lib.cut s.data.toList p.data.toList=(s.data.toList,[],false):=by
  have e:=Lib.index_past (s:=s.data.toList) (sub:=p.data.toList) (i:=k) (by intro h;rw [Lib.size_eq,h] at hp;simp at hp) h (by rw [←Lib.size_eq,←Lib.size_eq];omega)
  unfold Lib.cut
  rw [if_neg (by omega)]
theorem ext_take (s:ByteArray) (k:Nat):s.extract 0 k=⟨(s.data.toList.take k).toArray⟩:=by rw [Lib.extract_eq];simp
theorem ext_drop (s:ByteArray) (k:Nat):s.extract k s.size=⟨(s.data.toList.drop k).toArray⟩:=by
  rw [Lib.extract_eq,List.take_of_length_le (by rw [List.length_drop,←Lib.size_eq];omega)]
theorem ret3v {a b:ByteArray} {f:Bool} {c:List UInt8 × List UInt8 × Bool} (hc:c=(a.data.toList,b.data.toList,f)):Ending.returned (.tuple #[C a,C b,.bool f])=.returned (.tuple #[C ⟨c.1.toArray⟩,C ⟨c.2.1.toArray⟩,.bool c.2.2]):=by
  rw [hc]
set_option maxRecDepth 100000 in
set_option maxHeartbeats 1000000 in
theorem r20_cut (s p:ByteArray) (w:World) (hp:0<p.size) (hs:s.size≤2000000) (hp2:p.size≤2000000) :
    Calls Tryz.prog 164 #[C s,C p] w fun e w'=>e=.returned (.tuple #[C ⟨(Lib.cut s.data.toList p.data.toList).1.toArray⟩,C ⟨(Lib.cut s.data.toList p.data.toList).2.1.toArray⟩,.bool (Lib.cut s.data.toList p.data.toList).2.2])∧∃ n,w.drewN n=w':=by
  go_enter Tryz.func164,Tryz.ntmps164
  go_wp2
  go_loop [7] (fun i=>∃ k:Nat,k≤s.size+1∧i=.int .i64 k∧Lib.NoOcc s.data.toList p.data.toList k) (fun i=>s.size+1-(intOf i).toNat)
  case atStart=>exact ⟨0,by omega,rfl,Lib.NoOcc.zero _ _⟩
  case round =>
    obtain ⟨k,hk,rfl,hno⟩:=hrel
    have HN:=Hh hno
    clear hno
    by_cases hlt:k+p.size≤s.size
    · have ho:=occ_raw s p k hlt
      have hsl:=fun wx:World=>run_slice_string (P:=Tryz.prog) (w:=wx) 9 s .i64 .i64 (k:Int) ((k:Int)+p.size) Tryz.underlying9 (by omega) (by omega) (by omega)
      rw [show ((k:Int)+p.size).toNat=k+p.size by omega,Int.toNat_natCast] at hsl
      cases hoc:Lib.occAt s.data.toList p.data.toList k
      · rw [hoc] at ho
        have HO:=Hh hoc
        clear hoc
        go_wp2
        go_round
        case rel=>exact ⟨k+1,by omega,by go_num,HN.out.succ HO.out⟩
        case measure=>simp [intOf];omega
      · rw [hoc] at ho
        have HC:=Hh (cut_hit HN.out hlt hoc)
        clear hoc
        go_wp2_with (go_quiet (fail))
        go_ret3
        exact ⟨ret3v (HC.out.trans (by rw [ext_take s k,ext_drop s (k+p.size)])),_,rfl⟩
    · have HC:=Hh (cut_none HN.out hp (by omega))
      go_wp2
      go_ret3
      exact ⟨ret3v HC.out,0,rfl⟩
def prI (c:Int):Bool:=Cv.ltrI c || Cv.digI c || c == 43 || c == 45
theorem pr_bad (c:UInt8):(!Cv.badR [43,45] c.toNat)=prI c.toNat:=by
  have hc:=c.toNat_lt
  unfold Cv.badR Cv.alnumN prI Cv.ltrI Cv.digI
  rw [Bool.eq_iff_iff]
  simp
  omega
def spc2I (c:Int):Bool:=c == 43 || c == 45
theorem prI_spc {c:Int} (h1:Cv.ltrI c=false) (h2:Cv.digI c=false):prI c=spc2I c:=by unfold prI spc2I;rw [h1,h2];simp
def prAll (s:ByteArray):Bool:=s.data.toList.all fun b=>prI b.toNat
set_option maxRecDepth 100000 in
set_option maxHeartbeats 1000000 in
theorem r20_part (s:ByteArray) (w:World):Calls Tryz.prog 198 #[C s] w fun e w'=>e=.returned (.bool (partB s))∧w=w':=by
  unfold partB
  by_cases h2:s.size≤8
  · rw [dTt h2,Bool.true_and]
    have hL:=Hh (show Cv.lettersB [43,45] s.data.toList=prAll s by unfold Cv.lettersB prAll;congr 1;funext b;exact pr_bad b)
    rw [hL.out]
    go_enter Tryz.func198,Tryz.ntmps198
    go_wp2
    go_loop [3] (fun i=>∃ k:Nat,k≤s.size∧i=.int .i64 k∧(s.data.toList.take k).all (fun b=>prI b.toNat)=true) (fun i=>s.size-(intOf i).toNat)
    case atStart=>exact ⟨0,Nat.zero_le _,rfl,by simp⟩
    case round =>
      obtain ⟨k,hk,rfl,hr⟩:=hrel
      have HR:=Hh hr
      clear hr
      by_cases hlt:k<s.size
      · cases a1:Cv.ltrI (s[k]'hlt).toNat
        · cases a2:Cv.digI (s[k]'hlt).toNat
          · have A1:=Hh a1
            have A2:=Hh a2
            have NS:=Hh (prI_spc a1 a2)
            clear a1 a2
            go_wp2_with (first|(go_at_call 196;refine (ZzC _ _).mono ?_;rintro e w1 ⟨rfl,rfl⟩;rw [A1.out])|(go_at_call 197;refine (Zz1M _ _).mono ?_;rintro e w1 ⟨rfl,rfl⟩;rw [A2.out]))
            all_goals first
              | (go_round
                 case rel=>exact ⟨k+1,by omega,by go_num,Cv.all_snoc hlt HR.out (by rw [NS.out];clear NS HR A1 A2;(try simp only [bne_iff_ne,bne_eq_false_iff_eq,ne_eq] at *);simp [spc2I];omega)⟩
                 case measure=>simp [intOf];omega)
              | (go_ret
                 exact ⟨ret1 (vbool (Cv.all_bad hlt (by rw [NS.out];clear NS HR A1 A2;(try simp only [bne_iff_ne,bne_eq_false_iff_eq,ne_eq] at *);simp [spc2I];omega)).symm),rfl⟩)
          · have A1:=Hh a1
            have A2:=Hh a2
            clear a1 a2
            go_wp2_with (first|(go_at_call 196;refine (ZzC _ _).mono ?_;rintro e w1 ⟨rfl,rfl⟩;rw [A1.out])|(go_at_call 197;refine (Zz1M _ _).mono ?_;rintro e w1 ⟨rfl,rfl⟩;rw [A2.out]))
            go_round
            case rel=>exact ⟨k+1,by omega,by go_num,Cv.all_snoc hlt HR.out (by simp only [prI,A1.out,A2.out];simp)⟩
            case measure=>simp [intOf];omega
        · have A1:=Hh a1
          clear a1
          go_wp2_with (go_at_call 196;refine (ZzC _ _).mono ?_;rintro e w1 ⟨rfl,rfl⟩;rw [A1.out])
          go_round
          case rel=>exact ⟨k+1,by omega,by go_num,Cv.all_snoc hlt HR.out (by simp only [prI,A1.out];simp)⟩
          case measure=>simp [intOf];omega
      · go_wp2
        go_ret
        exact ⟨ret1 (vbool (Cv.all_end (by omega) HR.out).symm),rfl⟩
  · rw [dFf h2,Bool.false_and]
    go_enter Tryz.func198,Tryz.ntmps198
    go_wp2
    go_ret
    exact ⟨rfl,rfl⟩
/- The reference of layer 20: Form, Format. -/
theorem cut_pc (f:ByteArray) (w:World) (hf:f.size≤2000000) :
    Calls Tryz.prog 164 #[C f,C ⟨#[37,115]⟩] w fun e w'=>e=.returned (.tuple #[C (pcA f),C (pcB f),.bool (pcF f)])∧∃ n,w.drewN n=w' :=
  r20_cut f ⟨#[37,115]⟩ w (by decide) hf (by decide)
theorem cut_sl (f:ByteArray) (w:World) (hf:f.size≤2000000) :
    Calls Tryz.prog 164 #[C f,C ⟨#[47]⟩] w fun e w'=>e=.returned (.tuple #[C (slA f),C (slB f),.bool (slF f)])∧∃ n,w.drewN n=w' :=
  r20_cut f ⟨#[47]⟩ w (by decide) hf (by decide)
theorem Zz5p {s:ByteArray} (h:fullB s=false):s.toList.isEmpty=true:=by
  unfold fullB at h
  rw [decide_eq_false_iff_not,Lib.size_eq] at h
  rw [Lib.toList_data]
  cases e:s.data.toList
  · rfl
  · rw [e] at h;simp at h
theorem Zz3V {s:ByteArray} (h:fullB s=true):s.toList.isEmpty=false:=by
  unfold fullB at h
  rw [decide_eq_true_eq,Lib.size_eq] at h
  rw [Lib.toList_data]
  cases e:s.data.toList
  · rw [e] at h;simp at h
  · rfl
set_option maxRecDepth 100000 in
set_option maxHeartbeats 2000000 in
theorem r20_Form (f:ByteArray) (w:World) (hf:f.size≤2000000) :
    Calls Tryz.prog 163 #[C f] w fun e w'=>e=.returned (.bool (formB f))∧Below w.heap.size w w':=by
  have HP:=Hh (fun w=>cut_pc f w hf)
  have HS:=Hh (fun w=>cut_sl f w hf)
  have HT:=Hh (fun s w=>r20_part s w)
  cases ep:pcF f
  · have EP:=Hh ep
    cases es:slF f
    · have E:=Hh (show formB f=(fullB f && partB f) by unfold formB;rw [ep,es];rfl)
      rw [E.out]
      have ES:=Hh es
      clear ep es
      cases hf1:fullB f
      · have n1:=Zz5p hf1
        clear hf1
        go_enter Tryz.func163,Tryz.ntmps163
        go_wp2_with fail
        refine (HP.out _).mono ?_
        rintro e w1 ⟨rfl,n,rfl⟩
        rw [EP.out]
        go_wp2_with fail
        refine (HS.out _).mono ?_
        rintro e w1 ⟨rfl,m,rfl⟩
        rw [ES.out]
        go_wp2_with (go_at_call 198;refine (HT.out _ _).mono ?_;rintro e w1 ⟨rfl,rfl⟩)
        all_goals (go_ret;exact ⟨ret1 (vbool (by simp [*])),Zz1 bLR _⟩)
      · have n1:=Zz3V hf1
        clear hf1
        go_enter Tryz.func163,Tryz.ntmps163
        go_wp2_with fail
        refine (HP.out _).mono ?_
        rintro e w1 ⟨rfl,n,rfl⟩
        rw [EP.out]
        go_wp2_with fail
        refine (HS.out _).mono ?_
        rintro e w1 ⟨rfl,m,rfl⟩
        rw [ES.out]
        go_wp2_with (go_at_call 198;refine (HT.out _ _).mono ?_;rintro e w1 ⟨rfl,rfl⟩)
        all_goals (go_ret;exact ⟨ret1 (vbool (by simp [*])),Zz1 bLR _⟩)
    · have E:=Hh (show formB f=(fullB (slA f) && (fullB (slB f) && (partB (slA f) && partB (slB f)))) by unfold formB;rw [ep,es];rfl)
      rw [E.out]
      have ES:=Hh es
      clear ep es
      generalize slA f=A at *
      generalize slB f=B at *
      cases hf1:fullB A
      · have n1:=Zz5p hf1
        clear hf1
        go_enter Tryz.func163,Tryz.ntmps163
        go_wp2_with fail
        refine (HP.out _).mono ?_
        rintro e w1 ⟨rfl,n,rfl⟩
        rw [EP.out]
        go_wp2_with fail
        refine (HS.out _).mono ?_
        rintro e w1 ⟨rfl,m,rfl⟩
        rw [ES.out]
        go_wp2_with (go_at_call 198;refine (HT.out _ _).mono ?_;rintro e w1 ⟨rfl,rfl⟩)
        all_goals (go_ret;exact ⟨ret1 (vbool (by simp [*])),Zz1 bLR _⟩)
      · cases hf2:fullB B
        all_goals
          have n1:=Zz3V hf1
          first|have n2:=Zz5p hf2|have n2:=Zz3V hf2
          clear hf1 hf2
          go_enter Tryz.func163,Tryz.ntmps163
          go_wp2_with fail
          refine (HP.out _).mono ?_
          rintro e w1 ⟨rfl,n,rfl⟩
          rw [EP.out]
          go_wp2_with fail
          refine (HS.out _).mono ?_
          rintro e w1 ⟨rfl,m,rfl⟩
          rw [ES.out]
          go_wp2_with (go_at_call 198;refine (HT.out _ _).mono ?_;rintro e w1 ⟨rfl,rfl⟩)
          all_goals (go_ret;exact ⟨ret1 (vbool (by simp [*])),Zz1 bLR _⟩)
  · have E:=Hh (show formB f=(decide (f.size≤8) && (partB (pcA f) && partB (pcB f))) by unfold formB;rw [if_pos ep])
    rw [E.out]
    have EP:=Hh ep
    clear ep
    generalize pcA f=A at *
    generalize pcB f=B at *
    by_cases h8:f.size≤8
    all_goals
      go_enter Tryz.func163,Tryz.ntmps163
      go_wp2_with fail
      refine (HP.out _).mono ?_
      rintro e w1 ⟨rfl,n,rfl⟩
      rw [EP.out]
      go_wp2_with (go_at_call 198;refine (HT.out _ _).mono ?_;rintro e w1 ⟨rfl,rfl⟩)
      all_goals (go_ret;exact ⟨ret1 (vbool (by simp [*])),Zz1 bLR _⟩)
set_option maxRecDepth 100000 in
set_option maxHeartbeats 4000000 in
theorem Zz30 (f l:ByteArray) (sv:Int) (w:World) (hf:f.size≤2000000) :
    Calls Tryz.prog 103 #[C f,C l,.int .i64 sv] w fun e w'=>e=.returned (.tuple #[C (rformatF f l sv).1,.int .i64 (rformatF f l sv).2])∧Below w.heap.size w w':=by
  have HP:=Hh (fun w=>cut_pc f w hf)
  have HS:=Hh (fun w=>cut_sl f w hf)
  have HF:=Hh (fun w=>r20_Form f w hf)
  by_cases hl:l.size≤8∧Cv.lettersB [] l.data.toList=true
  · have HL:=Hh (show (decide (l.size≤8) && Cv.lettersB [] l.data.toList)=true by rw [hl.2,dTt hl.1];rfl)
    have l8:=hl.1
    cases h3:formB f
    · have H3:=Hh h3
      rw [show rformatF f l sv=(⟨#[]⟩,3) by unfold rformatF;rw [if_neg (not_not_intro hl),if_pos h3]]
      clear hl h3
      go_enter Tryz.func103,Tryz.ntmps103
      go_wp2_with (first
          | (go_at_call 162;(with_reducible refine (Zzk _ _).mono ?_);rintro e w1 ⟨rfl,rfl⟩;rw [HL.out])
          | (go_at_call 163;(with_reducible refine (HF.out _).mono ?_);rintro e w2 ⟨rfl,hb2⟩;rw [H3.out]))
      go_ret2
      exact ⟨rfl,hb2⟩
    · have H3:=Hh h3
      have HR:=Hh (show rformatF f l sv=strFin (rname f l sv) by unfold rformatF;rw [if_neg (not_not_intro hl),if_neg (by simp [h3])])
      rw [HR.out]
      clear hl h3 HR
      cases ep:pcF f
      · have EP:=Hh ep
        cases es:slF f
        · have ES:=Hh es
          rw [show rname f l sv=f by unfold rname;rw [ep,es];rfl]
          clear ep es
          by_cases z1:1≤(f).size
          · have e1:=ZzN z1
            have e2:¬ (f).toList=[]:=fun h=>by rw [h] at e1;cases e1
            by_cases z2:(f).size≤8
            · rw [show strFin (f)=(f,0) from if_pos ⟨z1,z2⟩]
              skip
              go_enter Tryz.func103,Tryz.ntmps103
              go_wp2_with (first
                    | (go_at_call 162;(with_reducible refine (Zzk _ _).mono ?_);rintro e w1 ⟨rfl,rfl⟩;rw [HL.out])
                    | (go_at_call 163;(with_reducible refine (HF.out _).mono ?_);rintro e w2 ⟨rfl,hb2⟩;rw [H3.out])
                    | (go_at_call 164;(with_reducible refine (HP.out _).mono ?_);rintro e w3 ⟨rfl,n3,rfl⟩;rw [EP.out])
                    | (go_at_call 164;(with_reducible refine (HS.out _).mono ?_);rintro e w4 ⟨rfl,n4,rfl⟩;rw [ES.out]))
              go_ret2
              exact ⟨rfl,Zz1 hb2 _⟩
            · rw [show strFin (f)=(⟨#[]⟩,2) from if_neg (by omega)]
              have z3:8<(f).size:=by omega
              go_enter Tryz.func103,Tryz.ntmps103
              go_wp2_with (first
                    | (go_at_call 162;(with_reducible refine (Zzk _ _).mono ?_);rintro e w1 ⟨rfl,rfl⟩;rw [HL.out])
                    | (go_at_call 163;(with_reducible refine (HF.out _).mono ?_);rintro e w2 ⟨rfl,hb2⟩;rw [H3.out])
                    | (go_at_call 164;(with_reducible refine (HP.out _).mono ?_);rintro e w3 ⟨rfl,n3,rfl⟩;rw [EP.out])
                    | (go_at_call 164;(with_reducible refine (HS.out _).mono ?_);rintro e w4 ⟨rfl,n4,rfl⟩;rw [ES.out]))
              go_ret2
              exact ⟨rfl,Zz1 hb2 _⟩
          · rw [show strFin (f)=(⟨#[]⟩,2) from if_neg (by omega)]
            have e1:=Zz14 (s:=f) (by omega)
            skip
            go_enter Tryz.func103,Tryz.ntmps103
            go_wp2_with (first
                    | (go_at_call 162;(with_reducible refine (Zzk _ _).mono ?_);rintro e w1 ⟨rfl,rfl⟩;rw [HL.out])
                    | (go_at_call 163;(with_reducible refine (HF.out _).mono ?_);rintro e w2 ⟨rfl,hb2⟩;rw [H3.out])
                    | (go_at_call 164;(with_reducible refine (HP.out _).mono ?_);rintro e w3 ⟨rfl,n3,rfl⟩;rw [EP.out])
                    | (go_at_call 164;(with_reducible refine (HS.out _).mono ?_);rintro e w4 ⟨rfl,n4,rfl⟩;rw [ES.out]))
            go_ret2
            exact ⟨rfl,Zz1 hb2 _⟩
        · have ES:=Hh es
          by_cases g:sv=0
          · have g':(sv != 0)=false:=by simp [g]
            rw [show rname f l sv=slA f by unfold rname;rw [ep,es,if_pos g];rfl]
            clear ep es g
            generalize slA f=p at *
            generalize slB f=q at *
            by_cases z1:1≤(p).size
            · have e1:=ZzN z1
              have e2:¬ (p).toList=[]:=fun h=>by rw [h] at e1;cases e1
              by_cases z2:(p).size≤8
              · rw [show strFin (p)=(p,0) from if_pos ⟨z1,z2⟩]
                skip
                go_enter Tryz.func103,Tryz.ntmps103
                go_wp2_with (first
                      | (go_at_call 162;(with_reducible refine (Zzk _ _).mono ?_);rintro e w1 ⟨rfl,rfl⟩;rw [HL.out])
                      | (go_at_call 163;(with_reducible refine (HF.out _).mono ?_);rintro e w2 ⟨rfl,hb2⟩;rw [H3.out])
                      | (go_at_call 164;(with_reducible refine (HP.out _).mono ?_);rintro e w3 ⟨rfl,n3,rfl⟩;rw [EP.out])
                      | (go_at_call 164;(with_reducible refine (HS.out _).mono ?_);rintro e w4 ⟨rfl,n4,rfl⟩;rw [ES.out]))
                go_ret2
                exact ⟨rfl,Zz1 hb2 _⟩
              · rw [show strFin (p)=(⟨#[]⟩,2) from if_neg (by omega)]
                have z3:8<(p).size:=by omega
                go_enter Tryz.func103,Tryz.ntmps103
                go_wp2_with (first
                      | (go_at_call 162;(with_reducible refine (Zzk _ _).mono ?_);rintro e w1 ⟨rfl,rfl⟩;rw [HL.out])
                      | (go_at_call 163;(with_reducible refine (HF.out _).mono ?_);rintro e w2 ⟨rfl,hb2⟩;rw [H3.out])
                      | (go_at_call 164;(with_reducible refine (HP.out _).mono ?_);rintro e w3 ⟨rfl,n3,rfl⟩;rw [EP.out])
                      | (go_at_call 164;(with_reducible refine (HS.out _).mono ?_);rintro e w4 ⟨rfl,n4,rfl⟩;rw [ES.out]))
                go_ret2
                exact ⟨rfl,Zz1 hb2 _⟩
            · rw [show strFin (p)=(⟨#[]⟩,2) from if_neg (by omega)]
              have e1:=Zz14 (s:=p) (by omega)
              skip
              go_enter Tryz.func103,Tryz.ntmps103
              go_wp2_with (first
                      | (go_at_call 162;(with_reducible refine (Zzk _ _).mono ?_);rintro e w1 ⟨rfl,rfl⟩;rw [HL.out])
                      | (go_at_call 163;(with_reducible refine (HF.out _).mono ?_);rintro e w2 ⟨rfl,hb2⟩;rw [H3.out])
                      | (go_at_call 164;(with_reducible refine (HP.out _).mono ?_);rintro e w3 ⟨rfl,n3,rfl⟩;rw [EP.out])
                      | (go_at_call 164;(with_reducible refine (HS.out _).mono ?_);rintro e w4 ⟨rfl,n4,rfl⟩;rw [ES.out]))
              go_ret2
              exact ⟨rfl,Zz1 hb2 _⟩
          · have g':(sv != 0)=true:=by simp [g]
            rw [show rname f l sv=slB f by unfold rname;rw [ep,es,if_neg g];rfl]
            clear ep es g
            generalize slA f=p at *
            generalize slB f=q at *
            by_cases z1:1≤(q).size
            · have e1:=ZzN z1
              have e2:¬ (q).toList=[]:=fun h=>by rw [h] at e1;cases e1
              by_cases z2:(q).size≤8
              · rw [show strFin (q)=(q,0) from if_pos ⟨z1,z2⟩]
                skip
                go_enter Tryz.func103,Tryz.ntmps103
                go_wp2_with (first
                      | (go_at_call 162;(with_reducible refine (Zzk _ _).mono ?_);rintro e w1 ⟨rfl,rfl⟩;rw [HL.out])
                      | (go_at_call 163;(with_reducible refine (HF.out _).mono ?_);rintro e w2 ⟨rfl,hb2⟩;rw [H3.out])
                      | (go_at_call 164;(with_reducible refine (HP.out _).mono ?_);rintro e w3 ⟨rfl,n3,rfl⟩;rw [EP.out])
                      | (go_at_call 164;(with_reducible refine (HS.out _).mono ?_);rintro e w4 ⟨rfl,n4,rfl⟩;rw [ES.out]))
                go_ret2
                exact ⟨rfl,Zz1 hb2 _⟩
              · rw [show strFin (q)=(⟨#[]⟩,2) from if_neg (by omega)]
                have z3:8<(q).size:=by omega
                go_enter Tryz.func103,Tryz.ntmps103
                go_wp2_with (first
                      | (go_at_call 162;(with_reducible refine (Zzk _ _).mono ?_);rintro e w1 ⟨rfl,rfl⟩;rw [HL.out])
                      | (go_at_call 163;(with_reducible refine (HF.out _).mono ?_);rintro e w2 ⟨rfl,hb2⟩;rw [H3.out])
                      | (go_at_call 164;(with_reducible refine (HP.out _).mono ?_);rintro e w3 ⟨rfl,n3,rfl⟩;rw [EP.out])
                      | (go_at_call 164;(with_reducible refine (HS.out _).mono ?_);rintro e w4 ⟨rfl,n4,rfl⟩;rw [ES.out]))
                go_ret2
                exact ⟨rfl,Zz1 hb2 _⟩
            · rw [show strFin (q)=(⟨#[]⟩,2) from if_neg (by omega)]
              have e1:=Zz14 (s:=q) (by omega)
              skip
              go_enter Tryz.func103,Tryz.ntmps103
              go_wp2_with (first
                      | (go_at_call 162;(with_reducible refine (Zzk _ _).mono ?_);rintro e w1 ⟨rfl,rfl⟩;rw [HL.out])
                      | (go_at_call 163;(with_reducible refine (HF.out _).mono ?_);rintro e w2 ⟨rfl,hb2⟩;rw [H3.out])
                      | (go_at_call 164;(with_reducible refine (HP.out _).mono ?_);rintro e w3 ⟨rfl,n3,rfl⟩;rw [EP.out])
                      | (go_at_call 164;(with_reducible refine (HS.out _).mono ?_);rintro e w4 ⟨rfl,n4,rfl⟩;rw [ES.out]))
              go_ret2
              exact ⟨rfl,Zz1 hb2 _⟩
      · have EP:=Hh ep
        have ES:Hid True:=trivial
        rw [show rname f l sv=pcA f++l++pcB f by unfold rname;rw [ep];rfl]
        clear ep
        have m1:(pcA f).size≤2000000:=by have:=cut_len1 f.data.toList [37,115];rw [←Lib.size_eq] at this;exact nLt this hf
        have m2:(pcB f).size≤2000000:=by have:=cut_len2 f.data.toList [37,115];rw [←Lib.size_eq] at this;exact nLt this hf
        generalize pcA f=p at *
        generalize pcB f=q at *
        have hz:(p++l++q).size=p.size+l.size+q.size:=by simp [ByteArray.size_append]
        by_cases z1:1≤(p++l++q).size
        · have e1:=ZzN z1
          have e2:¬ (p++l++q).toList=[]:=fun h=>by rw [h] at e1;cases e1
          by_cases z2:(p++l++q).size≤8
          · rw [show strFin (p++l++q)=(p++l++q,0) from if_pos ⟨z1,z2⟩]
            have z3:p.size+l.size+q.size≤8:=by omega
            clear hz
            go_enter Tryz.func103,Tryz.ntmps103
            go_wp2_with (first
                  | (go_at_call 162;(with_reducible refine (Zzk _ _).mono ?_);rintro e w1 ⟨rfl,rfl⟩;rw [HL.out])
                  | (go_at_call 163;(with_reducible refine (HF.out _).mono ?_);rintro e w2 ⟨rfl,hb2⟩;rw [H3.out])
                  | (go_at_call 164;(with_reducible refine (HP.out _).mono ?_);rintro e w3 ⟨rfl,n3,rfl⟩;rw [EP.out])
                  | (go_at_call 164;(with_reducible refine (HS.out _).mono ?_);rintro e w4 ⟨rfl,n4,rfl⟩;rw [ES.out]))
            go_ret2
            exact ⟨rfl,Zz1 hb2 _⟩
          · rw [show strFin (p++l++q)=(⟨#[]⟩,2) from if_neg (by omega)]
            have z3:8<p.size+l.size+q.size:=by omega
            clear hz
            go_enter Tryz.func103,Tryz.ntmps103
            go_wp2_with (first
                  | (go_at_call 162;(with_reducible refine (Zzk _ _).mono ?_);rintro e w1 ⟨rfl,rfl⟩;rw [HL.out])
                  | (go_at_call 163;(with_reducible refine (HF.out _).mono ?_);rintro e w2 ⟨rfl,hb2⟩;rw [H3.out])
                  | (go_at_call 164;(with_reducible refine (HP.out _).mono ?_);rintro e w3 ⟨rfl,n3,rfl⟩;rw [EP.out])
                  | (go_at_call 164;(with_reducible refine (HS.out _).mono ?_);rintro e w4 ⟨rfl,n4,rfl⟩;rw [ES.out]))
            go_ret2
            exact ⟨rfl,Zz1 hb2 _⟩
        · rw [show strFin (p++l++q)=(⟨#[]⟩,2) from if_neg (by omega)]
          have e1:=Zz14 (s:=p++l++q) (by omega)
          clear hz
          go_enter Tryz.func103,Tryz.ntmps103
          go_wp2_with (first
                  | (go_at_call 162;(with_reducible refine (Zzk _ _).mono ?_);rintro e w1 ⟨rfl,rfl⟩;rw [HL.out])
                  | (go_at_call 163;(with_reducible refine (HF.out _).mono ?_);rintro e w2 ⟨rfl,hb2⟩;rw [H3.out])
                  | (go_at_call 164;(with_reducible refine (HP.out _).mono ?_);rintro e w3 ⟨rfl,n3,rfl⟩;rw [EP.out])
                  | (go_at_call 164;(with_reducible refine (HS.out _).mono ?_);rintro e w4 ⟨rfl,n4,rfl⟩;rw [ES.out]))
          go_ret2
          exact ⟨rfl,Zz1 hb2 _⟩
  · have HL:=Hh (show (decide (l.size≤8) && Cv.lettersB [] l.data.toList)=false by
      rw [Bool.and_eq_false_iff]
      by_cases h8:l.size≤8
      · right;exact Bool.eq_false_iff.2 fun h=>hl ⟨h8,h⟩
      · left;exact dFf h8)
    rw [show rformatF f l sv=(⟨#[]⟩,1) from if_pos hl]
    clear hl
    go_enter Tryz.func103,Tryz.ntmps103
    go_wp2_with (go_at_call 162;refine (Zzk _ _).mono ?_;rintro e w1 ⟨rfl,rfl⟩;rw [HL.out])
    go_ret2
    exact ⟨rfl,Below.refl _ _⟩
end Go.Proofs.YtmmgdjgcikbhbaaGreat

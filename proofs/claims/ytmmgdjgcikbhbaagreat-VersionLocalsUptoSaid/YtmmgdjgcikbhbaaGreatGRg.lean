/- Joined by merge.py: Ref20d, Ref20a. -/
import Derived.Test.YtmmgdjgcikbhbaaGreatGIq
/- The reference of layer 20: Day, At. -/
open Go.Value renaming int → A
open Go.IntKind renaming i64 → B
open Option renaming none → C
open Go.Ending renaming returned → F
namespace Go.Proofs.YtmmgdjgcikbhbaaGreat
set_option linter.unusedSimpArgs false
set_option linter.unusedVariables false
open Go.ChangeShapes Go.WideShapes Go.ChangeAt Go.RowKit
theorem Zz5O (w:World) (o:Obj):Below w.heap.size w (w.alloc o):=bLR.alloc nlR _
theorem wd_fwd {x wk:Int} {q:Nat} (h:1≤wk∧wk≤7) (hq:(q:Int)≤(wk-Cv.wd x) % 7):(Cv.wd (x+q)=wk)=((q:Int)=(wk-Cv.wd x) % 7):=by
 apply propext;unfold Cv.wd at *;omega
theorem wd_bwd {x wk:Int} {q:Nat} (h:1≤wk∧wk≤7) (hq:(q:Int)≤(Cv.wd x-wk) % 7):(Cv.wd (x-q)=wk)=((q:Int)=(Cv.wd x-wk) % 7):=by
 apply propext;unfold Cv.wd at *;omega
theorem Zz5i (y mo k wk d:Int) (w:World) (h:Cv.fitsB mo k wk d=false∨¬ (1≤y∧y≤9999)) :
  Calls Tryz.prog 195 #[A B y,A B mo,.agg #[A B k,A B wk,A B d]] w fun e w'=>e=F (.tuple #[A B (Cv.dayF y mo k wk d).1,A B (Cv.dayF y mo k wk d).2])∧Below w.heap.size w w':=by
 cases hf:Cv.fitsB mo k wk d
 ·rw [show Cv.dayF y mo k wk d=(0,1) by unfold Cv.dayF;rw [if_pos hf]]
  have HF:=Hh hf
  clear hf h
  go_enter Tryz.func195,Tryz.ntmps195
  go_wp2_with (go_at_call 193;refine (Zz5b _ _ _ _ _).mono ?_;rintro e w1 ⟨rfl,hb1⟩;rw [HF.out];obtain ⟨hc1,hf1⟩:=bcell hb1)
  go_ret2
  exact ⟨rfl,(bLR.alloc nlR _).trans (hb1.mono (by simp))⟩
 have hy:¬ (1≤y∧y≤9999):=by
  rcases h with h|h
  ·rw [hf] at h;cases h
  exact h
 rw [show Cv.dayF y mo k wk d=(0,2) by unfold Cv.dayF;rw [if_neg (by simp [hf]),if_pos (by omega)]]
 have HF:=Hh hf
 clear hf h
 by_cases g:1≤y
 all_goals
  go_enter Tryz.func195,Tryz.ntmps195
  go_wp2_with (go_at_call 193;refine (Zz5b _ _ _ _ _).mono ?_;rintro e w1 ⟨rfl,hb1⟩;rw [HF.out];obtain ⟨hc1,hf1⟩:=bcell hb1)
  go_ret2
  exact ⟨rfl,(bLR.alloc nlR _).trans (hb1.mono (by simp))⟩
theorem Zz5L (y mo k wk d:Int) (w:World) (hf:Cv.fitsB mo k wk d=true) (hy:1≤y∧y≤9999) (hv:Cv.validB y mo (Cv.onN y mo k d)=false) :
  Calls Tryz.prog 195 #[A B y,A B mo,.agg #[A B k,A B wk,A B d]] w fun e w'=>e=F (.tuple #[A B (Cv.dayF y mo k wk d).1,A B (Cv.dayF y mo k wk d).2])∧Below w.heap.size w w':=by
 have hmo:=Cv.fitsB_mo hf
 have hk2:k≠2:=by
  rintro rfl
  rw [show Cv.onN y mo 2 d=Cv.lenF y mo from rfl] at hv
  have:=Cv.mlen_bd y mo
  have h3:=Cv.lenF_in ⟨hy.1,hy.2,hmo.1,hmo.2⟩
  unfold Cv.validB at hv
  rw [decide_eq_false_iff_not,h3] at hv
  omega
 rw [show Cv.dayF y mo k wk d=(0,7) by unfold Cv.dayF;rw [if_neg (by simp [hf]),if_neg (by omega),if_pos hv]]
 rw [show Cv.onN y mo k d=d from if_neg hk2] at hv
 have HF:=Hh hf
 have HV:=Hh hv
 obtain ⟨y1,y2⟩:=hy
 clear hf hv
 go_enter Tryz.func195,Tryz.ntmps195
 go_wp2_with (first
  | (go_at_call 193;refine (Zz5b _ _ _ _ _).mono ?_;rintro e w1 ⟨rfl,hb1⟩;rw [HF.out];obtain ⟨hc1,hf1⟩:=bcell hb1;have hs1:w.heap.size<w1.heap.size:=by have:=hb1.size;simp at this;omega)
  | (go_at_call 211;refine (r2_Day _ _ _ _).mono ?_;rintro e w2 ⟨rfl,hb2⟩;rw [HV.out];obtain ⟨hc2,hf2⟩:=bcell hb2))
 go_ret2
 exact ⟨rfl,(((bLR.alloc nlR _).trans (hb1.mono (by simp))).alloc (by omega) _).trans (hb2.mono (by simp;omega))⟩
set_option maxRecDepth 100000 in
set_option maxHeartbeats 2000000 in
theorem Zz7K (y mo wk d:Int) (w:World) (hf:Cv.fitsB mo 1 wk d=true) (hy:1≤y∧y≤9999) (hv:Cv.validB y mo (d)=true) :
  Calls Tryz.prog 195 #[A B y,A B mo,.agg #[A B 1,A B wk,A B d]] w fun e w'=>e=F (.tuple #[A B (Cv.dayF y mo 1 wk d).1,A B (Cv.dayF y mo 1 wk d).2])∧Below w.heap.size w w':=by
 have hmo:=Cv.fitsB_mo hf
 have hc:=Cv.count_in hv
 have hd:Cv.dayF y mo 1 wk d=if Cv.insideB (Cv.count y mo d)=false then (0,2) else (Cv.count y mo d,0):=by
  unfold Cv.dayF;rw [if_neg (by simp [hf]),if_neg (by omega),if_neg (by rw [show Cv.onN y mo 1 d=d from rfl,hv];simp)];rfl
 have HF:=Hh hf
 have HV:=Hh hv
 have HD:=Hh hd
 obtain ⟨y1,y2⟩:=hy
 obtain ⟨m1,m2⟩:=hmo
 obtain ⟨c1,c2⟩:=hc
 clear hf hv hd
 go_enter Tryz.func195,Tryz.ntmps195
 go_wp2_with (first
  | (go_at_call 193;refine (Zz5b _ _ _ _ _).mono ?_;rintro e w1 ⟨rfl,hb1⟩;rw [HF.out];obtain ⟨hc1,hf1⟩:=bcell hb1;have hs1:w.heap.size<w1.heap.size:=by have:=hb1.size;simp at this;omega)
  | (go_at_call 158;refine (Zz18 _ _ _).mono ?_;rintro e w' ⟨rfl,rfl⟩)
  | (go_at_call 211;refine (r2_Day _ _ _ _).mono ?_;rintro e w2 ⟨rfl,hb2⟩;rw [HV.out];obtain ⟨hc2,hf2⟩:=bcell hb2))
 go_ret2
 exact ⟨retP (HD.out.trans (Zz2y (by omega) (by omega))),(((bLR.alloc nlR _).trans (hb1.mono (by simp))).alloc (by omega) _).trans (hb2.mono (by simp;omega))⟩
set_option maxRecDepth 100000 in
set_option maxHeartbeats 2000000 in
theorem Zz5j (y mo wk d:Int) (w:World) (hf:Cv.fitsB mo 3 wk d=true) (hy:1≤y∧y≤9999) (hv:Cv.validB y mo (d)=true) :
  Calls Tryz.prog 195 #[A B y,A B mo,.agg #[A B 3,A B wk,A B d]] w fun e w'=>e=F (.tuple #[A B (Cv.dayF y mo 3 wk d).1,A B (Cv.dayF y mo 3 wk d).2])∧Below w.heap.size w w':=by
 have hmo:=Cv.fitsB_mo hf
 have hc:=Cv.count_in hv
 have hd:Cv.dayF y mo 3 wk d=if Cv.insideB (Cv.count y mo d+(wk-Cv.wd (Cv.count y mo d)) % 7)=false then (0,2) else (Cv.count y mo d+(wk-Cv.wd (Cv.count y mo d)) % 7,0):=by
  unfold Cv.dayF;rw [if_neg (by simp [hf]),if_neg (by omega),if_neg (by rw [show Cv.onN y mo 3 d=d from rfl,hv];simp)];rfl
 have HF:=Hh hf
 have HV:=Hh hv
 have HD:=Hh hd
 obtain ⟨y1,y2⟩:=hy
 obtain ⟨m1,m2⟩:=hmo
 obtain ⟨c1,c2⟩:=hc
 have hwk:=Cv.fitsB_wk hf (by omega)
 obtain ⟨g1,g2⟩:=hwk
 have hwf:=fun q hq=>wd_fwd (x:=Cv.count y mo d) (wk:=wk) (q:=q) ⟨g1,g2⟩ hq
 have HW:=Hh hwf
 have r0:0≤(wk-Cv.wd (Cv.count y mo d)) % 7:=by omega
 have r6:(wk-Cv.wd (Cv.count y mo d)) % 7≤6:=by omega
 generalize (wk-Cv.wd (Cv.count y mo d)) % 7=R at *
 obtain ⟨X,hX⟩:∃ X,Hid (Cv.count y mo d=X):=⟨_,rfl⟩
 rw [hX.out] at HD c1 c2 HW
 clear hwf
 clear hf hv hd
 go_enter Tryz.func195,Tryz.ntmps195
 go_wp2_with (first
  | (go_at_call 193;refine (Zz5b _ _ _ _ _).mono ?_;rintro e w1 ⟨rfl,hb1⟩;rw [HF.out];obtain ⟨hc1,hf1⟩:=bcell hb1;have hs1:w.heap.size<w1.heap.size:=by have:=hb1.size;simp at this;omega)
  | (go_at_call 158;refine (Zz18 _ _ _).mono ?_;rintro e w' ⟨rfl,rfl⟩)
  | (go_at_call 211;refine (r2_Day _ _ _ _).mono ?_;rintro e w2 ⟨rfl,hb2⟩;rw [HV.out];rw [hX.out];obtain ⟨hc2,hf2⟩:=bcell hb2))
 have c1':w2.cell? ⟨w.heap.size,1,C⟩=some (A B wk):=(hc2 _ _ (by simp;omega)).trans (((Zz5O w1 _).cell (p:=⟨w.heap.size,1,C⟩) hs1).trans ((hc1 _ _ (by simp)).trans (by simp)))
 have hb0:Below w.heap.size w w2:=(((bLR.alloc nlR _).trans (hb1.mono (by simp))).alloc (by omega) _).trans (hb2.mono (by simp;omega))
 clear hc1 hc2 hf1 hf2
 go_loopw [9] (fun v wr=>∃ q:Nat,(q:Int)≤R∧v=A B (X+q)∧wr.cell? ⟨w.heap.size,1,C⟩=some (A B wk)∧Below w.heap.size w wr) (fun v _=>((X+10-intOf v):Int).toNat)
 case atStart=>exact ⟨0,by omega,by go_num,c1',hb0⟩
 case round =>
  obtain ⟨q,hq,rfl,hcl,hbr⟩:=hrel
  have hw:=HW.out q hq
  have hwd:=Hh (fun w=>Zz2p (X+q) w (by omega) (by omega))
  have hwb:=Cv.wd_bd (X+q)
  generalize Cv.wd (X+q)=W at *
  have hsz:w.heap.size<wr.heap.size:=block_lt_of_cell hcl
  by_cases he:W=wk
  ·have hqR:=Hh (show (q:Int)=R from hw▸he)
   have hr1:X+(q:Int)=X+R:=by rw [hqR.out]
   have HR:=Hh hr1
   clear hr1
   have he':(W != wk)=false:=by simp [he]
   clear hw
   go_wp2_with (go_quiet ((go_at_call 212;exact Calls.quiet_of_same (hwd.out _))))
   all_goals go_ret2
   all_goals first|exact ⟨retP (HD.out.trans (by rw [←HR.out];exact Zz2y (by omega) (by omega))),Zz1 hbr _⟩|exact ⟨retP (HD.out.trans (by rw [←HR.out];exact Zz5y (by omega))),Zz1 hbr _⟩
  have hqR:¬ (q:Int)=R:=hw▸he
  clear hw
  go_wp2_with (go_quiet ((go_at_call 212;exact Calls.quiet_of_same (hwd.out _))))
  go_roundw
  case rel=>exact ⟨q+1,by omega,by go_num,((Zz1 (Below.refl wr.heap.size wr) _).cell (p:=⟨w.heap.size,1,C⟩) hsz).trans hcl,Zz1 hbr _⟩
  case measure=>simp [intOf];omega
set_option maxRecDepth 100000 in
set_option maxHeartbeats 2000000 in
theorem Zz4q (y mo wk d:Int) (w:World) (hf:Cv.fitsB mo 4 wk d=true) (hy:1≤y∧y≤9999) (hv:Cv.validB y mo (d)=true) :
  Calls Tryz.prog 195 #[A B y,A B mo,.agg #[A B 4,A B wk,A B d]] w fun e w'=>e=F (.tuple #[A B (Cv.dayF y mo 4 wk d).1,A B (Cv.dayF y mo 4 wk d).2])∧Below w.heap.size w w':=by
 have hmo:=Cv.fitsB_mo hf
 have hc:=Cv.count_in hv
 have hd:Cv.dayF y mo 4 wk d=if Cv.insideB (Cv.count y mo d-(Cv.wd (Cv.count y mo d)-wk) % 7)=false then (0,2) else (Cv.count y mo d-(Cv.wd (Cv.count y mo d)-wk) % 7,0):=by
  unfold Cv.dayF;rw [if_neg (by simp [hf]),if_neg (by omega),if_neg (by rw [show Cv.onN y mo 4 d=d from rfl,hv];simp)];rfl
 have HF:=Hh hf
 have HV:=Hh hv
 have HD:=Hh hd
 obtain ⟨y1,y2⟩:=hy
 obtain ⟨m1,m2⟩:=hmo
 obtain ⟨c1,c2⟩:=hc
 have hwk:=Cv.fitsB_wk hf (by omega)
 obtain ⟨g1,g2⟩:=hwk
 have hwf:=fun q hq=>wd_bwd (x:=Cv.count y mo d) (wk:=wk) (q:=q) ⟨g1,g2⟩ hq
 have HW:=Hh hwf
 have r0:0≤(Cv.wd (Cv.count y mo d)-wk) % 7:=by omega
 have r6:(Cv.wd (Cv.count y mo d)-wk) % 7≤6:=by omega
 generalize (Cv.wd (Cv.count y mo d)-wk) % 7=R at *
 obtain ⟨X,hX⟩:∃ X,Hid (Cv.count y mo d=X):=⟨_,rfl⟩
 rw [hX.out] at HD c1 c2 HW
 clear hwf
 clear hf hv hd
 go_enter Tryz.func195,Tryz.ntmps195
 go_wp2_with (first
  | (go_at_call 193;refine (Zz5b _ _ _ _ _).mono ?_;rintro e w1 ⟨rfl,hb1⟩;rw [HF.out];obtain ⟨hc1,hf1⟩:=bcell hb1;have hs1:w.heap.size<w1.heap.size:=by have:=hb1.size;simp at this;omega)
  | (go_at_call 158;refine (Zz18 _ _ _).mono ?_;rintro e w' ⟨rfl,rfl⟩)
  | (go_at_call 211;refine (r2_Day _ _ _ _).mono ?_;rintro e w2 ⟨rfl,hb2⟩;rw [HV.out];rw [hX.out];obtain ⟨hc2,hf2⟩:=bcell hb2))
 have c1':w2.cell? ⟨w.heap.size,1,C⟩=some (A B wk):=(hc2 _ _ (by simp;omega)).trans (((Zz5O w1 _).cell (p:=⟨w.heap.size,1,C⟩) hs1).trans ((hc1 _ _ (by simp)).trans (by simp)))
 have hb0:Below w.heap.size w w2:=(((bLR.alloc nlR _).trans (hb1.mono (by simp))).alloc (by omega) _).trans (hb2.mono (by simp;omega))
 clear hc1 hc2 hf1 hf2
 go_loopw [9] (fun v wr=>∃ q:Nat,(q:Int)≤R∧v=A B (X-q)∧wr.cell? ⟨w.heap.size,1,C⟩=some (A B wk)∧Below w.heap.size w wr) (fun v _=>((intOf v-X+10):Int).toNat)
 case atStart=>exact ⟨0,by omega,by go_num,c1',hb0⟩
 case round =>
  obtain ⟨q,hq,rfl,hcl,hbr⟩:=hrel
  have hw:=HW.out q hq
  have hwd:=Hh (fun w=>Zz2p (X-q) w (by omega) (by omega))
  have hwb:=Cv.wd_bd (X-q)
  generalize Cv.wd (X-q)=W at *
  have hsz:w.heap.size<wr.heap.size:=block_lt_of_cell hcl
  by_cases he:W=wk
  ·have hqR:=Hh (show (q:Int)=R from hw▸he)
   have hr1:X-(q:Int)=X-R:=by rw [hqR.out]
   have HR:=Hh hr1
   clear hr1
   have he':(W != wk)=false:=by simp [he]
   clear hw
   go_wp2_with (go_quiet ((go_at_call 212;exact Calls.quiet_of_same (hwd.out _))))
   all_goals go_ret2
   all_goals first|exact ⟨retP (HD.out.trans (by rw [←HR.out];exact Zz2y (by omega) (by omega))),Zz1 hbr _⟩|exact ⟨retP (HD.out.trans (by rw [←HR.out];exact Zz5y (by omega))),Zz1 hbr _⟩
  have hqR:¬ (q:Int)=R:=hw▸he
  clear hw
  go_wp2_with (go_quiet ((go_at_call 212;exact Calls.quiet_of_same (hwd.out _))))
  go_roundw
  case rel=>exact ⟨q+1,by omega,by go_num,((Zz1 (Below.refl wr.heap.size wr) _).cell (p:=⟨w.heap.size,1,C⟩) hsz).trans hcl,Zz1 hbr _⟩
  case measure=>simp [intOf];omega
set_option maxRecDepth 100000 in
set_option maxHeartbeats 2000000 in
theorem Zz5v (y mo wk d:Int) (w:World) (hf:Cv.fitsB mo 2 wk d=true) (hy:1≤y∧y≤9999) (hv:Cv.validB y mo (Cv.lenF y mo)=true) :
  Calls Tryz.prog 195 #[A B y,A B mo,.agg #[A B 2,A B wk,A B d]] w fun e w'=>e=F (.tuple #[A B (Cv.dayF y mo 2 wk d).1,A B (Cv.dayF y mo 2 wk d).2])∧Below w.heap.size w w':=by
 have hmo:=Cv.fitsB_mo hf
 have hc:=Cv.count_in hv
 have hd:Cv.dayF y mo 2 wk d=if Cv.insideB (Cv.count y mo (Cv.lenF y mo)-(Cv.wd (Cv.count y mo (Cv.lenF y mo))-wk) % 7)=false then (0,2) else (Cv.count y mo (Cv.lenF y mo)-(Cv.wd (Cv.count y mo (Cv.lenF y mo))-wk) % 7,0):=by
  unfold Cv.dayF;rw [if_neg (by simp [hf]),if_neg (by omega),if_neg (by rw [show Cv.onN y mo 2 d=Cv.lenF y mo from rfl,hv];simp)];rfl
 have HF:=Hh hf
 have HV:=Hh hv
 have HD:=Hh hd
 obtain ⟨y1,y2⟩:=hy
 obtain ⟨m1,m2⟩:=hmo
 obtain ⟨c1,c2⟩:=hc
 have hwk:=Cv.fitsB_wk hf (by omega)
 obtain ⟨g1,g2⟩:=hwk
 have hwf:=fun q hq=>wd_bwd (x:=Cv.count y mo (Cv.lenF y mo)) (wk:=wk) (q:=q) ⟨g1,g2⟩ hq
 have HW:=Hh hwf
 have r0:0≤(Cv.wd (Cv.count y mo (Cv.lenF y mo))-wk) % 7:=by omega
 have r6:(Cv.wd (Cv.count y mo (Cv.lenF y mo))-wk) % 7≤6:=by omega
 generalize (Cv.wd (Cv.count y mo (Cv.lenF y mo))-wk) % 7=R at *
 obtain ⟨X,hX⟩:∃ X,Hid (Cv.count y mo (Cv.lenF y mo)=X):=⟨_,rfl⟩
 rw [hX.out] at HD c1 c2 HW
 clear hwf
 clear hf hv hd
 go_enter Tryz.func195,Tryz.ntmps195
 go_wp2_with (first
  | (go_at_call 193;refine (Zz5b _ _ _ _ _).mono ?_;rintro e w1 ⟨rfl,hb1⟩;rw [HF.out];obtain ⟨hc1,hf1⟩:=bcell hb1;have hs1:w.heap.size<w1.heap.size:=by have:=hb1.size;simp at this;omega)
  | (go_at_call 158;refine (Zz18 _ _ _).mono ?_;rintro e w' ⟨rfl,rfl⟩)
  | (go_at_call 211;refine (r2_Day _ _ _ _).mono ?_;rintro e w2 ⟨rfl,hb2⟩;rw [HV.out];rw [hX.out];obtain ⟨hc2,hf2⟩:=bcell hb2))
 have c1':w2.cell? ⟨w.heap.size,1,C⟩=some (A B wk):=(hc2 _ _ (by simp;omega)).trans (((Zz5O w1 _).cell (p:=⟨w.heap.size,1,C⟩) hs1).trans ((hc1 _ _ (by simp)).trans (by simp)))
 have hb0:Below w.heap.size w w2:=(((bLR.alloc nlR _).trans (hb1.mono (by simp))).alloc (by omega) _).trans (hb2.mono (by simp;omega))
 clear hc1 hc2 hf1 hf2
 go_loopw [9] (fun v wr=>∃ q:Nat,(q:Int)≤R∧v=A B (X-q)∧wr.cell? ⟨w.heap.size,1,C⟩=some (A B wk)∧Below w.heap.size w wr) (fun v _=>((intOf v-X+10):Int).toNat)
 case atStart=>exact ⟨0,by omega,by go_num,c1',hb0⟩
 case round =>
  obtain ⟨q,hq,rfl,hcl,hbr⟩:=hrel
  have hw:=HW.out q hq
  have hwd:=Hh (fun w=>Zz2p (X-q) w (by omega) (by omega))
  have hwb:=Cv.wd_bd (X-q)
  generalize Cv.wd (X-q)=W at *
  have hsz:w.heap.size<wr.heap.size:=block_lt_of_cell hcl
  by_cases he:W=wk
  ·have hqR:=Hh (show (q:Int)=R from hw▸he)
   have hr1:X-(q:Int)=X-R:=by rw [hqR.out]
   have HR:=Hh hr1
   clear hr1
   have he':(W != wk)=false:=by simp [he]
   clear hw
   go_wp2_with (go_quiet ((go_at_call 212;exact Calls.quiet_of_same (hwd.out _))))
   all_goals go_ret2
   all_goals first|exact ⟨retP (HD.out.trans (by rw [←HR.out];exact Zz2y (by omega) (by omega))),Zz1 hbr _⟩|exact ⟨retP (HD.out.trans (by rw [←HR.out];exact Zz5y (by omega))),Zz1 hbr _⟩
  have hqR:¬ (q:Int)=R:=hw▸he
  clear hw
  go_wp2_with (go_quiet ((go_at_call 212;exact Calls.quiet_of_same (hwd.out _))))
  go_roundw
  case rel=>exact ⟨q+1,by omega,by go_num,((Zz1 (Below.refl wr.heap.size wr) _).cell (p:=⟨w.heap.size,1,C⟩) hsz).trans hcl,Zz1 hbr _⟩
  case measure=>simp [intOf];omega
/- The reference of layer 20: Day in one, At. -/
theorem Zz7M (y mo k wk d:Int) (w:World) :
  Calls Tryz.prog 195 #[A B y,A B mo,.agg #[A B k,A B wk,A B d]] w fun e w'=>e=F (.tuple #[A B (Cv.dayF y mo k wk d).1,A B (Cv.dayF y mo k wk d).2])∧Below w.heap.size w w':=by
 cases hf:Cv.fitsB mo k wk d
 ·exact Zz5i y mo k wk d w (.inl hf)
 by_cases hy:1≤y∧y≤9999
 ·cases hv:Cv.validB y mo (Cv.onN y mo k d)
  ·exact Zz5L y mo k wk d w hf hy hv
  have hk:=Cv.fitsB_k hf
  have hk4:k=1∨k=2∨k=3∨k=4:=by omega
  rcases hk4 with rfl|rfl|rfl|rfl
  ·exact Zz7K y mo wk d w hf hy hv
  ·exact Zz5v y mo wk d w hf hy hv
  ·exact Zz5j y mo wk d w hf hy hv
  exact Zz4q y mo wk d w hf hy hv
 exact Zz5i y mo k wk d w (.inr hy)
def Rule.rat (r:Rule) (y:Int):Int:=if r.valid=true∧r.fr≤y∧y≤r.to then r.loc y else 0
set_option maxHeartbeats 1000000 in
theorem r20_At (r:Rule) (y:Int) (w:World):Calls Tryz.prog 160 #[r.v,A B y] w fun e w'=>e=F (.tuple #[A B (r.rat y),.bool (r.active y)])∧Below w.heap.size w w':=by
 show Calls Tryz.prog 160 #[.agg #[.string r.nm,A B r.fr,A B r.to,A B r.mo,A B r.k,A B r.wk,A B r.d,A B r.at_,A B r.cl,A B r.sv,.string r.lt],A B y] w _
 have HV:=Hh (fun W=>Zz4e r W)
 cases hv:r.valid
 ·rw [show r.rat y=0 from if_neg (by simp [hv]),show r.active y=false by unfold Rule.active;rw [hv];rfl]
  have H:=Hh hv
  clear hv
  go_enter Tryz.func160,Tryz.ntmps160
  go_wp2_with (go_at_call 155;refine (HV.out _).mono ?_;rintro e w1 ⟨rfl,hb1⟩;rw [H.out])
  go_ret2
  exact ⟨rfl,(bLR.alloc nlR _).trans (hb1.mono (by simp))⟩
 have H:=Hh hv
 by_cases g:r.fr≤y∧y≤r.to
 ·have ho:=Rule.valid_ok hv
  rw [show r.rat y=r.loc y from if_pos ⟨hv,g.1,g.2⟩,show r.active y=((r.day y).2 == 0) by unfold Rule.active Rule.has;rw [hv,dTt g];rfl]
  have HD:=Hh (show Cv.dayF y r.mo r.k r.wk r.d=r.day y from rfl)
  obtain ⟨b1,b2,b3,b4⟩:=day_bd r y
  have t0:=ho.at0
  have t1:=ho.at1
  obtain ⟨g1,g2⟩:=g
  clear hv ho
  have hloc:86400*(r.day y).1+r.at_=r.loc y:=by unfold Rule.loc;omega
  have HLoc:=Hh hloc
  clear hloc
  obtain ⟨D,hD⟩:∃ D,Hid ((r.day y).1=D):=⟨_,rfl⟩
  obtain ⟨E,hE⟩:∃ E,Hid ((r.day y).2=E):=⟨_,rfl⟩
  rw [hD.out] at b1 b2 HLoc
  rw [hE.out] at b3 b4 ⊢
  go_enter Tryz.func160,Tryz.ntmps160
  go_wp2_with (first
   | (go_at_call 155;refine (HV.out _).mono ?_;rintro e w1 ⟨rfl,hb1⟩;rw [H.out];obtain ⟨hc1,hf1⟩:=bcell hb1;have hs1:w.heap.size<w1.heap.size:=by have:=hb1.size;simp at this;omega)
   | (go_at_call 195;refine (Zz7M _ _ _ _ _ _).mono ?_;rintro e w2 ⟨rfl,hb2⟩;rw [HD.out,hD.out,hE.out];obtain ⟨hc2,hf2⟩:=bcell hb2))
  go_ret2
  exact ⟨ret2 (vint HLoc.out) rfl,((bLR.alloc nlR _).trans (hb1.mono (by simp))).trans (hb2.mono (by omega))⟩
 rw [show r.rat y=0 from if_neg (by simp [hv];omega),show r.active y=false by unfold Rule.active Rule.has;rw [dFf g];simp]
 clear hv
 by_cases g1:r.fr≤y
 all_goals
  go_enter Tryz.func160,Tryz.ntmps160
  go_wp2_with (go_at_call 155;refine (HV.out _).mono ?_;rintro e w1 ⟨rfl,hb1⟩;rw [H.out];obtain ⟨hc1,hf1⟩:=bcell hb1;have hs1:w.heap.size<w1.heap.size:=by have:=hb1.size;simp at this;omega)
  go_ret2
  exact ⟨rfl,(bLR.alloc nlR _).trans (hb1.mono (by simp))⟩
end Go.Proofs.YtmmgdjgcikbhbaaGreat

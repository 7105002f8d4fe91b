/- Contracts of packages civil and integer over this seat's translation. -/
import Derived.Test.YtmmgdjgcikbhbaaGreatChecked
import Derived.Test.YtmmgdjgcikbhbaaGreatGBase
import Derived.Deep.QuietTactic
import Derived.BigQuiet
import Derived.WalkLawsBesides
open Go.Value renaming int → A
open Go.IntKind renaming i64 → C
open Go.Ending renaming returned → D
namespace Go.Proofs.YtmmgdjgcikbhbaaGreat
set_option linter.unusedSimpArgs false
set_option linter.unusedVariables false
open Go.ChangeShapes Go.WideShapes Go.ChangeAt Go.RowKit
theorem vint {k:IntKind} {a b:Int} (h:a=b):Value.int k a=.int k b:=by rw [h]
theorem vbool {a b:Bool} (h:a=b):Value.bool a=.bool b:=by rw [h]
theorem ret1 {x y:Value} (h:x=y):Ending.returned x=D y:=by rw [h]
theorem ret2 {x0 x1 y0 y1:Value} (h0:x0=y0) (h1:x1=y1):Ending.returned (.tuple #[x0,x1])=D (.tuple #[y0,y1]):=by rw [h0,h1]
theorem ret3 {x0 x1 x2 y0 y1 y2:Value} (h0:x0=y0) (h1:x1=y1) (h2:x2=y2):Ending.returned (.tuple #[x0,x1,x2])=D (.tuple #[y0,y1,y2]):=by rw [h0,h1,h2]
theorem Zz1 {B:Nat} {a w:World} (h:Below B a w) (n:Nat):Below B a (w.drewN n):=⟨h.os,h.tape,h.output,h.size,h.block⟩
theorem Zz1d (w:World) (o:Obj) (n:Nat):Below w.heap.size w ((w.alloc o).drewN n):=Zz1 (bLR.alloc nlR _) n
theorem bcell {W w1:World} {B:Nat} (hb:Below B W w1):(∀ b o,b<B→w1.cell? ⟨b,o,none⟩=W.cell? ⟨b,o,none⟩)∧(∀ b o,b<B→w1.frozen? ⟨b,o,none⟩=W.frozen? ⟨b,o,none⟩) :=
 ⟨fun b o h=>hb.cell (p:=⟨b,o,none⟩) h,fun b o h=>hb.frozen (p:=⟨b,o,none⟩) h⟩
/-! ### integer -/
theorem Zz11 (a b:Int) (hb:0<b) (ha:0≤a):a.tdiv b=a / b∧a.tmod b=a % b∧0≤a.tmod b∧0≤a.tdiv b∧a.tdiv b≤a∧a.tmod b<b:=by
 have h1:=Int.tdiv_eq_ediv_of_nonneg ha (b:=b)
 have h2:=Int.tmod_eq_emod_of_nonneg ha (b:=b)
 rw [h1,h2]
 refine ⟨rfl,rfl,Int.emod_nonneg _ (by omega),Int.ediv_nonneg ha (by omega),Int.ediv_le_self _ ha,Int.emod_lt_of_pos _ hb⟩
theorem tq_neg (a b:Int) (hb:0<b) (ha:a<0):a≤a.tdiv b∧a.tdiv b≤0∧a.tmod b≤0 ∧ -b<a.tmod b∧(a.tmod b=0→a.tdiv b=a / b∧a % b=0)∧(a.tmod b≠0→a.tdiv b-1=a / b∧a.tmod b+b=a % b):=by
 obtain ⟨h1,h2,h3,h4,h5,h6⟩:=Zz11 (-a) b hb (by omega)
 rw [Int.neg_tdiv] at h1 h4 h5
 rw [Int.neg_tmod] at h2 h3 h6
 have e1:=Int.mul_tdiv_add_tmod a b
 have e2:=Int.mul_ediv_add_emod a b
 have e3:=Int.emod_nonneg a (show b≠0 by omega)
 have e4:=Int.emod_lt_of_pos a hb
 generalize a.tdiv b=q at *
 generalize a.tmod b=r at *
 refine ⟨by omega,by omega,by omega,by omega,fun hr=>?_,fun hr=>?_⟩
 ·subst hr
  have hq:q=a / b:=by
   rw [←e1,Int.add_zero,Int.mul_ediv_cancel_left _ (by omega)]
  exact ⟨hq,by rw [←hq] at e2;omega⟩
 have hq:q-1=a / b:=by
  have:a=b*(q-1)+(r+b):=by rw [Int.mul_sub];omega
  rw [this,Int.mul_add_ediv_left _ _ (by omega),Int.ediv_eq_zero_of_lt (by omega) (by omega)];omega
 refine ⟨hq,?_⟩
 rw [←hq,Int.mul_sub] at e2;omega
set_option maxHeartbeats 400000 in
theorem Zz3C (a b:Int) (w:World) (hb:0<b) (ha : -4611686018427387904≤a∧a≤4611686018427387904) (hb':b≤4611686018427387904) :
  Calls Tryz.prog 116 #[A C a,A C b] w fun e w'=>e=D (.tuple #[A C (a / b),A C (a % b),A C 0])∧∃ n,w.drewN n=w':=by
 by_cases h0:0≤a
 ·have h3:0≤a % b:=Int.emod_nonneg _ (by omega)
  have hn:(decide (a % b<0))=false:=by simpa using h3
  have hm:(decide (b<0))=false:=by simp;omega
  go_enter Tryz.func116,Tryz.ntmps116
  go_wp2
  go_quiet (fail)
  go_wp2
  all_goals go_ret3
  all_goals first|(exfalso;simp [hn,hm] at *;done)|exact ⟨ret3 rfl rfl rfl,_,rfl⟩|skip
  all_goals (refine ⟨ret3 (vint ?_) (vint ?_) rfl,_,rfl⟩ <;> first|rfl|omega)
 obtain ⟨h1,h2,h3,h4,h5,h6⟩:=tq_neg a b hb (by omega)
 have hm:(decide (b<0))=false:=by simp;omega
 have H5:=Hh h5
 have H6:=Hh h6
 clear h5 h6
 by_cases hr:a.tmod b=0
 ·go_enter Tryz.func116,Tryz.ntmps116
  go_wp2
  go_quiet (fail)
  go_wp2
  all_goals go_ret3
  refine ⟨ret3 (vint (H5.out hr).1) (vint (H5.out hr).2.symm) rfl,_,rfl⟩
 have hn:decide (a.tmod b<0)=true:=by simp;omega
 go_enter Tryz.func116,Tryz.ntmps116
 go_wp2
 go_quiet (fail)
 go_wp2
 all_goals go_ret3
 all_goals first|(exfalso;simp [hn,hm] at *;done)|(refine ⟨ret3 (vint (H6.out hr).1) (vint (H6.out hr).2) rfl,_,rfl⟩)
theorem Zz7y (a b:Int) (w:World) (hb:0<b) (ha : -4611686018427387904≤a∧a≤4611686018427387904) (hb':b≤4611686018427387904) :
  Calls Tryz.prog 237 #[A C a,A C b] w fun e w'=>e=D (A C (a % b))∧∃ n,w.drewN n=w':=by
 go_enter Tryz.func237,Tryz.ntmps237
 go_wp2_with (go_at_call 116;refine (Zz3C a b _ hb ha hb').mono ?_;rintro e w' ⟨rfl,n,rfl⟩)
 go_ret
 exact ⟨rfl,n,rfl⟩
/-! ### civil -/
theorem ZzK (y:Int) (w:World):Calls Tryz.prog 182 #[A C y] w fun e w'=>e=D (.bool (Cv.yearB y))∧w=w':=by
 go_enter Tryz.func182,Tryz.ntmps182
 go_wp2
 all_goals (go_ret;exact ⟨ret1 (vbool (by simp [Cv.yearB];try omega)),rfl⟩)
theorem Zz2e (y:Int) (w:World):Calls Tryz.prog 183 #[A C y] w fun e w'=>e=D (.bool (Cv.leapB y))∧w=w':=by
 by_cases hy:1≤y∧y≤9999
 ·have h:=Hh (show Cv.yearB y=true from dTt hy)
  obtain ⟨h1,h2⟩:=hy
  go_enter Tryz.func183,Tryz.ntmps183
  go_wp2_with (go_at_call 182;refine (ZzK _ _).mono ?_;rintro e w' ⟨rfl,rfl⟩;rw [h.out])
  all_goals (go_ret;exact ⟨ret1 (vbool (by simp [Cv.leapB,h.out, *])),rfl⟩)
 have h:=Hh (show Cv.yearB y=false from dFf hy)
 go_enter Tryz.func183,Tryz.ntmps183
 go_wp2_with (go_at_call 182;refine (ZzK _ _).mono ?_;rintro e w' ⟨rfl,rfl⟩;rw [h.out])
 all_goals (go_ret;exact ⟨ret1 (vbool (by simp [Cv.leapB,h.out])),rfl⟩)
theorem ix0 (w:World):(Instr.index 208 (.agg #[A C 31,A C 28,A C 31,A C 30,A C 31,A C 30,A C 31,A C 31,A C 30,A C 31,A C 30,A C 31]) (A C 0)).run Tryz.prog w=.ok (A C 31) w:=by kernel_rfl
theorem ix1 (w:World):(Instr.index 208 (.agg #[A C 31,A C 28,A C 31,A C 30,A C 31,A C 30,A C 31,A C 31,A C 30,A C 31,A C 30,A C 31]) (A C 1)).run Tryz.prog w=.ok (A C 28) w:=by kernel_rfl
theorem ix2 (w:World):(Instr.index 208 (.agg #[A C 31,A C 28,A C 31,A C 30,A C 31,A C 30,A C 31,A C 31,A C 30,A C 31,A C 30,A C 31]) (A C 2)).run Tryz.prog w=.ok (A C 31) w:=by kernel_rfl
theorem ix3 (w:World):(Instr.index 208 (.agg #[A C 31,A C 28,A C 31,A C 30,A C 31,A C 30,A C 31,A C 31,A C 30,A C 31,A C 30,A C 31]) (A C 3)).run Tryz.prog w=.ok (A C 30) w:=by kernel_rfl
theorem ix4 (w:World):(Instr.index 208 (.agg #[A C 31,A C 28,A C 31,A C 30,A C 31,A C 30,A C 31,A C 31,A C 30,A C 31,A C 30,A C 31]) (A C 4)).run Tryz.prog w=.ok (A C 31) w:=by kernel_rfl
theorem ix5 (w:World):(Instr.index 208 (.agg #[A C 31,A C 28,A C 31,A C 30,A C 31,A C 30,A C 31,A C 31,A C 30,A C 31,A C 30,A C 31]) (A C 5)).run Tryz.prog w=.ok (A C 30) w:=by kernel_rfl
theorem ix6 (w:World):(Instr.index 208 (.agg #[A C 31,A C 28,A C 31,A C 30,A C 31,A C 30,A C 31,A C 31,A C 30,A C 31,A C 30,A C 31]) (A C 6)).run Tryz.prog w=.ok (A C 31) w:=by kernel_rfl
theorem ix7 (w:World):(Instr.index 208 (.agg #[A C 31,A C 28,A C 31,A C 30,A C 31,A C 30,A C 31,A C 31,A C 30,A C 31,A C 30,A C 31]) (A C 7)).run Tryz.prog w=.ok (A C 31) w:=by kernel_rfl
theorem ix8 (w:World):(Instr.index 208 (.agg #[A C 31,A C 28,A C 31,A C 30,A C 31,A C 30,A C 31,A C 31,A C 30,A C 31,A C 30,A C 31]) (A C 8)).run Tryz.prog w=.ok (A C 30) w:=by kernel_rfl
theorem ix9 (w:World):(Instr.index 208 (.agg #[A C 31,A C 28,A C 31,A C 30,A C 31,A C 30,A C 31,A C 31,A C 30,A C 31,A C 30,A C 31]) (A C 9)).run Tryz.prog w=.ok (A C 31) w:=by kernel_rfl
theorem ix10 (w:World):(Instr.index 208 (.agg #[A C 31,A C 28,A C 31,A C 30,A C 31,A C 30,A C 31,A C 31,A C 30,A C 31,A C 30,A C 31]) (A C 10)).run Tryz.prog w=.ok (A C 30) w:=by kernel_rfl
theorem ix11 (w:World):(Instr.index 208 (.agg #[A C 31,A C 28,A C 31,A C 30,A C 31,A C 30,A C 31,A C 31,A C 30,A C 31,A C 30,A C 31]) (A C 11)).run Tryz.prog w=.ok (A C 31) w:=by kernel_rfl
theorem idx12 {y:Int} (m:Int) (h1:1≤m) (h2:m≤12) (hl:m=2→Cv.leapB y=false) (w:World):(Instr.index 208 (.agg #[A C 31,A C 28,A C 31,A C 30,A C 31,A C 30,A C 31,A C 31,A C 30,A C 31,A C 30,A C 31]) (A C (m-1))).run Tryz.prog w=.ok (A C (Cv.mlen y m)) w:=by
 rcases Cv.months h1 h2 with rfl|rfl|rfl|rfl|rfl|rfl|rfl|rfl|rfl|rfl|rfl|rfl
 ·exact ix0 w
 ·rw [show Cv.mlen y 2=28 from by simp [Cv.mlen,hl rfl]];exact ix1 w
 ·exact ix2 w
 ·exact ix3 w
 ·exact ix4 w
 ·exact ix5 w
 ·exact ix6 w
 ·exact ix7 w
 ·exact ix8 w
 ·exact ix9 w
 ·exact ix10 w
 exact ix11 w
set_option maxRecDepth 100000 in
set_option maxHeartbeats 1000000 in
theorem Zz1q (y m:Int) (w:World):Calls Tryz.prog 144 #[A C y,A C m] w fun e w'=>e=D (A C (Cv.lenF y m))∧w=w':=by
 by_cases hy:1≤y∧y≤9999
 ·have h:=Hh (show Cv.yearB y=true from dTt hy)
  by_cases hm:1≤m∧m≤12
  ·have hl:=Hh (Cv.lenF_in (y:=y) (m:=m) ⟨hy.1,hy.2,hm.1,hm.2⟩)
   rw [hl.out]
   clear hl hy
   obtain ⟨hm1,hm2⟩:=hm
   cases hb:Cv.leapB y
   all_goals
    have hb':=Hh hb
    by_cases h2:m=2
   ·subst h2
    have hi:=ix1
    rw [show Cv.mlen y 2=28 from by simp [Cv.mlen,hb]]
    clear hb
    go_enter Tryz.func144,Tryz.ntmps144
    go_wp2_with (first|(go_at_call 182;refine (ZzK _ _).mono ?_;rintro e w' ⟨rfl,rfl⟩;rw [h.out])|(go_at_call 183;refine (Zz2e _ _).mono ?_;rintro e w' ⟨rfl,rfl⟩;rw [hb'.out]))
    all_goals (go_ret;exact ⟨rfl,rfl⟩)
   ·have hi:=idx12 (y:=y) m hm1 hm2 (fun _=>hb)
    clear hb
    go_enter Tryz.func144,Tryz.ntmps144
    go_wp2_with (first|(go_at_call 182;refine (ZzK _ _).mono ?_;rintro e w' ⟨rfl,rfl⟩;rw [h.out])|(go_at_call 183;refine (Zz2e _ _).mono ?_;rintro e w' ⟨rfl,rfl⟩;rw [hb'.out]))
    all_goals (go_ret;exact ⟨rfl,rfl⟩)
   ·subst h2
    rw [show Cv.mlen y 2=29 from by simp [Cv.mlen,hb]]
    clear hb
    go_enter Tryz.func144,Tryz.ntmps144
    go_wp2_with (first|(go_at_call 182;refine (ZzK _ _).mono ?_;rintro e w' ⟨rfl,rfl⟩;rw [h.out])|(go_at_call 183;refine (Zz2e _ _).mono ?_;rintro e w' ⟨rfl,rfl⟩;rw [hb'.out]))
    all_goals (go_ret;exact ⟨rfl,rfl⟩)
   have hi:=idx12 (y:=y) m hm1 hm2 (fun h=>absurd h h2)
   clear hb
   go_enter Tryz.func144,Tryz.ntmps144
   go_wp2_with (first|(go_at_call 182;refine (ZzK _ _).mono ?_;rintro e w' ⟨rfl,rfl⟩;rw [h.out])|(go_at_call 183;refine (Zz2e _ _).mono ?_;rintro e w' ⟨rfl,rfl⟩;rw [hb'.out]))
   all_goals (go_ret;exact ⟨rfl,rfl⟩)
  have hl:=Hh (show Cv.lenF y m=0 from if_neg (by omega))
  rw [hl.out]
  by_cases h1:m<1
  ·go_enter Tryz.func144,Tryz.ntmps144
   go_wp2_with ((go_at_call 182;refine (ZzK _ _).mono ?_;rintro e w' ⟨rfl,rfl⟩;rw [h.out]))
   go_ret
   exact ⟨rfl,rfl⟩
  have h2:12<m:=by omega
  clear hm
  go_enter Tryz.func144,Tryz.ntmps144
  go_wp2_with ((go_at_call 182;refine (ZzK _ _).mono ?_;rintro e w' ⟨rfl,rfl⟩;rw [h.out]))
  go_ret
  exact ⟨rfl,rfl⟩
 have h:=Hh (show Cv.yearB y=false from dFf hy)
 have hl:=Hh (show Cv.lenF y m=0 from if_neg (by omega))
 rw [hl.out]
 go_enter Tryz.func144,Tryz.ntmps144
 go_wp2_with ((go_at_call 182;refine (ZzK _ _).mono ?_;rintro e w' ⟨rfl,rfl⟩;rw [h.out]))
 go_ret
 exact ⟨rfl,rfl⟩
theorem Zzx (y m d:Int) (w:World) (hy : -100000≤y∧y≤100000) (hm:1≤m∧m≤12) (hd : -100000≤d∧d≤100000) (hy0:1≤y) :
  Calls Tryz.prog 118 #[A C y,A C m,A C d] w fun e w'=>e=D (A C (Cv.count y m d))∧w=w':=by
 by_cases h:m≤2
 ·have h0:0≤153*(m+12-3)+2:=by omega
  go_enter Tryz.func118,Tryz.ntmps118
  go_wp2
  go_ret
  exact ⟨ret1 (vint (by unfold Cv.count Cv.cnt;rw [if_pos (by omega)])),rfl⟩
 have h0:0≤153*(m-3)+2:=by omega
 go_enter Tryz.func118,Tryz.ntmps118
 go_wp2
 go_ret
 exact ⟨ret1 (vint (by unfold Cv.count Cv.cnt;rw [if_neg (by omega)])),rfl⟩
theorem Zz1X (d:Int) (w:World):Calls Tryz.prog 117 #[A C d] w fun e w'=>e=D (.bool (Cv.insideB d))∧w=w':=by
 go_enter Tryz.func117,Tryz.ntmps117
 go_wp2
 all_goals (go_ret;exact ⟨ret1 (vbool (by simp [Cv.insideB];try omega)),rfl⟩)
theorem Zz2u (d:Int) (w:World):Calls Tryz.prog 235 #[A C d] w fun e w'=>e=D (A C (Cv.wdF d))∧∃ n,w.drewN n=w':=by
 by_cases hd : -719162≤d∧d<2932897
 ·have h:=Hh (show Cv.insideB d=true from dTt hd)
  obtain ⟨h1,h2⟩:=hd
  have h3:0≤(d+3) % 7:=by omega
  have h4:(d+3) % 7≤6:=by omega
  go_enter Tryz.func235,Tryz.ntmps235
  go_wp2_with (first|(go_at_call 117;refine (Zz1X _ _).mono ?_;rintro e w' ⟨rfl,rfl⟩;rw [h.out])|(go_at_call 237;refine (Zz7y _ _ _ (by omega) ⟨by omega,by omega⟩ (by omega)).mono ?_;rintro e w' ⟨rfl,n,rfl⟩))
  go_ret
  exact ⟨ret1 (vint (by simp [Cv.wdF,Cv.wd,h1,h2])),_,rfl⟩
 have h:=Hh (show Cv.insideB d=false from dFf hd)
 go_enter Tryz.func235,Tryz.ntmps235
 go_wp2_with ((go_at_call 117;refine (Zz1X _ _).mono ?_;rintro e w' ⟨rfl,rfl⟩;rw [h.out]))
 go_ret
 exact ⟨ret1 (vint (by simp only [Cv.wdF];rw [if_neg hd])),0,rfl⟩
set_option maxHeartbeats 400000 in
theorem Zz3N (y m d:Int) (w:World):Calls Tryz.prog 231 #[.agg #[A C y,A C m,A C d]] w fun e w'=>e=D (.bool (Cv.validB y m d))∧Below w.heap.size w w':=by
 by_cases h1:1≤d
 ·have hl:=Cv.lenF_bd y m
  go_enter Tryz.func231,Tryz.ntmps231
  go_wp2
  go_quiet ((go_at_call 144;exact Calls.quiet_of_same ((Zz1q _ _ _).mono fun _ _ h=>⟨h.1,h.2.symm⟩)))
  go_wp2
  go_ret
  exact ⟨ret1 (vbool (by simp [Cv.validB,h1])),Zz1d _ _ _⟩
 have hd:decide (1≤d)=false:=by simpa using h1
 go_enter Tryz.func231,Tryz.ntmps231
 go_wp2
 go_quiet (fail)
 go_wp2
 go_ret
 exact ⟨ret1 (vbool (by unfold Cv.validB;rw [eq_comm,decide_eq_false_iff_not];omega)),Zz1d _ _ _⟩
set_option maxHeartbeats 400000 in
theorem Zz29 (y m d:Int) (w:World):Calls Tryz.prog 225 #[.agg #[A C y,A C m,A C d]] w fun e w'=>e=D (.tuple #[A C (if Cv.validB y m d then Cv.count y m d else 0),A C (if Cv.validB y m d then 0 else 1)])∧Below w.heap.size w w':=by
 cases hv:Cv.validB y m d
 ·have h:=Hh hv
  clear hv
  go_enter Tryz.func225,Tryz.ntmps225
  go_wp2_with (go_at_call 231;refine (Zz3N _ _ _ _).mono ?_;rintro e w1 ⟨rfl,hb⟩;rw [h.out])
  go_ret2
  exact ⟨rfl,(bLR.alloc nlR _).trans (hb.mono (by simp))⟩
 have h:=Hh hv
 have hi:=Cv.validB_iff.1 hv
 obtain ⟨a1,a2,a3,a4,a5,a6⟩:=hi
 have a7:=Cv.mlen_bd y m
 clear hv
 go_enter Tryz.func225,Tryz.ntmps225
 go_wp2_with (first|(go_at_call 231;refine (Zz3N _ _ _ _).mono ?_;rintro e w1 ⟨rfl,hb⟩;rw [h.out];obtain ⟨hc,hf⟩:=bcell hb)|(go_at_call 118;refine (Zzx _ _ _ _ ⟨by omega,by omega⟩ ⟨by omega,by omega⟩ ⟨by omega,by omega⟩ (by omega)).mono ?_;rintro e w2 ⟨rfl,rfl⟩))
 go_ret2
 exact ⟨rfl,(bLR.alloc nlR _).trans (hb.mono (by simp))⟩
end Go.Proofs.YtmmgdjgcikbhbaaGreat

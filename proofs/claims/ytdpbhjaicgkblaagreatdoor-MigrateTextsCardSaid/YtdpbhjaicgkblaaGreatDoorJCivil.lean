/- Contracts of packages civil and integer over this seat's translation. -/
import Derived.Test.YtdpbhjaicgkblaaGreatDoorChecked
import Derived.Test.YtdpbhjaicgkblaaGreatDoorGBase
import Derived.Handy
import Derived.Deep.QuietTactic
import Derived.BigQuiet
import Derived.WalkLawsBesides
import Derived.Lib.Hide
namespace Go.Proofs.YtdpbhjaicgkblaaGreatDoor
set_option linter.unusedSimpArgs false
set_option linter.unusedVariables false
open Go.ChangeShapes Go.WideShapes Go.ChangeAt Go.RowKit
theorem vint {k : IntKind} {a b : Int} (h : a = b) : Value.int k a = .int k b := by rw [h]
theorem vbool {a b : Bool} (h : a = b) : Value.bool a = .bool b := by rw [h]
theorem ret1 {x y : Value} (h : x = y) : Ending.returned x = .returned y := by rw [h]
theorem ret2 {x0 x1 y0 y1 : Value} (h0 : x0 = y0) (h1 : x1 = y1) : Ending.returned (.tuple #[x0, x1]) = .returned (.tuple #[y0, y1]) := by rw [h0, h1]
theorem ret3 {x0 x1 x2 y0 y1 y2 : Value} (h0 : x0 = y0) (h1 : x1 = y1) (h2 : x2 = y2) : Ending.returned (.tuple #[x0, x1, x2]) = .returned (.tuple #[y0, y1, y2]) := by rw [h0, h1, h2]
theorem below_drewN {B : Nat} {a w : World} (h : Below B a w) (n : Nat) : Below B a (w.drewN n) := ⟨h.os, h.tape, h.output, h.size, h.block⟩
theorem box_drew (w : World) (o : Obj) (n : Nat) : Below w.heap.size w ((w.alloc o).drewN n) := below_drewN ((Below.refl _ _).alloc (Nat.le_refl _) _) n
theorem bcell {W w1 : World} {B : Nat} (hb : Below B W w1) : (∀ b o, b < B → w1.cell? ⟨b, o, none⟩ = W.cell? ⟨b, o, none⟩) ∧ (∀ b o, b < B → w1.frozen? ⟨b, o, none⟩ = W.frozen? ⟨b, o, none⟩) :=
 ⟨fun b o h => hb.cell (p := ⟨b, o, none⟩) h, fun b o h => hb.frozen (p := ⟨b, o, none⟩) h⟩
/-! ### integer -/
theorem tq_nonneg (a b : Int) (hb : 0 < b) (ha : 0 ≤ a) : a.tdiv b = a / b ∧ a.tmod b = a % b ∧ 0 ≤ a.tmod b ∧ 0 ≤ a.tdiv b ∧ a.tdiv b ≤ a ∧ a.tmod b < b := by
 have h1 := Int.tdiv_eq_ediv_of_nonneg ha (b := b)
 have h2 := Int.tmod_eq_emod_of_nonneg ha (b := b)
 rw [h1, h2]
 refine ⟨rfl, rfl, Int.emod_nonneg _ (by omega), Int.ediv_nonneg ha (by omega), Int.ediv_le_self _ ha, Int.emod_lt_of_pos _ hb⟩
theorem tq_neg (a b : Int) (hb : 0 < b) (ha : a < 0) : a ≤ a.tdiv b ∧ a.tdiv b ≤ 0 ∧ a.tmod b ≤ 0 ∧ -b < a.tmod b ∧ (a.tmod b = 0 → a.tdiv b = a / b ∧ a % b = 0) ∧ (a.tmod b ≠ 0 → a.tdiv b - 1 = a / b ∧ a.tmod b + b = a % b) := by
 obtain ⟨h1, h2, h3, h4, h5, h6⟩ := tq_nonneg (-a) b hb (by omega)
 rw [Int.neg_tdiv] at h1 h4 h5
 rw [Int.neg_tmod] at h2 h3 h6
 have e1 := Int.mul_tdiv_add_tmod a b
 have e2 := Int.mul_ediv_add_emod a b
 have e3 := Int.emod_nonneg a (show b ≠ 0 by omega)
 have e4 := Int.emod_lt_of_pos a hb
 generalize a.tdiv b = q at *
 generalize a.tmod b = r at *
 refine ⟨by omega, by omega, by omega, by omega, fun hr => ?_, fun hr => ?_⟩
 ·subst hr
  have hq : q = a / b := by
   rw [← e1, Int.add_zero, Int.mul_ediv_cancel_left _ (by omega)]
  exact ⟨hq, by rw [← hq] at e2; omega⟩
 ·have hq : q - 1 = a / b := by
   have : a = b * (q - 1) + (r + b) := by rw [Int.mul_sub]; omega
   rw [this, Int.mul_add_ediv_left _ _ (by omega), Int.ediv_eq_zero_of_lt (by omega) (by omega)]; omega
  refine ⟨hq, ?_⟩
  rw [← hq, Int.mul_sub] at e2; omega
set_option maxHeartbeats 400000 in
theorem integer_Div (a b : Int) (w : World) (hb : 0 < b) (ha : -4611686018427387904 ≤ a ∧ a ≤ 4611686018427387904) (hb' : b ≤ 4611686018427387904) :
  Calls Tryz.prog 85 #[.int .i64 a, .int .i64 b] w fun e w' => e = .returned (.tuple #[.int .i64 (a / b), .int .i64 (a % b), .int .i64 0]) ∧ ∃ n, w.drewN n = w' := by
 by_cases h0 : 0 ≤ a
 ·have h3 : 0 ≤ a % b := Int.emod_nonneg _ (by omega)
  have hn : (decide (a % b < 0)) = false := by simpa using h3
  have hm : (decide (b < 0)) = false := by simp; omega
  go_enter Tryz.func85, Tryz.ntmps85
  go_wp2
  go_quiet (fail)
  go_wp2
  all_goals go_ret3
  all_goals first | (exfalso; simp [hn, hm] at *; done) | exact ⟨ret3 rfl rfl rfl, _, rfl⟩ | skip
  all_goals (refine ⟨ret3 (vint ?_) (vint ?_) rfl, _, rfl⟩ <;> first | rfl | omega)
 ·obtain ⟨h1, h2, h3, h4, h5, h6⟩ := tq_neg a b hb (by omega)
  have hm : (decide (b < 0)) = false := by simp; omega
  have H5 := Lib.hid h5
  have H6 := Lib.hid h6
  clear h5 h6
  by_cases hr : a.tmod b = 0
  ·go_enter Tryz.func85, Tryz.ntmps85
   go_wp2
   go_quiet (fail)
   go_wp2
   all_goals go_ret3
   refine ⟨ret3 (vint (H5.out hr).1) (vint (H5.out hr).2.symm) rfl, _, rfl⟩
  ·have hn : decide (a.tmod b < 0) = true := by simp; omega
   go_enter Tryz.func85, Tryz.ntmps85
   go_wp2
   go_quiet (fail)
   go_wp2
   all_goals go_ret3
   all_goals first | (exfalso; simp [hn, hm] at *; done) | (refine ⟨ret3 (vint (H6.out hr).1) (vint (H6.out hr).2) rfl, _, rfl⟩)
theorem integer_Mod (a b : Int) (w : World) (hb : 0 < b) (ha : -4611686018427387904 ≤ a ∧ a ≤ 4611686018427387904) (hb' : b ≤ 4611686018427387904) :
  Calls Tryz.prog 226 #[.int .i64 a, .int .i64 b] w fun e w' => e = .returned (.int .i64 (a % b)) ∧ ∃ n, w.drewN n = w' := by
 go_enter Tryz.func226, Tryz.ntmps226
 go_wp2_with (go_at_call 85; refine (integer_Div a b _ hb ha hb').mono ?_; rintro e w' ⟨rfl, n, rfl⟩)
 go_ret
 exact ⟨rfl, n, rfl⟩
/-! ### civil -/
theorem civil_year (y : Int) (w : World) : Calls Tryz.prog 111 #[.int .i64 y] w fun e w' => e = .returned (.bool (Cv.yearB y)) ∧ w = w' := by
 go_enter Tryz.func111, Tryz.ntmps111
 go_wp2
 all_goals (go_ret; exact ⟨ret1 (vbool (by simp [Cv.yearB]; try omega)), rfl⟩)
theorem civil_Leap (y : Int) (w : World) : Calls Tryz.prog 112 #[.int .i64 y] w fun e w' => e = .returned (.bool (Cv.leapB y)) ∧ w = w' := by
 by_cases hy : 1 ≤ y ∧ y ≤ 9999
 ·have h := Lib.hid (show Cv.yearB y = true from decide_eq_true hy)
  obtain ⟨h1, h2⟩ := hy
  go_enter Tryz.func112, Tryz.ntmps112
  go_wp2_with (go_at_call 111; refine (civil_year _ _).mono ?_; rintro e w' ⟨rfl, rfl⟩; rw [h.out])
  all_goals (go_ret; exact ⟨ret1 (vbool (by simp [Cv.leapB, h.out, *])), rfl⟩)
 ·have h := Lib.hid (show Cv.yearB y = false from decide_eq_false hy)
  go_enter Tryz.func112, Tryz.ntmps112
  go_wp2_with (go_at_call 111; refine (civil_year _ _).mono ?_; rintro e w' ⟨rfl, rfl⟩; rw [h.out])
  all_goals (go_ret; exact ⟨ret1 (vbool (by simp [Cv.leapB, h.out])), rfl⟩)
theorem ix0 (w : World) : (Instr.index 172 (.agg #[.int .i64 31, .int .i64 28, .int .i64 31, .int .i64 30, .int .i64 31, .int .i64 30, .int .i64 31, .int .i64 31, .int .i64 30, .int .i64 31, .int .i64 30, .int .i64 31]) (.int .i64 0)).run Tryz.prog w = .ok (.int .i64 31) w := by kernel_rfl
theorem ix1 (w : World) : (Instr.index 172 (.agg #[.int .i64 31, .int .i64 28, .int .i64 31, .int .i64 30, .int .i64 31, .int .i64 30, .int .i64 31, .int .i64 31, .int .i64 30, .int .i64 31, .int .i64 30, .int .i64 31]) (.int .i64 1)).run Tryz.prog w = .ok (.int .i64 28) w := by kernel_rfl
theorem ix2 (w : World) : (Instr.index 172 (.agg #[.int .i64 31, .int .i64 28, .int .i64 31, .int .i64 30, .int .i64 31, .int .i64 30, .int .i64 31, .int .i64 31, .int .i64 30, .int .i64 31, .int .i64 30, .int .i64 31]) (.int .i64 2)).run Tryz.prog w = .ok (.int .i64 31) w := by kernel_rfl
theorem ix3 (w : World) : (Instr.index 172 (.agg #[.int .i64 31, .int .i64 28, .int .i64 31, .int .i64 30, .int .i64 31, .int .i64 30, .int .i64 31, .int .i64 31, .int .i64 30, .int .i64 31, .int .i64 30, .int .i64 31]) (.int .i64 3)).run Tryz.prog w = .ok (.int .i64 30) w := by kernel_rfl
theorem ix4 (w : World) : (Instr.index 172 (.agg #[.int .i64 31, .int .i64 28, .int .i64 31, .int .i64 30, .int .i64 31, .int .i64 30, .int .i64 31, .int .i64 31, .int .i64 30, .int .i64 31, .int .i64 30, .int .i64 31]) (.int .i64 4)).run Tryz.prog w = .ok (.int .i64 31) w := by kernel_rfl
theorem ix5 (w : World) : (Instr.index 172 (.agg #[.int .i64 31, .int .i64 28, .int .i64 31, .int .i64 30, .int .i64 31, .int .i64 30, .int .i64 31, .int .i64 31, .int .i64 30, .int .i64 31, .int .i64 30, .int .i64 31]) (.int .i64 5)).run Tryz.prog w = .ok (.int .i64 30) w := by kernel_rfl
theorem ix6 (w : World) : (Instr.index 172 (.agg #[.int .i64 31, .int .i64 28, .int .i64 31, .int .i64 30, .int .i64 31, .int .i64 30, .int .i64 31, .int .i64 31, .int .i64 30, .int .i64 31, .int .i64 30, .int .i64 31]) (.int .i64 6)).run Tryz.prog w = .ok (.int .i64 31) w := by kernel_rfl
theorem ix7 (w : World) : (Instr.index 172 (.agg #[.int .i64 31, .int .i64 28, .int .i64 31, .int .i64 30, .int .i64 31, .int .i64 30, .int .i64 31, .int .i64 31, .int .i64 30, .int .i64 31, .int .i64 30, .int .i64 31]) (.int .i64 7)).run Tryz.prog w = .ok (.int .i64 31) w := by kernel_rfl
theorem ix8 (w : World) : (Instr.index 172 (.agg #[.int .i64 31, .int .i64 28, .int .i64 31, .int .i64 30, .int .i64 31, .int .i64 30, .int .i64 31, .int .i64 31, .int .i64 30, .int .i64 31, .int .i64 30, .int .i64 31]) (.int .i64 8)).run Tryz.prog w = .ok (.int .i64 30) w := by kernel_rfl
theorem ix9 (w : World) : (Instr.index 172 (.agg #[.int .i64 31, .int .i64 28, .int .i64 31, .int .i64 30, .int .i64 31, .int .i64 30, .int .i64 31, .int .i64 31, .int .i64 30, .int .i64 31, .int .i64 30, .int .i64 31]) (.int .i64 9)).run Tryz.prog w = .ok (.int .i64 31) w := by kernel_rfl
theorem ix10 (w : World) : (Instr.index 172 (.agg #[.int .i64 31, .int .i64 28, .int .i64 31, .int .i64 30, .int .i64 31, .int .i64 30, .int .i64 31, .int .i64 31, .int .i64 30, .int .i64 31, .int .i64 30, .int .i64 31]) (.int .i64 10)).run Tryz.prog w = .ok (.int .i64 30) w := by kernel_rfl
theorem ix11 (w : World) : (Instr.index 172 (.agg #[.int .i64 31, .int .i64 28, .int .i64 31, .int .i64 30, .int .i64 31, .int .i64 30, .int .i64 31, .int .i64 31, .int .i64 30, .int .i64 31, .int .i64 30, .int .i64 31]) (.int .i64 11)).run Tryz.prog w = .ok (.int .i64 31) w := by kernel_rfl
theorem idx12 {y : Int} (m : Int) (h1 : 1 ≤ m) (h2 : m ≤ 12) (hl : m = 2 → Cv.leapB y = false) (w : World) : (Instr.index 172 (.agg #[.int .i64 31, .int .i64 28, .int .i64 31, .int .i64 30, .int .i64 31, .int .i64 30, .int .i64 31, .int .i64 31, .int .i64 30, .int .i64 31, .int .i64 30, .int .i64 31]) (.int .i64 (m - 1))).run Tryz.prog w = .ok (.int .i64 (Cv.mlen y m)) w := by
 rcases Cv.months h1 h2 with rfl | rfl | rfl | rfl | rfl | rfl | rfl | rfl | rfl | rfl | rfl | rfl
 ·exact ix0 w
 ·rw [show Cv.mlen y 2 = 28 from by simp [Cv.mlen, hl rfl]]; exact ix1 w
 ·exact ix2 w
 ·exact ix3 w
 ·exact ix4 w
 ·exact ix5 w
 ·exact ix6 w
 ·exact ix7 w
 ·exact ix8 w
 ·exact ix9 w
 ·exact ix10 w
 ·exact ix11 w
set_option maxRecDepth 100000 in
set_option maxHeartbeats 1000000 in
theorem civil_Length (y m : Int) (w : World) : Calls Tryz.prog 105 #[.int .i64 y, .int .i64 m] w fun e w' => e = .returned (.int .i64 (Cv.lenF y m)) ∧ w = w' := by
 by_cases hy : 1 ≤ y ∧ y ≤ 9999
 ·have h := Lib.hid (show Cv.yearB y = true from decide_eq_true hy)
  by_cases hm : 1 ≤ m ∧ m ≤ 12
  ·have hl := Lib.hid (Cv.lenF_in (y := y) (m := m) ⟨hy.1, hy.2, hm.1, hm.2⟩)
   rw [hl.out]
   clear hl hy
   obtain ⟨hm1, hm2⟩ := hm
   cases hb : Cv.leapB y
   all_goals
    have hb' := Lib.hid hb
    by_cases h2 : m = 2
   ·subst h2
    have hi := ix1
    rw [show Cv.mlen y 2 = 28 from by simp [Cv.mlen, hb]]
    clear hb
    go_enter Tryz.func105, Tryz.ntmps105
    go_wp2_with (first | (go_at_call 111; refine (civil_year _ _).mono ?_; rintro e w' ⟨rfl, rfl⟩; rw [h.out]) | (go_at_call 112; refine (civil_Leap _ _).mono ?_; rintro e w' ⟨rfl, rfl⟩; rw [hb'.out]))
    all_goals (go_ret; exact ⟨rfl, rfl⟩)
   ·have hi := idx12 (y := y) m hm1 hm2 (fun _ => hb)
    clear hb
    go_enter Tryz.func105, Tryz.ntmps105
    go_wp2_with (first | (go_at_call 111; refine (civil_year _ _).mono ?_; rintro e w' ⟨rfl, rfl⟩; rw [h.out]) | (go_at_call 112; refine (civil_Leap _ _).mono ?_; rintro e w' ⟨rfl, rfl⟩; rw [hb'.out]))
    all_goals (go_ret; exact ⟨rfl, rfl⟩)
   ·subst h2
    rw [show Cv.mlen y 2 = 29 from by simp [Cv.mlen, hb]]
    clear hb
    go_enter Tryz.func105, Tryz.ntmps105
    go_wp2_with (first | (go_at_call 111; refine (civil_year _ _).mono ?_; rintro e w' ⟨rfl, rfl⟩; rw [h.out]) | (go_at_call 112; refine (civil_Leap _ _).mono ?_; rintro e w' ⟨rfl, rfl⟩; rw [hb'.out]))
    all_goals (go_ret; exact ⟨rfl, rfl⟩)
   ·have hi := idx12 (y := y) m hm1 hm2 (fun h => absurd h h2)
    clear hb
    go_enter Tryz.func105, Tryz.ntmps105
    go_wp2_with (first | (go_at_call 111; refine (civil_year _ _).mono ?_; rintro e w' ⟨rfl, rfl⟩; rw [h.out]) | (go_at_call 112; refine (civil_Leap _ _).mono ?_; rintro e w' ⟨rfl, rfl⟩; rw [hb'.out]))
    all_goals (go_ret; exact ⟨rfl, rfl⟩)
  ·have hl := Lib.hid (show Cv.lenF y m = 0 from if_neg (by omega))
   rw [hl.out]
   by_cases h1 : m < 1
   ·go_enter Tryz.func105, Tryz.ntmps105
    go_wp2_with ((go_at_call 111; refine (civil_year _ _).mono ?_; rintro e w' ⟨rfl, rfl⟩; rw [h.out]))
    go_ret
    exact ⟨rfl, rfl⟩
   ·have h2 : 12 < m := by omega
    clear hm
    go_enter Tryz.func105, Tryz.ntmps105
    go_wp2_with ((go_at_call 111; refine (civil_year _ _).mono ?_; rintro e w' ⟨rfl, rfl⟩; rw [h.out]))
    go_ret
    exact ⟨rfl, rfl⟩
 ·have h := Lib.hid (show Cv.yearB y = false from decide_eq_false hy)
  have hl := Lib.hid (show Cv.lenF y m = 0 from if_neg (by omega))
  rw [hl.out]
  go_enter Tryz.func105, Tryz.ntmps105
  go_wp2_with ((go_at_call 111; refine (civil_year _ _).mono ?_; rintro e w' ⟨rfl, rfl⟩; rw [h.out]))
  go_ret
  exact ⟨rfl, rfl⟩
theorem civil_count (y m d : Int) (w : World) (hy : -100000 ≤ y ∧ y ≤ 100000) (hm : 1 ≤ m ∧ m ≤ 12) (hd : -100000 ≤ d ∧ d ≤ 100000) (hy0 : 1 ≤ y) :
  Calls Tryz.prog 87 #[.int .i64 y, .int .i64 m, .int .i64 d] w fun e w' => e = .returned (.int .i64 (Cv.count y m d)) ∧ w = w' := by
 by_cases h : m ≤ 2
 ·have h0 : 0 ≤ 153 * (m + 12 - 3) + 2 := by omega
  go_enter Tryz.func87, Tryz.ntmps87
  go_wp2
  go_ret
  exact ⟨ret1 (vint (by unfold Cv.count Cv.cnt; rw [if_pos (by omega)])), rfl⟩
 ·have h0 : 0 ≤ 153 * (m - 3) + 2 := by omega
  go_enter Tryz.func87, Tryz.ntmps87
  go_wp2
  go_ret
  exact ⟨ret1 (vint (by unfold Cv.count Cv.cnt; rw [if_neg (by omega)])), rfl⟩
theorem civil_inside (d : Int) (w : World) : Calls Tryz.prog 86 #[.int .i64 d] w fun e w' => e = .returned (.bool (Cv.insideB d)) ∧ w = w' := by
 go_enter Tryz.func86, Tryz.ntmps86
 go_wp2
 all_goals (go_ret; exact ⟨ret1 (vbool (by simp [Cv.insideB]; try omega)), rfl⟩)
theorem civil_Weekday (d : Int) (w : World) : Calls Tryz.prog 223 #[.int .i64 d] w fun e w' => e = .returned (.int .i64 (Cv.wdF d)) ∧ ∃ n, w.drewN n = w' := by
 by_cases hd : -719162 ≤ d ∧ d < 2932897
 ·have h := Lib.hid (show Cv.insideB d = true from decide_eq_true hd)
  obtain ⟨h1, h2⟩ := hd
  have h3 : 0 ≤ (d + 3) % 7 := by omega
  have h4 : (d + 3) % 7 ≤ 6 := by omega
  go_enter Tryz.func223, Tryz.ntmps223
  go_wp2_with (first | (go_at_call 86; refine (civil_inside _ _).mono ?_; rintro e w' ⟨rfl, rfl⟩; rw [h.out]) | (go_at_call 226; refine (integer_Mod _ _ _ (by omega) ⟨by omega, by omega⟩ (by omega)).mono ?_; rintro e w' ⟨rfl, n, rfl⟩))
  go_ret
  exact ⟨ret1 (vint (by simp [Cv.wdF, Cv.wd, h1, h2])), _, rfl⟩
 ·have h := Lib.hid (show Cv.insideB d = false from decide_eq_false hd)
  go_enter Tryz.func223, Tryz.ntmps223
  go_wp2_with ((go_at_call 86; refine (civil_inside _ _).mono ?_; rintro e w' ⟨rfl, rfl⟩; rw [h.out]))
  go_ret
  exact ⟨ret1 (vint (by simp only [Cv.wdF]; rw [if_neg hd])), 0, rfl⟩
set_option maxHeartbeats 400000 in
theorem civil_Valid (y m d : Int) (w : World) : Calls Tryz.prog 92 #[.agg #[.int .i64 y, .int .i64 m, .int .i64 d]] w fun e w' => e = .returned (.bool (Cv.validB y m d)) ∧ Below w.heap.size w w' := by
 by_cases h1 : 1 ≤ d
 ·have hl := Cv.lenF_bd y m
  go_enter Tryz.func92, Tryz.ntmps92
  go_wp2
  go_quiet ((go_at_call 105; exact Calls.quiet_of_same ((civil_Length _ _ _).mono fun _ _ h => ⟨h.1, h.2.symm⟩)))
  go_wp2
  go_ret
  exact ⟨ret1 (vbool (by simp [Cv.validB, h1])), box_drew _ _ _⟩
 ·have hd : decide (1 ≤ d) = false := by simpa using h1
  go_enter Tryz.func92, Tryz.ntmps92
  go_wp2
  go_quiet (fail)
  go_wp2
  go_ret
  exact ⟨ret1 (vbool (by unfold Cv.validB; rw [eq_comm, decide_eq_false_iff_not]; omega)), box_drew _ _ _⟩
set_option maxHeartbeats 400000 in
theorem civil_Day (y m d : Int) (w : World) : Calls Tryz.prog 88 #[.agg #[.int .i64 y, .int .i64 m, .int .i64 d]] w fun e w' => e = .returned (.tuple #[.int .i64 (if Cv.validB y m d then Cv.count y m d else 0), .int .i64 (if Cv.validB y m d then 0 else 1)]) ∧ Below w.heap.size w w' := by
 cases hv : Cv.validB y m d
 ·have h := Lib.hid hv
  clear hv
  go_enter Tryz.func88, Tryz.ntmps88
  go_wp2_with (go_at_call 92; refine (civil_Valid _ _ _ _).mono ?_; rintro e w1 ⟨rfl, hb⟩; rw [h.out])
  go_ret2
  exact ⟨rfl, ((Below.refl _ _).alloc (Nat.le_refl _) _).trans (hb.mono (by simp))⟩
 ·have h := Lib.hid hv
  have hi := Cv.validB_iff.1 hv
  obtain ⟨a1, a2, a3, a4, a5, a6⟩ := hi
  have a7 := Cv.mlen_bd y m
  clear hv
  go_enter Tryz.func88, Tryz.ntmps88
  go_wp2_with (first | (go_at_call 92; refine (civil_Valid _ _ _ _).mono ?_; rintro e w1 ⟨rfl, hb⟩; rw [h.out]; obtain ⟨hc, hf⟩ := bcell hb) | (go_at_call 87; refine (civil_count _ _ _ _ ⟨by omega, by omega⟩ ⟨by omega, by omega⟩ ⟨by omega, by omega⟩ (by omega)).mono ?_; rintro e w2 ⟨rfl, rfl⟩))
  go_ret2
  exact ⟨rfl, ((Below.refl _ _).alloc (Nat.le_refl _) _).trans (hb.mono (by simp))⟩
end Go.Proofs.YtdpbhjaicgkblaaGreatDoor

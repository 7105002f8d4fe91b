/- Joined by merge.py: Ref01d. -/
import Derived.Test.YtdpbhjaicgkblaaGreatDoorGZa
/- The reference: Div, Floor, Date, the year of an instant. -/
namespace Go.Proofs.YtdpbhjaicgkblaaGreatDoor
set_option linter.unusedSimpArgs false
set_option linter.unusedVariables false
open Go.ChangeShapes Go.WideShapes Go.ChangeAt Go.RowKit
theorem r01_Div (a b : Int) (w : World) (hb : 0 < b) (ha : -4611686018427387904 ≤ a ∧ a ≤ 4611686018427387904) (hb' : b ≤ 4611686018427387904) :
  Calls Tryz.prog 52 #[.int .i64 a, .int .i64 b] w fun e w' => e = .returned (.tuple #[.int .i64 (a / b), .int .i64 (a % b), .int .i64 0]) ∧ ∃ n, w.drewN n = w' := by
 by_cases h0 : 0 ≤ a
 ·have h3 : 0 ≤ a % b := Int.emod_nonneg _ (by omega)
  have hn : (decide (a % b < 0)) = false := by simpa using h3
  have hm : (decide (b < 0)) = false := by simp; omega
  go_enter Tryz.func52, Tryz.ntmps52
  go_wp2
  go_quiet (fail)
  go_wp2
  all_goals go_ret3
  all_goals first | (exfalso; simp [hn, hm] at *; done) | exact ⟨ret3 rfl rfl rfl, _, rfl⟩ | skip
  all_goals (refine ⟨ret3 (vint ?_) (vint ?_) rfl, _, rfl⟩ <;> first | rfl | omega)
 ·obtain ⟨h1, h2, h3, h4, h5, h6⟩ := tq_neg a b hb (by omega)
  have hm : (decide (b < 0)) = false := by simp; omega
  have H5 := Lib.hid h5
  have H6 := Lib.hid h6
  clear h5 h6
  by_cases hr : a.tmod b = 0
  ·go_enter Tryz.func52, Tryz.ntmps52
   go_wp2
   go_quiet (fail)
   go_wp2
   all_goals go_ret3
   refine ⟨ret3 (vint (H5.out hr).1) (vint (H5.out hr).2.symm) rfl, _, rfl⟩
  ·have hn : decide (a.tmod b < 0) = true := by simp; omega
   go_enter Tryz.func52, Tryz.ntmps52
   go_wp2
   go_quiet (fail)
   go_wp2
   all_goals go_ret3
   all_goals first | (exfalso; simp [hn, hm] at *; done) | (refine ⟨ret3 (vint (H6.out hr).1) (vint (H6.out hr).2) rfl, _, rfl⟩)
theorem ahead_succ (y : Int) {k : Int} (hk : 1 ≤ k) : Cv.ahead y k.toNat = Cv.ahead y (k - 1).toNat + Cv.lenF y k := by
 rw [show k.toNat = (k - 1).toNat + 1 by omega]
 show Cv.ahead y (k - 1).toNat + Cv.lenF y (((k - 1).toNat : Int) + 1) = _
 rw [show (((k - 1).toNat : Nat) : Int) + 1 = k by omega]
end Go.Proofs.YtdpbhjaicgkblaaGreatDoor

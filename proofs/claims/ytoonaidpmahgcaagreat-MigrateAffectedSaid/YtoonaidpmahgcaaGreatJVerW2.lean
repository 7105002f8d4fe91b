/- version.span, the closure of version.Instants. -/
import Derived.Test.YtoonaidpmahgcaaGreatJVerW1
import Derived.Test.YtoonaidpmahgcaaGreatJVerP2
import Derived.Test.YtoonaidpmahgcaaGreatGZn
import Derived.Test.YtoonaidpmahgcaaGreatGRn
namespace Go.Proofs.YtoonaidpmahgcaaGreat
set_option linter.unusedSimpArgs false
set_option linter.unusedVariables false
open Go.ChangeShapes Go.WideShapes Go.ChangeAt Go.RowKit

def spanV (a b : Int) : Bool := decide (-62135596800 ≤ a) && (decide (a < b) && decide (b ≤ 253402300800))
theorem vspan_any (a b : Int) (w : World) : Calls Tryz.prog 56 #[.agg #[.int .i64 a, .int .i64 b]] w fun e w' => e = .returned (.bool (spanV a b)) ∧ Below w.heap.size w w' := by
  have HBZ := Lib.hid (show Below w.heap.size w (w.alloc (.cells #[.int .i64 a, .int .i64 b] 29)) from (Below.refl _ _).alloc (Nat.le_refl _) _)
  unfold spanV
  by_cases h1 : -62135596800 ≤ a
  · rw [decide_eq_true h1, Bool.true_and]
    by_cases h2 : a < b
    · rw [decide_eq_true h2, Bool.true_and]
      go_enter Tryz.func56, Tryz.ntmps56
      go_wp2
      go_ret
      exact ⟨rfl, HBZ.out⟩
    · rw [decide_eq_false h2, Bool.false_and]
      go_enter Tryz.func56, Tryz.ntmps56
      go_wp2
      go_ret
      exact ⟨ret1 (vbool (by simp)), HBZ.out⟩
  · rw [decide_eq_false h1, Bool.false_and]
    go_enter Tryz.func56, Tryz.ntmps56
    go_wp2
    go_ret
    exact ⟨ret1 (vbool (by simp)), HBZ.out⟩

end Go.Proofs.YtoonaidpmahgcaaGreat

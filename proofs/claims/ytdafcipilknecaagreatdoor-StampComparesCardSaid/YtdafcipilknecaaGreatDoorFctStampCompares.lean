/- The closed facts of the claim StampCompares, each by itself. -/
import Derived.Test.YtdafcipilknecaaGreatDoorRows
import Derived.Test.YtdafcipilknecaaGreatDoorChecked
import Derived.JoinedCond
import Derived.RowKit
namespace Go.Proofs.YtdafcipilknecaaGreatDoor
set_option linter.unusedSimpArgs false
set_option linter.unusedVariables false
open Go.RowKit
set_option maxHeartbeats 4000000 in
theorem closed_StampCompares : joinedFacts Tryz.checked.prog 3 Tryz.f3 (OpenSpec.ofChange Rows.stampComparesSpec).bare Rows.stampComparesRow = true := by
  simp only [joinedFacts, Bool.and_eq_true]
  repeat' apply And.intro
  all_goals (as_aux_lemma => kernel_rfl)

end Go.Proofs.YtdafcipilknecaaGreatDoor

/- The closed facts of the claim VersionKept, each by itself. -/
import Derived.Test.YtoonaidpmahgcaaGreatRows
import Derived.Test.YtoonaidpmahgcaaGreatChecked
import Derived.JoinedCond
import Derived.RowKit
namespace Go.Proofs.YtoonaidpmahgcaaGreat
set_option linter.unusedSimpArgs false
set_option linter.unusedVariables false
open Go.RowKit
set_option maxHeartbeats 4000000 in
theorem closed_VersionKept : joinedFacts Tryz.checked.prog 9 Tryz.f9 (Rows.OpenSpec.upto Rows.versionKeptSpec).bare Rows.versionKeptUptoRow = true := by
  simp only [joinedFacts, Bool.and_eq_true]
  repeat' apply And.intro
  all_goals (as_aux_lemma => kernel_rfl)

end Go.Proofs.YtoonaidpmahgcaaGreat

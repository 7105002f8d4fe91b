/- The closed facts of the claim MigrateListed, each by itself. -/
import Derived.Test.YtoonaidpmahgcaaGreatRows
import Derived.Test.YtoonaidpmahgcaaGreatChecked
import Derived.JoinedCond
import Derived.RowKit
namespace Go.Proofs.YtoonaidpmahgcaaGreat
set_option linter.unusedSimpArgs false
set_option linter.unusedVariables false
open Go.RowKit
set_option maxHeartbeats 4000000 in
theorem closed_MigrateListed : joinedFacts Tryz.checked.prog 7 Tryz.f7 Rows.migrateListedSpec Rows.migrateListedRow = true := by
  simp only [joinedFacts, Bool.and_eq_true]
  repeat' apply And.intro
  all_goals (as_aux_lemma => kernel_rfl)

end Go.Proofs.YtoonaidpmahgcaaGreat

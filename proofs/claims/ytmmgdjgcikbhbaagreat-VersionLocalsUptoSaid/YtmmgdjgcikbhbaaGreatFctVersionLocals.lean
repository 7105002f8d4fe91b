/- The closed facts of the claim VersionLocals, each by itself. -/
import Derived.Test.YtmmgdjgcikbhbaaGreatRows
import Derived.Test.YtmmgdjgcikbhbaaGreatChecked
import Derived.JoinedCond
import Derived.RowKit
namespace Go.Proofs.YtmmgdjgcikbhbaaGreat
set_option linter.unusedSimpArgs false
set_option linter.unusedVariables false
open Go.RowKit
set_option maxHeartbeats 4000000 in
theorem closed_VersionLocals : joinedFacts Tryz.checked.prog 4 Tryz.f4 (Rows.OpenSpec.upto Rows.versionLocalsSpec).bare Rows.versionLocalsUptoRow = true := by
  simp only [joinedFacts, Bool.and_eq_true]
  repeat' apply And.intro
  all_goals (as_aux_lemma => kernel_rfl)

end Go.Proofs.YtmmgdjgcikbhbaaGreat

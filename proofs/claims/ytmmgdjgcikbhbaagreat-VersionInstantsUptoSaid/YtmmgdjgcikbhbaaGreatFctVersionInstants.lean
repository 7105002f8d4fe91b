/- The closed facts of the claim VersionInstants, each by itself. -/
import Derived.Test.YtmmgdjgcikbhbaaGreatRows
import Derived.Test.YtmmgdjgcikbhbaaGreatChecked
import Derived.JoinedCond
import Derived.RowKit
namespace Go.Proofs.YtmmgdjgcikbhbaaGreat
set_option linter.unusedSimpArgs false
set_option linter.unusedVariables false
open Go.RowKit
set_option maxHeartbeats 4000000 in
theorem closed_VersionInstants : joinedFacts Tryz.checked.prog 3 Tryz.f3 (Rows.OpenSpec.upto Rows.versionInstantsSpec).bare Rows.versionInstantsUptoRow = true := by
  simp only [joinedFacts, Bool.and_eq_true]
  repeat' apply And.intro
  all_goals (as_aux_lemma => kernel_rfl)

end Go.Proofs.YtmmgdjgcikbhbaaGreat

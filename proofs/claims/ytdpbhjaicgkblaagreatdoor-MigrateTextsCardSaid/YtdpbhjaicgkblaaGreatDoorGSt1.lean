/- Joined by merge.py: StT, StC, StD. -/
import Derived.Test.YtdpbhjaicgkblaaGreatDoorJCivil
import Derived.Test.YtdpbhjaicgkblaaGreatDoorGZn
import Derived.Test.YtdpbhjaicgkblaaGreatDoorGHis
import Derived.Laws.BytesArg
import Derived.Test.YtdpbhjaicgkblaaGreatDoorGZa
import Derived.BigQuiet
/- integer.Text at some numbers. Printed by gen_stt.py. -/
namespace Go.Proofs.YtdpbhjaicgkblaaGreatDoor
set_option linter.unusedSimpArgs false
set_option linter.unusedVariables false
open Go.ChangeShapes Go.WideShapes Go.ChangeAt Go.RowKit
theorem size_any (n : Int) (h : 0 ≤ n ∧ n < 1000000) (w : World) : Calls Tryz.prog 91 #[.int .i64 n] w fun e w' => e = .returned (.int .u64 n) ∧ w' = w := by
 go_enter Tryz.func91, Tryz.ntmps91
 go_wp2
 go_ret
 exact ⟨rfl, rfl⟩
end Go.Proofs.YtdpbhjaicgkblaaGreatDoor
/- clock and civil at the moment 1970-01-01T01:00:00 (draft). -/
namespace Go.Proofs.YtdpbhjaicgkblaaGreatDoor
set_option linter.unusedSimpArgs false
set_option linter.unusedVariables false
open Go.ChangeShapes Go.WideShapes Go.ChangeAt Go.RowKit
end Go.Proofs.YtdpbhjaicgkblaaGreatDoor
/- clock.Moment at 3600 (draft). -/
namespace Go.Proofs.YtdpbhjaicgkblaaGreatDoor
set_option linter.unusedSimpArgs false
set_option linter.unusedVariables false
open Go.ChangeShapes Go.WideShapes Go.ChangeAt Go.RowKit
theorem set6 {W : World} {B : Nat} {T : TypeId} {a0 a1 a2 a3 a4 a5 : Value} (h : Blk W B #[a0, a1, a2, a3, a4, a5] T) (v0 v1 v2 v3 v4 v5 : Value) : Blk ((((((W.setCell ⟨B, 0, none⟩ v0).setCell ⟨B, 1, none⟩ v1).setCell ⟨B, 2, none⟩ v2).setCell ⟨B, 3, none⟩ v3).setCell ⟨B, 4, none⟩ v4).setCell ⟨B, 5, none⟩ v5) B #[v0, v1, v2, v3, v4, v5] T := by
 have := (((((h.setAt 0 v0).setAt 1 v1).setAt 2 v2).setAt 3 v3).setAt 4 v4).setAt 5 v5
 simpa using this
theorem set6_below {w W : World} {n B : Nat} (h : Below n w W) (hB : n ≤ B) (v0 v1 v2 v3 v4 v5 : Value) : Below n w ((((((W.setCell ⟨B, 0, none⟩ v0).setCell ⟨B, 1, none⟩ v1).setCell ⟨B, 2, none⟩ v2).setCell ⟨B, 3, none⟩ v3).setCell ⟨B, 4, none⟩ v4).setCell ⟨B, 5, none⟩ v5) :=
 (((((h.setCell (p := ⟨B, 0, none⟩) hB v0).setCell (p := ⟨B, 1, none⟩) hB v1).setCell (p := ⟨B, 2, none⟩) hB v2).setCell (p := ⟨B, 3, none⟩) hB v3).setCell (p := ⟨B, 4, none⟩) hB v4).setCell (p := ⟨B, 5, none⟩) hB v5
end Go.Proofs.YtdpbhjaicgkblaaGreatDoor

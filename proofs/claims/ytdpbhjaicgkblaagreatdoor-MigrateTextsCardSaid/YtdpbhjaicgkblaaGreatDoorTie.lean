/-
  DERIVED. GIVEN WITH THE SEED: THE PROGRAM's TIES (one call each: nine closed facts by the kernel) AND EACH ROW's TIE, after the 31st guide's Derived/Test/Toyas{Tie, Card}.lean. No idea stands in it: it is a product of the set-up. Laid BY PROGRAM, IN A SANDBOX (cutbox-door.mjs). By AI agents, Wed Nov 11 2026. No macro, syntax, notation, axiom, sorry.
-/
import Derived.Test.YtdpbhjaicgkblaaGreatDoorRows
import Derived.LaidByTextLater
import Derived.SevenTiedAt
import Derived.LaidSub
import Derived.LaidOnce
namespace Go.Proofs.YtdpbhjaicgkblaaGreatDoor
open Go
set_option maxRecDepth 100000
theorem seatTie1 : Tryz.prog.laidByTextLater [("civiltime/stamp.gaps", Rows.laid_civiltime_stamp_gaps), ("civiltime/stamp.folds", Rows.laid_civiltime_stamp_folds)] [.widerDeep, .widerDeep] true :=
  Program.laidByTextLater_by_one 19 8 6 (by kernel_rfl) (by kernel_rfl) (by kernel_rfl) (by kernel_rfl) (by kernel_rfl) (by kernel_rfl) (fun _ _ => by kernel_rfl)
theorem noOwnUnsafe : Tryz.pinned.checked.prog.headLifts.contains "ownunsafe" = false := by kernel_rfl
theorem tie : Tryz.prog.laidByTextLater [("civiltime/stamp.gaps", Rows.laid_civiltime_stamp_gaps), ("civiltime/stamp.folds", Rows.laid_civiltime_stamp_folds)] [.widerDeep, .widerDeep] true :=
  Program.laidByTextLater.sub seatTie1 ["civiltime/stamp.gaps", "civiltime/stamp.folds"] (by kernel_rfl) (by kernel_rfl)
theorem migrateTexts_row_tie : Rows.migrateTextsRow.laidByTextAt .later Tryz.pinned [.widerDeep, .widerDeep] true :=
  OpenClaim.laidByTextAt_later rfl rfl tie noOwnUnsafe
theorem migrateTextsUpto_row_tie : Rows.migrateTextsUptoRow.laidByTextAt .later Tryz.pinned [.widerDeep, .widerDeep] true :=
  OpenClaim.laidByTextAt_later rfl rfl tie noOwnUnsafe
end Go.Proofs.YtdpbhjaicgkblaaGreatDoor

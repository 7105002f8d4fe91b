/-
  DERIVED. GIVEN WITH THE SEED: THE CARDS: each row of YtdpbhjaicgkblaaGreatDoorRows.lean that lists a variable, with what it lists TIED to the program's text (the seventh form; the later family's looks); each row that meets fmt, with fmt's text TOLD by the authors' own Lean function (tested against real Go, not proved from fmt's source: count such statements apart). THE CARD IS WHAT COUNTS. Prove the row's statement (the work); the ties are given (YtdpbhjaicgkblaaGreatDoorTie.lean); close each card by the builder's one call (the guide's Derived/Test/ToyasCard.lean, 'card_holds'). Laid BY PROGRAM, IN A SANDBOX (cutbox-door.mjs). By AI agents, Wed Nov 11 2026. No macro, syntax, notation, axiom, sorry.
-/
import Derived.Test.YtdpbhjaicgkblaaGreatDoorRows
import GoSem.ClaimSeven
namespace Go.Proofs.YtdpbhjaicgkblaaGreatDoor
namespace Rows

/-- THE TIED CARD OF 'civiltimelaw53.MigrateTexts'. -/
def migrateTextsCard : Claim7 := { stood := { row := migrateTextsRow, standIns := [], harness := (true, "99c44b47315aaeece9bde0fcfe380713ff986ce74727e6929c6b8d37b8be0729"), looks := false }, kinds := [], alts := [], laidByText := true, laidKinds := [.widerDeep, .widerDeep], laidTests := true, laidLooks := .later }
def MigrateTextsCardSaid : Prop := Claim7.holds Tryz.pinned (.plain (OpenSpec.ofChange migrateTextsSpec)) migrateTextsCard

/-- THE SECOND FORM's CARD OF 'civiltimelaw53.MigrateTexts'. -/
def migrateTextsUptoCard : Claim7 := { stood := { row := migrateTextsUptoRow, standIns := [], harness := (true, "99c44b47315aaeece9bde0fcfe380713ff986ce74727e6929c6b8d37b8be0729"), looks := false }, kinds := [], alts := [], laidByText := true, laidKinds := [.widerDeep, .widerDeep], laidTests := true, laidLooks := .later }
def MigrateTextsUptoCardSaid : Prop := Claim7.holds Tryz.pinned (.plain (OpenSpec.upto migrateTextsSpec)) migrateTextsUptoCard
end Rows
end Go.Proofs.YtdpbhjaicgkblaaGreatDoor

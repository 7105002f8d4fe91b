/-
  DERIVED. GIVEN WITH THE SEED: THE CARDS: each row of YtdafcipilknecaaGreatDoorRows.lean that lists a variable, with what it lists TIED to the program's text (the seventh form; the later family's looks); each row that meets fmt, with fmt's text TOLD by the authors' own Lean function (tested against real Go, not proved from fmt's source: count such statements apart). THE CARD IS WHAT COUNTS. Prove the row's statement (the work); the ties are given (YtdafcipilknecaaGreatDoorTie.lean); close each card by the builder's one call (the guide's Derived/Test/ToyasCard.lean, 'card_holds'). Laid BY PROGRAM, IN A SANDBOX (cutbox-door.mjs). By AI agents, Wed Nov 11 2026. No macro, syntax, notation, axiom, sorry.
-/
import Derived.Test.YtdafcipilknecaaGreatDoorRows
import GoSem.ClaimSeven
namespace Go.Proofs.YtdafcipilknecaaGreatDoor
namespace Rows

/-- THE TIED CARD OF 'civiltimelaw25.StampCompares'. -/
def stampComparesCard : Claim7 := { stood := { row := stampComparesRow, standIns := [], harness := (true, "43bc0d20ad93a6767d2d148752dd270f5e2aabf8841cd973cb21ffe6e8fcd155"), looks := false }, kinds := [], alts := [], laidByText := true, laidKinds := [.widerDeep, .widerDeep], laidTests := true, laidLooks := .later }
def StampComparesCardSaid : Prop := Claim7.holds Tryz.pinned (.plain (OpenSpec.ofChange stampComparesSpec)) stampComparesCard

/-- THE TIED CARD OF 'civiltimelaw25.StampWalks'. -/
def stampWalksCard : Claim7 := { stood := { row := stampWalksRow, standIns := [], harness := (true, "43bc0d20ad93a6767d2d148752dd270f5e2aabf8841cd973cb21ffe6e8fcd155"), looks := false }, kinds := [], alts := [], laidByText := true, laidKinds := [.widerDeep, .widerDeep], laidTests := true, laidLooks := .later }
def StampWalksCardSaid : Prop := Claim7.holds Tryz.pinned (.plain (OpenSpec.ofChange stampWalksSpec)) stampWalksCard

/-- THE TIED CARD OF 'civiltimelaw25.StampDiffers'. -/
def stampDiffersCard : Claim7 := { stood := { row := stampDiffersRow, standIns := [], harness := (true, "43bc0d20ad93a6767d2d148752dd270f5e2aabf8841cd973cb21ffe6e8fcd155"), looks := false }, kinds := [], alts := [], laidByText := true, laidKinds := [.widerDeep, .widerDeep], laidTests := true, laidLooks := .later }
def StampDiffersCardSaid : Prop := Claim7.holds Tryz.pinned (.plain (OpenSpec.ofChange stampDiffersSpec)) stampDiffersCard

/-- THE SECOND FORM's CARD OF 'civiltimelaw25.StampCompares'. -/
def stampComparesUptoCard : Claim7 := { stood := { row := stampComparesUptoRow, standIns := [], harness := (true, "43bc0d20ad93a6767d2d148752dd270f5e2aabf8841cd973cb21ffe6e8fcd155"), looks := false }, kinds := [], alts := [], laidByText := true, laidKinds := [.widerDeep, .widerDeep], laidTests := true, laidLooks := .later }
def StampComparesUptoCardSaid : Prop := Claim7.holds Tryz.pinned (.plain (OpenSpec.upto stampComparesSpec)) stampComparesUptoCard

/-- THE SECOND FORM's CARD OF 'civiltimelaw25.StampWalks'. -/
def stampWalksUptoCard : Claim7 := { stood := { row := stampWalksUptoRow, standIns := [], harness := (true, "43bc0d20ad93a6767d2d148752dd270f5e2aabf8841cd973cb21ffe6e8fcd155"), looks := false }, kinds := [], alts := [], laidByText := true, laidKinds := [.widerDeep, .widerDeep], laidTests := true, laidLooks := .later }
def StampWalksUptoCardSaid : Prop := Claim7.holds Tryz.pinned (.plain (OpenSpec.upto stampWalksSpec)) stampWalksUptoCard

/-- THE SECOND FORM's CARD OF 'civiltimelaw25.StampDiffers'. -/
def stampDiffersUptoCard : Claim7 := { stood := { row := stampDiffersUptoRow, standIns := [], harness := (true, "43bc0d20ad93a6767d2d148752dd270f5e2aabf8841cd973cb21ffe6e8fcd155"), looks := false }, kinds := [], alts := [], laidByText := true, laidKinds := [.widerDeep, .widerDeep], laidTests := true, laidLooks := .later }
def StampDiffersUptoCardSaid : Prop := Claim7.holds Tryz.pinned (.plain (OpenSpec.upto stampDiffersSpec)) stampDiffersUptoCard
end Rows
end Go.Proofs.YtdafcipilknecaaGreatDoor

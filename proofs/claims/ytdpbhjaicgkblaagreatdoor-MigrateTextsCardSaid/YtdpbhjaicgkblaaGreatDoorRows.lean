/-
  NARROWER THAN 'FOR EVERY INPUT', by the rows' own cells (each row's printed sentence says how): MigrateTexts: laid.
  DERIVED. THE GIVEN ROWS OF THIS SEAT. 1 by the template 'for every input the law returns true; each argument reads behind the call as it read before'; 0 by the template 'total and deterministic' (their statements: YtdpbhjaicgkblaaGreatDoorTotals.lean).
  GIVEN WITH THE SEED: the statements are not yours to turn. If you find one false, say at which input.
  Laid BY PROGRAM, IN A SANDBOX (cutbox-rows.mjs): the forced cells as the released guide's own fill.sh prints them over the translation 2d46facf2cfbfd69… (all of the seat's roots in one cut). By AI agents, Wed Nov 11 2026. No macro, syntax, notation, axiom, sorry.
-/
import Derived.Test.YtdpbhjaicgkblaaGreatDoorChecked
import GoSem.Claim
import GoSem.ClaimJoined
import GoSem.ClaimMapViews
import Derived.JoinedTies
import Derived.KernelRfl
namespace Go.Proofs.YtdpbhjaicgkblaaGreatDoor
/- THE CELL 'sum', in the pinned program and in every row, IS THE sha256 OF THE DUMP (.gsa) THAT YtdpbhjaicgkblaaGreatDoorProg.lean LOADS. Nothing in Lean hashes anything: it is a label: what it is worth is what the hold of that sum in a sandbox is worth. -/
noncomputable def Tryz.pinned : Pinned := { name := "ytdpbhjaicgkblaagreatdoor", sum := "2d46facf2cfbfd694b70eedeac40f84472cb82c2525deb8d70103ff8c2b57ca4", checked := Tryz.checked }
namespace Rows
def none {H : Type} : Left H := { results := [], args := [] }

/- WHAT THE LISTED PACKAGE-LEVEL VARIABLES READ AS WHEN THE CALL BEGINS. Each datum BY PROGRAM (the guide's laid-datum.mjs) off the statement by which the dump's own 'gosem.cut.vars' lays the variable. In a bare row this is a premise. The card (YtdpbhjaicgkblaaGreatDoorCards.lean) ties it to the program's text. -/
def laid_civiltime_stamp_gaps {H : Type} : DataW H := .agg [.lit (.string []), .lit (.string [114, 101, 106, 101, 99, 116]), .lit (.string [102, 111, 114, 119, 97, 114, 100]), .lit (.string [98, 97, 99, 107]), .lit (.string [101, 100, 103, 101])]
def laid_civiltime_stamp_folds {H : Type} : DataW H := .agg [.lit (.string []), .lit (.string [114, 101, 106, 101, 99, 116]), .lit (.string [102, 105, 114, 115, 116]), .lit (.string [108, 97, 115, 116])]

/-- 'civiltimelaw53.MigrateTexts': WHATEVER THE INPUT: true; the input reads as it did. -/
def migrateTextsSpec : ChangeSpec := { name := "migrateTexts", fn := fun _ => fun
  | [d1, d2] => { results := [.lit (.bool true)], args := [d1, d2] }
  | _ => none }
def migrateTextsRow : OpenClaim := { program := "ytdpbhjaicgkblaagreatdoor", sum := "2d46facf2cfbfd694b70eedeac40f84472cb82c2525deb8d70103ff8c2b57ca4", func := "civiltime/civiltimelaw53.MigrateTexts", spec := "migrateTexts", inPlace := ["internal/bytealg.IndexByteString", "internal/bytealg.IndexString", "internal/abi.NoEscape"], unfollowed := true, recurses := true, named := ["internal/bytealg.MaxLen", "civiltime/stamp.gaps", "civiltime/stamp.folds"], apart := false, laid := [("civiltime/stamp.gaps", laid_civiltime_stamp_gaps), ("civiltime/stamp.folds", laid_civiltime_stamp_folds)] }
def MigrateTextsSaid : Prop := migrateTextsRow.holds Tryz.pinned (OpenSpec.ofChange migrateTextsSpec)

/-- ITS FALSE NEIGHBOUR: 'it returns false'. Refute it at one input. -/
def migrateTextsWrong : ChangeSpec := { name := "migrateTexts", fn := fun _ => fun
  | [d1, d2] => { results := [.lit (.bool false)], args := [d1, d2] }
  | _ => none }
def MigrateTextsWrongFalsely : Prop := migrateTextsRow.holds Tryz.pinned (OpenSpec.ofChange migrateTextsWrong)

/- THE SECOND FORM. 'bulk': how many values and letters a reading holds, each counted each time it is reached (what is shared counts as often as it is met; a slice's spare places count too). A statement '..UptoSaid' is the law's where the arguments, and the package variables that the reading takes, are together of bulk at most 1048576: NARROWER than '..Said'. Prove '..Said' where nothing that the law and all that it calls make is longer than what came in: it says more and counts as full. Else prove '..UptoSaid'. A law counts once. -/
mutual
def uptoBulk {H : Type} : DataW H → Nat
  | .lit (.string bytes) => bytes.length + 1
  | .lit _ => 1
  | .nil => 1
  | .ptr d => uptoBulk d + 1
  | .slice elems spare => uptoBulkAll elems + uptoBulkAll spare + 1
  | .agg parts => uptoBulkAll parts + 1
  | .iface _ d => uptoBulk d + 1
  | .map entries => uptoBulkEntries entries + 1
  | .held _ => 1
def uptoBulkAll {H : Type} : List (DataW H) → Nat
  | [] => 0
  | d :: r => uptoBulk d + uptoBulkAll r
def uptoBulkEntries {H : Type} : List (Lit × DataW H) → Nat
  | [] => 0
  | x :: r => uptoBulkEntry x + uptoBulkEntries r
def uptoBulkEntry {H : Type} : Lit × DataW H → Nat
  | (.string bytes, d) => bytes.length + uptoBulk d + 1
  | (_, d) => uptoBulk d + 1
 end
def uptoSmall : (H : Type) → List (DataW H) → Bool := fun _ ds => decide (uptoBulkAll ds ≤ 1048576)
def OpenSpec.upto (s : _root_.Go.ChangeSpec) : _root_.Go.OpenSpec := { _root_.Go.OpenSpec.ofChange s with cond := some uptoSmall }

/-- 'civiltimelaw53.MigrateTexts', WHERE WHAT IT READS IS OF BULK AT MOST 1048576: true; the input reads as it did. -/
def migrateTextsUptoRow : OpenClaim := { program := "ytdpbhjaicgkblaagreatdoor", sum := "2d46facf2cfbfd694b70eedeac40f84472cb82c2525deb8d70103ff8c2b57ca4", func := "civiltime/civiltimelaw53.MigrateTexts", spec := "migrateTexts", inPlace := ["internal/bytealg.IndexByteString", "internal/bytealg.IndexString", "internal/abi.NoEscape"], unfollowed := true, recurses := true, named := ["internal/bytealg.MaxLen", "civiltime/stamp.gaps", "civiltime/stamp.folds"], apart := false, laid := [("civiltime/stamp.gaps", laid_civiltime_stamp_gaps), ("civiltime/stamp.folds", laid_civiltime_stamp_folds)], narrowed := true }
def MigrateTextsUptoSaid : Prop := migrateTextsUptoRow.holds Tryz.pinned (OpenSpec.upto migrateTextsSpec)

end Rows
end Go.Proofs.YtdpbhjaicgkblaaGreatDoor

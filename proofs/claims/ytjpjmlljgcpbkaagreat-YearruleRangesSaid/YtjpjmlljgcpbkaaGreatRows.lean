/-
  No cell of these rows narrows 'for every input' (looked for: loops, veiled, ifaces, maps, wideKeys, modest, calm, conditions, laid).
  DERIVED. THE GIVEN ROWS OF THIS SEAT. 6 by the template 'for every input the law returns true; each argument reads behind the call as it read before'; 0 by the template 'total and deterministic' (their statements: YtjpjmlljgcpbkaaGreatTotals.lean).
  GIVEN WITH THE SEED: the statements are not yours to turn. If you find one false, say at which input.
  Laid BY PROGRAM, IN A SANDBOX (cutbox-rows.mjs): the forced cells as the released guide's own fill.sh prints them over the translation ec693d86b9ca21da… (all of the seat's roots in one cut). By AI agents, Wed Nov 11 2026. No macro, syntax, notation, axiom, sorry.
-/
import Derived.Test.YtjpjmlljgcpbkaaGreatChecked
import GoSem.Claim
import GoSem.ClaimJoined
import GoSem.ClaimMapViews
import Derived.JoinedTies
import Derived.KernelRfl
namespace Go.Proofs.YtjpjmlljgcpbkaaGreat
/- THE CELL 'sum', in the pinned program and in every row, IS THE sha256 OF THE DUMP (.gsa) THAT YtjpjmlljgcpbkaaGreatProg.lean LOADS. Nothing in Lean hashes anything: it is a label: what it is worth is what the hold of that sum in a sandbox is worth. -/
noncomputable def Tryz.pinned : Pinned := { name := "ytjpjmlljgcpbkaagreat", sum := "ec693d86b9ca21dae1be04c6bed1f7578923f87ec1a27f7db10f721f799d0052", checked := Tryz.checked }
namespace Rows
def none {H : Type} : Left H := { results := [], args := [] }

/-- 'civiltimelaw20.YearruleDays': WHATEVER THE INPUT: true; the input reads as it did. -/
def yearruleDaysSpec : ChangeSpec := { name := "yearruleDays", fn := fun _ => fun
  | [d1, d2, d3] => { results := [.lit (.bool true)], args := [d1, d2, d3] }
  | _ => none }
def yearruleDaysRow : OpenClaim := { program := "ytjpjmlljgcpbkaagreat", sum := "ec693d86b9ca21dae1be04c6bed1f7578923f87ec1a27f7db10f721f799d0052", func := "civiltime/civiltimelaw20.YearruleDays", spec := "yearruleDays", inPlace := ["internal/bytealg.IndexByteString", "internal/bytealg.IndexString"], unfollowed := true, recurses := true, named := ["internal/bytealg.MaxLen"], apart := false }
def YearruleDaysSaid : Prop := yearruleDaysRow.holds Tryz.pinned (OpenSpec.ofChange yearruleDaysSpec)

/-- ITS FALSE NEIGHBOUR: 'it returns false'. Refute it at one input. -/
def yearruleDaysWrong : ChangeSpec := { name := "yearruleDays", fn := fun _ => fun
  | [d1, d2, d3] => { results := [.lit (.bool false)], args := [d1, d2, d3] }
  | _ => none }
def YearruleDaysWrongFalsely : Prop := yearruleDaysRow.holds Tryz.pinned (OpenSpec.ofChange yearruleDaysWrong)

/-- 'civiltimelaw20.YearruleSpaces': WHATEVER THE INPUT: true; the input reads as it did. -/
def yearruleSpacesSpec : ChangeSpec := { name := "yearruleSpaces", fn := fun _ => fun
  | [d] => { results := [.lit (.bool true)], args := [d] }
  | _ => none }
def yearruleSpacesRow : OpenClaim := { program := "ytjpjmlljgcpbkaagreat", sum := "ec693d86b9ca21dae1be04c6bed1f7578923f87ec1a27f7db10f721f799d0052", func := "civiltime/civiltimelaw20.YearruleSpaces", spec := "yearruleSpaces", inPlace := ["internal/bytealg.IndexByteString", "internal/bytealg.IndexString"], unfollowed := true, recurses := true, named := ["internal/bytealg.MaxLen"], apart := false }
def YearruleSpacesSaid : Prop := yearruleSpacesRow.holds Tryz.pinned (OpenSpec.ofChange yearruleSpacesSpec)

/-- ITS FALSE NEIGHBOUR: 'it returns false'. Refute it at one input. -/
def yearruleSpacesWrong : ChangeSpec := { name := "yearruleSpaces", fn := fun _ => fun
  | [d] => { results := [.lit (.bool false)], args := [d] }
  | _ => none }
def YearruleSpacesWrongFalsely : Prop := yearruleSpacesRow.holds Tryz.pinned (OpenSpec.ofChange yearruleSpacesWrong)

/-- 'civiltimelaw20.YearruleValid': WHATEVER THE INPUT: true; the input reads as it did. -/
def yearruleValidSpec : ChangeSpec := { name := "yearruleValid", fn := fun _ => fun
  | [d1, d2] => { results := [.lit (.bool true)], args := [d1, d2] }
  | _ => none }
def yearruleValidRow : OpenClaim := { program := "ytjpjmlljgcpbkaagreat", sum := "ec693d86b9ca21dae1be04c6bed1f7578923f87ec1a27f7db10f721f799d0052", func := "civiltime/civiltimelaw20.YearruleValid", spec := "yearruleValid", inPlace := ["internal/bytealg.IndexByteString", "internal/bytealg.IndexString"], unfollowed := true, recurses := true, named := ["internal/bytealg.MaxLen"], apart := false }
def YearruleValidSaid : Prop := yearruleValidRow.holds Tryz.pinned (OpenSpec.ofChange yearruleValidSpec)

/-- ITS FALSE NEIGHBOUR: 'it returns false'. Refute it at one input. -/
def yearruleValidWrong : ChangeSpec := { name := "yearruleValid", fn := fun _ => fun
  | [d1, d2] => { results := [.lit (.bool false)], args := [d1, d2] }
  | _ => none }
def YearruleValidWrongFalsely : Prop := yearruleValidRow.holds Tryz.pinned (OpenSpec.ofChange yearruleValidWrong)

/-- 'civiltimelaw20.YearruleYears': WHATEVER THE INPUT: true; the input reads as it did. -/
def yearruleYearsSpec : ChangeSpec := { name := "yearruleYears", fn := fun _ => fun
  | [d1, d2, d3, d4] => { results := [.lit (.bool true)], args := [d1, d2, d3, d4] }
  | _ => none }
def yearruleYearsRow : OpenClaim := { program := "ytjpjmlljgcpbkaagreat", sum := "ec693d86b9ca21dae1be04c6bed1f7578923f87ec1a27f7db10f721f799d0052", func := "civiltime/civiltimelaw20.YearruleYears", spec := "yearruleYears", inPlace := ["internal/bytealg.IndexByteString", "internal/bytealg.IndexString"], unfollowed := true, recurses := true, named := ["internal/bytealg.MaxLen"], apart := false }
def YearruleYearsSaid : Prop := yearruleYearsRow.holds Tryz.pinned (OpenSpec.ofChange yearruleYearsSpec)

/-- ITS FALSE NEIGHBOUR: 'it returns false'. Refute it at one input. -/
def yearruleYearsWrong : ChangeSpec := { name := "yearruleYears", fn := fun _ => fun
  | [d1, d2, d3, d4] => { results := [.lit (.bool false)], args := [d1, d2, d3, d4] }
  | _ => none }
def YearruleYearsWrongFalsely : Prop := yearruleYearsRow.holds Tryz.pinned (OpenSpec.ofChange yearruleYearsWrong)

/-- 'civiltimelaw20.YearruleApart': WHATEVER THE INPUT: true; the input reads as it did. -/
def yearruleApartSpec : ChangeSpec := { name := "yearruleApart", fn := fun _ => fun
  | [d1, d2, d3] => { results := [.lit (.bool true)], args := [d1, d2, d3] }
  | _ => none }
def yearruleApartRow : OpenClaim := { program := "ytjpjmlljgcpbkaagreat", sum := "ec693d86b9ca21dae1be04c6bed1f7578923f87ec1a27f7db10f721f799d0052", func := "civiltime/civiltimelaw20.YearruleApart", spec := "yearruleApart", inPlace := ["internal/bytealg.IndexByteString", "internal/bytealg.IndexString"], unfollowed := true, recurses := true, named := ["internal/bytealg.MaxLen"], apart := false }
def YearruleApartSaid : Prop := yearruleApartRow.holds Tryz.pinned (OpenSpec.ofChange yearruleApartSpec)

/-- ITS FALSE NEIGHBOUR: 'it returns false'. Refute it at one input. -/
def yearruleApartWrong : ChangeSpec := { name := "yearruleApart", fn := fun _ => fun
  | [d1, d2, d3] => { results := [.lit (.bool false)], args := [d1, d2, d3] }
  | _ => none }
def YearruleApartWrongFalsely : Prop := yearruleApartRow.holds Tryz.pinned (OpenSpec.ofChange yearruleApartWrong)

/-- 'civiltimelaw20.YearruleRanges': WHATEVER THE INPUT: true; the input reads as it did. -/
def yearruleRangesSpec : ChangeSpec := { name := "yearruleRanges", fn := fun _ => fun
  | [d1, d2, d3] => { results := [.lit (.bool true)], args := [d1, d2, d3] }
  | _ => none }
def yearruleRangesRow : OpenClaim := { program := "ytjpjmlljgcpbkaagreat", sum := "ec693d86b9ca21dae1be04c6bed1f7578923f87ec1a27f7db10f721f799d0052", func := "civiltime/civiltimelaw20.YearruleRanges", spec := "yearruleRanges", inPlace := ["internal/bytealg.IndexByteString", "internal/bytealg.IndexString"], unfollowed := true, recurses := true, named := ["internal/bytealg.MaxLen"], apart := false }
def YearruleRangesSaid : Prop := yearruleRangesRow.holds Tryz.pinned (OpenSpec.ofChange yearruleRangesSpec)

/-- ITS FALSE NEIGHBOUR: 'it returns false'. Refute it at one input. -/
def yearruleRangesWrong : ChangeSpec := { name := "yearruleRanges", fn := fun _ => fun
  | [d1, d2, d3] => { results := [.lit (.bool false)], args := [d1, d2, d3] }
  | _ => none }
def YearruleRangesWrongFalsely : Prop := yearruleRangesRow.holds Tryz.pinned (OpenSpec.ofChange yearruleRangesWrong)

/- THE SECOND FORM. 'bulk': how many values and letters a reading holds, each counted each time it is reached (what is shared counts as often as it is met; a slice's spare places count too). A statement '..UptoSaid' is the law's where the arguments, and the package variables that the reading takes, are together of bulk at most 1048576: NARROWER than '..Said'. Prove '..Said' where nothing that the law and all that it calls make is longer than what came in: it says more and counts as full. Else prove '..UptoSaid'. A law counts once. -/
mutual
def uptoBulk {H : Type} : DataW H → Nat
  | .lit (.string bytes) => bytes.length + 1
  | .lit _ => 1
  | .nil => 1
  | .ptr d => uptoBulk d + 1
  | .slice elems spare => uptoBulkAll elems + uptoBulkAll spare + 1
  | .agg parts => uptoBulkAll parts + 1
  | .iface _ d => uptoBulk d + 1
  | .map entries => uptoBulkEntries entries + 1
  | .held _ => 1
def uptoBulkAll {H : Type} : List (DataW H) → Nat
  | [] => 0
  | d :: r => uptoBulk d + uptoBulkAll r
def uptoBulkEntries {H : Type} : List (Lit × DataW H) → Nat
  | [] => 0
  | x :: r => uptoBulkEntry x + uptoBulkEntries r
def uptoBulkEntry {H : Type} : Lit × DataW H → Nat
  | (.string bytes, d) => bytes.length + uptoBulk d + 1
  | (_, d) => uptoBulk d + 1
 end
def uptoSmall : (H : Type) → List (DataW H) → Bool := fun _ ds => decide (uptoBulkAll ds ≤ 1048576)
def OpenSpec.upto (s : _root_.Go.ChangeSpec) : _root_.Go.OpenSpec := { _root_.Go.OpenSpec.ofChange s with cond := some uptoSmall }

/-- 'civiltimelaw20.YearruleDays', WHERE WHAT IT READS IS OF BULK AT MOST 1048576: true; the input reads as it did. -/
def yearruleDaysUptoRow : OpenClaim := { program := "ytjpjmlljgcpbkaagreat", sum := "ec693d86b9ca21dae1be04c6bed1f7578923f87ec1a27f7db10f721f799d0052", func := "civiltime/civiltimelaw20.YearruleDays", spec := "yearruleDays", inPlace := ["internal/bytealg.IndexByteString", "internal/bytealg.IndexString"], unfollowed := true, recurses := true, named := ["internal/bytealg.MaxLen"], apart := false, narrowed := true }
def YearruleDaysUptoSaid : Prop := yearruleDaysUptoRow.holds Tryz.pinned (OpenSpec.upto yearruleDaysSpec)

/-- 'civiltimelaw20.YearruleSpaces', WHERE WHAT IT READS IS OF BULK AT MOST 1048576: true; the input reads as it did. -/
def yearruleSpacesUptoRow : OpenClaim := { program := "ytjpjmlljgcpbkaagreat", sum := "ec693d86b9ca21dae1be04c6bed1f7578923f87ec1a27f7db10f721f799d0052", func := "civiltime/civiltimelaw20.YearruleSpaces", spec := "yearruleSpaces", inPlace := ["internal/bytealg.IndexByteString", "internal/bytealg.IndexString"], unfollowed := true, recurses := true, named := ["internal/bytealg.MaxLen"], apart := false, narrowed := true }
def YearruleSpacesUptoSaid : Prop := yearruleSpacesUptoRow.holds Tryz.pinned (OpenSpec.upto yearruleSpacesSpec)

/-- 'civiltimelaw20.YearruleValid', WHERE WHAT IT READS IS OF BULK AT MOST 1048576: true; the input reads as it did. -/
def yearruleValidUptoRow : OpenClaim := { program := "ytjpjmlljgcpbkaagreat", sum := "ec693d86b9ca21dae1be04c6bed1f7578923f87ec1a27f7db10f721f799d0052", func := "civiltime/civiltimelaw20.YearruleValid", spec := "yearruleValid", inPlace := ["internal/bytealg.IndexByteString", "internal/bytealg.IndexString"], unfollowed := true, recurses := true, named := ["internal/bytealg.MaxLen"], apart := false, narrowed := true }
def YearruleValidUptoSaid : Prop := yearruleValidUptoRow.holds Tryz.pinned (OpenSpec.upto yearruleValidSpec)

/-- 'civiltimelaw20.YearruleYears', WHERE WHAT IT READS IS OF BULK AT MOST 1048576: true; the input reads as it did. -/
def yearruleYearsUptoRow : OpenClaim := { program := "ytjpjmlljgcpbkaagreat", sum := "ec693d86b9ca21dae1be04c6bed1f7578923f87ec1a27f7db10f721f799d0052", func := "civiltime/civiltimelaw20.YearruleYears", spec := "yearruleYears", inPlace := ["internal/bytealg.IndexByteString", "internal/bytealg.IndexString"], unfollowed := true, recurses := true, named := ["internal/bytealg.MaxLen"], apart := false, narrowed := true }
def YearruleYearsUptoSaid : Prop := yearruleYearsUptoRow.holds Tryz.pinned (OpenSpec.upto yearruleYearsSpec)

/-- 'civiltimelaw20.YearruleApart', WHERE WHAT IT READS IS OF BULK AT MOST 1048576: true; the input reads as it did. -/
def yearruleApartUptoRow : OpenClaim := { program := "ytjpjmlljgcpbkaagreat", sum := "ec693d86b9ca21dae1be04c6bed1f7578923f87ec1a27f7db10f721f799d0052", func := "civiltime/civiltimelaw20.YearruleApart", spec := "yearruleApart", inPlace := ["internal/bytealg.IndexByteString", "internal/bytealg.IndexString"], unfollowed := true, recurses := true, named := ["internal/bytealg.MaxLen"], apart := false, narrowed := true }
def YearruleApartUptoSaid : Prop := yearruleApartUptoRow.holds Tryz.pinned (OpenSpec.upto yearruleApartSpec)

/-- 'civiltimelaw20.YearruleRanges', WHERE WHAT IT READS IS OF BULK AT MOST 1048576: true; the input reads as it did. -/
def yearruleRangesUptoRow : OpenClaim := { program := "ytjpjmlljgcpbkaagreat", sum := "ec693d86b9ca21dae1be04c6bed1f7578923f87ec1a27f7db10f721f799d0052", func := "civiltime/civiltimelaw20.YearruleRanges", spec := "yearruleRanges", inPlace := ["internal/bytealg.IndexByteString", "internal/bytealg.IndexString"], unfollowed := true, recurses := true, named := ["internal/bytealg.MaxLen"], apart := false, narrowed := true }
def YearruleRangesUptoSaid : Prop := yearruleRangesUptoRow.holds Tryz.pinned (OpenSpec.upto yearruleRangesSpec)

end Rows
end Go.Proofs.YtjpjmlljgcpbkaaGreat

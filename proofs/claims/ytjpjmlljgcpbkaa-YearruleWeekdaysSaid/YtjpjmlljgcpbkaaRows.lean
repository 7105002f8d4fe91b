/-
  No cell of these rows narrows 'for every input' (looked for: loops, veiled, ifaces, maps, wideKeys, modest, calm, conditions, laid).
  DERIVED. THE GIVEN ROWS OF THIS SEAT. 3 by the template 'for every input the law returns true; each argument reads behind the call as it read before'; 0 by the template 'total and deterministic' (their statements: YtjpjmlljgcpbkaaTotals.lean).
  GIVEN WITH THE SEED: the statements are not yours to turn. If you find one false, say at which input.
  Laid BY PROGRAM, IN A SANDBOX (cutbox-rows.mjs): the forced cells as the released guide's own fill.sh prints them over the translation f7ff74946bfa47c5… (all of the seat's roots in one cut). By AI agents, Wed Nov 11 2026. No macro, syntax, notation, axiom, sorry.
-/
import Derived.Test.YtjpjmlljgcpbkaaChecked
import GoSem.Claim
import GoSem.ClaimJoined
import GoSem.ClaimMapViews
import Derived.JoinedTies
import Derived.KernelRfl
namespace Go.Proofs.Ytjpjmlljgcpbkaa
/- THE CELL 'sum', in the pinned program and in every row, IS THE sha256 OF THE DUMP (.gsa) THAT YtjpjmlljgcpbkaaProg.lean LOADS. Nothing in Lean hashes anything: it is a label: what it is worth is what the hold of that sum in a sandbox is worth. -/
noncomputable def Try.pinned : Pinned := { name := "ytjpjmlljgcpbkaa", sum := "f7ff74946bfa47c5bfe7cc546445be38d982c816e36d1c5181689cc719ecfaa1", checked := Try.checked }
namespace Rows
def none {H : Type} : Left H := { results := [], args := [] }

/-- 'civiltimelaw20.YearruleFormats': WHATEVER THE INPUT: true; the input reads as it did. -/
def yearruleFormatsSpec : ChangeSpec := { name := "yearruleFormats", fn := fun _ => fun
  | [d1, d2, d3] => { results := [.lit (.bool true)], args := [d1, d2, d3] }
  | _ => none }
def yearruleFormatsRow : OpenClaim := { program := "ytjpjmlljgcpbkaa", sum := "f7ff74946bfa47c5bfe7cc546445be38d982c816e36d1c5181689cc719ecfaa1", func := "civiltime/civiltimelaw20.YearruleFormats", spec := "yearruleFormats", inPlace := ["internal/bytealg.IndexByteString", "internal/bytealg.IndexString"], unfollowed := true, recurses := true, named := ["internal/bytealg.MaxLen"], apart := false }
def YearruleFormatsSaid : Prop := yearruleFormatsRow.holds Try.pinned (OpenSpec.ofChange yearruleFormatsSpec)

/-- ITS FALSE NEIGHBOUR: 'it returns false'. Refute it at one input. -/
def yearruleFormatsWrong : ChangeSpec := { name := "yearruleFormats", fn := fun _ => fun
  | [d1, d2, d3] => { results := [.lit (.bool false)], args := [d1, d2, d3] }
  | _ => none }
def YearruleFormatsWrongFalsely : Prop := yearruleFormatsRow.holds Try.pinned (OpenSpec.ofChange yearruleFormatsWrong)

/-- 'civiltimelaw20.YearruleNames': WHATEVER THE INPUT: true; the input reads as it did. -/
def yearruleNamesSpec : ChangeSpec := { name := "yearruleNames", fn := fun _ => fun
  | [d1, d2, d3, d4] => { results := [.lit (.bool true)], args := [d1, d2, d3, d4] }
  | _ => none }
def yearruleNamesRow : OpenClaim := { program := "ytjpjmlljgcpbkaa", sum := "f7ff74946bfa47c5bfe7cc546445be38d982c816e36d1c5181689cc719ecfaa1", func := "civiltime/civiltimelaw20.YearruleNames", spec := "yearruleNames", inPlace := ["internal/bytealg.IndexByteString", "internal/bytealg.IndexString"], unfollowed := true, recurses := true, named := ["internal/bytealg.MaxLen"], apart := false }
def YearruleNamesSaid : Prop := yearruleNamesRow.holds Try.pinned (OpenSpec.ofChange yearruleNamesSpec)

/-- ITS FALSE NEIGHBOUR: 'it returns false'. Refute it at one input. -/
def yearruleNamesWrong : ChangeSpec := { name := "yearruleNames", fn := fun _ => fun
  | [d1, d2, d3, d4] => { results := [.lit (.bool false)], args := [d1, d2, d3, d4] }
  | _ => none }
def YearruleNamesWrongFalsely : Prop := yearruleNamesRow.holds Try.pinned (OpenSpec.ofChange yearruleNamesWrong)

/-- 'civiltimelaw20.YearruleWeekdays': WHATEVER THE INPUT: true; the input reads as it did. -/
def yearruleWeekdaysSpec : ChangeSpec := { name := "yearruleWeekdays", fn := fun _ => fun
  | [d1, d2, d3] => { results := [.lit (.bool true)], args := [d1, d2, d3] }
  | _ => none }
def yearruleWeekdaysRow : OpenClaim := { program := "ytjpjmlljgcpbkaa", sum := "f7ff74946bfa47c5bfe7cc546445be38d982c816e36d1c5181689cc719ecfaa1", func := "civiltime/civiltimelaw20.YearruleWeekdays", spec := "yearruleWeekdays", inPlace := ["internal/bytealg.IndexByteString", "internal/bytealg.IndexString"], unfollowed := true, recurses := true, named := ["internal/bytealg.MaxLen"], apart := false }
def YearruleWeekdaysSaid : Prop := yearruleWeekdaysRow.holds Try.pinned (OpenSpec.ofChange yearruleWeekdaysSpec)

/-- ITS FALSE NEIGHBOUR: 'it returns false'. Refute it at one input. -/
def yearruleWeekdaysWrong : ChangeSpec := { name := "yearruleWeekdays", fn := fun _ => fun
  | [d1, d2, d3] => { results := [.lit (.bool false)], args := [d1, d2, d3] }
  | _ => none }
def YearruleWeekdaysWrongFalsely : Prop := yearruleWeekdaysRow.holds Try.pinned (OpenSpec.ofChange yearruleWeekdaysWrong)

/- THE SECOND FORM. 'bulk': how many values and letters a reading holds, each counted each time it is reached (what is shared counts as often as it is met; a slice's spare places count too). A statement '..UptoSaid' is the law's where the arguments, and the package variables that the reading takes, are together of bulk at most 1048576: NARROWER than '..Said'. Prove '..Said' where nothing that the law and all that it calls make is longer than what came in: it says more and counts as full. Else prove '..UptoSaid'. A law counts once. -/
mutual
def uptoBulk {H : Type} : DataW H → Nat
  | .lit (.string bytes) => bytes.length + 1
  | .lit _ => 1
  | .nil => 1
  | .ptr d => uptoBulk d + 1
  | .slice elems spare => uptoBulkAll elems + uptoBulkAll spare + 1
  | .agg parts => uptoBulkAll parts + 1
  | .iface _ d => uptoBulk d + 1
  | .map entries => uptoBulkEntries entries + 1
  | .held _ => 1
def uptoBulkAll {H : Type} : List (DataW H) → Nat
  | [] => 0
  | d :: r => uptoBulk d + uptoBulkAll r
def uptoBulkEntries {H : Type} : List (Lit × DataW H) → Nat
  | [] => 0
  | x :: r => uptoBulkEntry x + uptoBulkEntries r
def uptoBulkEntry {H : Type} : Lit × DataW H → Nat
  | (.string bytes, d) => bytes.length + uptoBulk d + 1
  | (_, d) => uptoBulk d + 1
 end
def uptoSmall : (H : Type) → List (DataW H) → Bool := fun _ ds => decide (uptoBulkAll ds ≤ 1048576)
def OpenSpec.upto (s : _root_.Go.ChangeSpec) : _root_.Go.OpenSpec := { _root_.Go.OpenSpec.ofChange s with cond := some uptoSmall }

/-- 'civiltimelaw20.YearruleFormats', WHERE WHAT IT READS IS OF BULK AT MOST 1048576: true; the input reads as it did. -/
def yearruleFormatsUptoRow : OpenClaim := { program := "ytjpjmlljgcpbkaa", sum := "f7ff74946bfa47c5bfe7cc546445be38d982c816e36d1c5181689cc719ecfaa1", func := "civiltime/civiltimelaw20.YearruleFormats", spec := "yearruleFormats", inPlace := ["internal/bytealg.IndexByteString", "internal/bytealg.IndexString"], unfollowed := true, recurses := true, named := ["internal/bytealg.MaxLen"], apart := false, narrowed := true }
def YearruleFormatsUptoSaid : Prop := yearruleFormatsUptoRow.holds Try.pinned (OpenSpec.upto yearruleFormatsSpec)

/-- 'civiltimelaw20.YearruleNames', WHERE WHAT IT READS IS OF BULK AT MOST 1048576: true; the input reads as it did. -/
def yearruleNamesUptoRow : OpenClaim := { program := "ytjpjmlljgcpbkaa", sum := "f7ff74946bfa47c5bfe7cc546445be38d982c816e36d1c5181689cc719ecfaa1", func := "civiltime/civiltimelaw20.YearruleNames", spec := "yearruleNames", inPlace := ["internal/bytealg.IndexByteString", "internal/bytealg.IndexString"], unfollowed := true, recurses := true, named := ["internal/bytealg.MaxLen"], apart := false, narrowed := true }
def YearruleNamesUptoSaid : Prop := yearruleNamesUptoRow.holds Try.pinned (OpenSpec.upto yearruleNamesSpec)

/-- 'civiltimelaw20.YearruleWeekdays', WHERE WHAT IT READS IS OF BULK AT MOST 1048576: true; the input reads as it did. -/
def yearruleWeekdaysUptoRow : OpenClaim := { program := "ytjpjmlljgcpbkaa", sum := "f7ff74946bfa47c5bfe7cc546445be38d982c816e36d1c5181689cc719ecfaa1", func := "civiltime/civiltimelaw20.YearruleWeekdays", spec := "yearruleWeekdays", inPlace := ["internal/bytealg.IndexByteString", "internal/bytealg.IndexString"], unfollowed := true, recurses := true, named := ["internal/bytealg.MaxLen"], apart := false, narrowed := true }
def YearruleWeekdaysUptoSaid : Prop := yearruleWeekdaysUptoRow.holds Try.pinned (OpenSpec.upto yearruleWeekdaysSpec)

end Rows
end Go.Proofs.Ytjpjmlljgcpbkaa

/-
  No cell of these rows narrows 'for every input' (looked for: loops, veiled, ifaces, maps, wideKeys, modest, calm, conditions, laid).
  DERIVED. THE GIVEN ROWS OF THIS SEAT. 7 by the template 'for every input the law returns true; each argument reads behind the call as it read before'; 0 by the template 'total and deterministic' (their statements: YtdpkolnfbimheaaGreatTotals.lean).
  GIVEN WITH THE SEED: the statements are not yours to turn. If you find one false, say at which input.
  Laid BY PROGRAM, IN A SANDBOX (cutbox-rows.mjs): the forced cells as the released guide's own fill.sh prints them over the translation 0ef2d84ee95f71a5… (all of the seat's roots in one cut). By AI agents, Wed Nov 11 2026. No macro, syntax, notation, axiom, sorry.
-/
import Derived.Test.YtdpkolnfbimheaaGreatChecked
import GoSem.Claim
import GoSem.ClaimJoined
import GoSem.ClaimMapViews
import Derived.JoinedTies
import Derived.KernelRfl
namespace Go.Proofs.YtdpkolnfbimheaaGreat
/- THE CELL 'sum', in the pinned program and in every row, IS THE sha256 OF THE DUMP (.gsa) THAT YtdpkolnfbimheaaGreatProg.lean LOADS. Nothing in Lean hashes anything: it is a label: what it is worth is what the hold of that sum in a sandbox is worth. -/
noncomputable def Tryz.pinned : Pinned := { name := "ytdpkolnfbimheaagreat", sum := "0ef2d84ee95f71a5e4a5eadff497b5a93d88016777116e050f983919ec96f3dc", checked := Tryz.checked }
namespace Rows
def none {H : Type} : Left H := { results := [], args := [] }

/-- 'civiltimelaw22.ZoneParts': WHATEVER THE INPUT: true; the input reads as it did. -/
def zonePartsSpec : ChangeSpec := { name := "zoneParts", fn := fun _ => fun
  | [d1, d2, d3, d4] => { results := [.lit (.bool true)], args := [d1, d2, d3, d4] }
  | _ => none }
def zonePartsRow : OpenClaim := { program := "ytdpkolnfbimheaagreat", sum := "0ef2d84ee95f71a5e4a5eadff497b5a93d88016777116e050f983919ec96f3dc", func := "civiltime/civiltimelaw22.ZoneParts", spec := "zoneParts", inPlace := ["internal/bytealg.IndexByteString", "internal/bytealg.IndexString"], unfollowed := true, recurses := true, named := ["internal/bytealg.MaxLen"], apart := false }
def ZonePartsSaid : Prop := zonePartsRow.holds Tryz.pinned (OpenSpec.ofChange zonePartsSpec)

/-- ITS FALSE NEIGHBOUR: 'it returns false'. Refute it at one input. -/
def zonePartsWrong : ChangeSpec := { name := "zoneParts", fn := fun _ => fun
  | [d1, d2, d3, d4] => { results := [.lit (.bool false)], args := [d1, d2, d3, d4] }
  | _ => none }
def ZonePartsWrongFalsely : Prop := zonePartsRow.holds Tryz.pinned (OpenSpec.ofChange zonePartsWrong)

/-- 'civiltimelaw22.ZoneRepeats': WHATEVER THE INPUT: true; the input reads as it did. -/
def zoneRepeatsSpec : ChangeSpec := { name := "zoneRepeats", fn := fun _ => fun
  | [d1, d2] => { results := [.lit (.bool true)], args := [d1, d2] }
  | _ => none }
def zoneRepeatsRow : OpenClaim := { program := "ytdpkolnfbimheaagreat", sum := "0ef2d84ee95f71a5e4a5eadff497b5a93d88016777116e050f983919ec96f3dc", func := "civiltime/civiltimelaw22.ZoneRepeats", spec := "zoneRepeats", inPlace := ["internal/bytealg.IndexByteString", "internal/bytealg.IndexString"], unfollowed := true, recurses := true, named := ["internal/bytealg.MaxLen"], apart := false }
def ZoneRepeatsSaid : Prop := zoneRepeatsRow.holds Tryz.pinned (OpenSpec.ofChange zoneRepeatsSpec)

/-- ITS FALSE NEIGHBOUR: 'it returns false'. Refute it at one input. -/
def zoneRepeatsWrong : ChangeSpec := { name := "zoneRepeats", fn := fun _ => fun
  | [d1, d2] => { results := [.lit (.bool false)], args := [d1, d2] }
  | _ => none }
def ZoneRepeatsWrongFalsely : Prop := zoneRepeatsRow.holds Tryz.pinned (OpenSpec.ofChange zoneRepeatsWrong)

/-- 'civiltimelaw22.ZoneSaving': WHATEVER THE INPUT: true; the input reads as it did. -/
def zoneSavingSpec : ChangeSpec := { name := "zoneSaving", fn := fun _ => fun
  | [d1, d2, d3] => { results := [.lit (.bool true)], args := [d1, d2, d3] }
  | _ => none }
def zoneSavingRow : OpenClaim := { program := "ytdpkolnfbimheaagreat", sum := "0ef2d84ee95f71a5e4a5eadff497b5a93d88016777116e050f983919ec96f3dc", func := "civiltime/civiltimelaw22.ZoneSaving", spec := "zoneSaving", inPlace := ["internal/bytealg.IndexByteString", "internal/bytealg.IndexString"], unfollowed := true, recurses := true, named := ["internal/bytealg.MaxLen"], apart := false }
def ZoneSavingSaid : Prop := zoneSavingRow.holds Tryz.pinned (OpenSpec.ofChange zoneSavingSpec)

/-- ITS FALSE NEIGHBOUR: 'it returns false'. Refute it at one input. -/
def zoneSavingWrong : ChangeSpec := { name := "zoneSaving", fn := fun _ => fun
  | [d1, d2, d3] => { results := [.lit (.bool false)], args := [d1, d2, d3] }
  | _ => none }
def ZoneSavingWrongFalsely : Prop := zoneSavingRow.holds Tryz.pinned (OpenSpec.ofChange zoneSavingWrong)

/-- 'civiltimelaw23.LocalBack': WHATEVER THE INPUT: true; the input reads as it did. -/
def localBackSpec : ChangeSpec := { name := "localBack", fn := fun _ => fun
  | [d1, d2, d3] => { results := [.lit (.bool true)], args := [d1, d2, d3] }
  | _ => none }
def localBackRow : OpenClaim := { program := "ytdpkolnfbimheaagreat", sum := "0ef2d84ee95f71a5e4a5eadff497b5a93d88016777116e050f983919ec96f3dc", func := "civiltime/civiltimelaw23.LocalBack", spec := "localBack", inPlace := ["internal/bytealg.IndexByteString", "internal/bytealg.IndexString"], unfollowed := true, recurses := true, named := ["internal/bytealg.MaxLen"], apart := false }
def LocalBackSaid : Prop := localBackRow.holds Tryz.pinned (OpenSpec.ofChange localBackSpec)

/-- ITS FALSE NEIGHBOUR: 'it returns false'. Refute it at one input. -/
def localBackWrong : ChangeSpec := { name := "localBack", fn := fun _ => fun
  | [d1, d2, d3] => { results := [.lit (.bool false)], args := [d1, d2, d3] }
  | _ => none }
def LocalBackWrongFalsely : Prop := localBackRow.holds Tryz.pinned (OpenSpec.ofChange localBackWrong)

/-- 'civiltimelaw23.LocalShift': WHATEVER THE INPUT: true; the input reads as it did. -/
def localShiftSpec : ChangeSpec := { name := "localShift", fn := fun _ => fun
  | [d1, d2, d3] => { results := [.lit (.bool true)], args := [d1, d2, d3] }
  | _ => none }
def localShiftRow : OpenClaim := { program := "ytdpkolnfbimheaagreat", sum := "0ef2d84ee95f71a5e4a5eadff497b5a93d88016777116e050f983919ec96f3dc", func := "civiltime/civiltimelaw23.LocalShift", spec := "localShift", inPlace := ["internal/bytealg.IndexByteString", "internal/bytealg.IndexString"], unfollowed := true, recurses := true, named := ["internal/bytealg.MaxLen"], apart := false }
def LocalShiftSaid : Prop := localShiftRow.holds Tryz.pinned (OpenSpec.ofChange localShiftSpec)

/-- ITS FALSE NEIGHBOUR: 'it returns false'. Refute it at one input. -/
def localShiftWrong : ChangeSpec := { name := "localShift", fn := fun _ => fun
  | [d1, d2, d3] => { results := [.lit (.bool false)], args := [d1, d2, d3] }
  | _ => none }
def LocalShiftWrongFalsely : Prop := localShiftRow.holds Tryz.pinned (OpenSpec.ofChange localShiftWrong)

/-- 'civiltimelaw23.LocalGaps': WHATEVER THE INPUT: true; the input reads as it did. -/
def localGapsSpec : ChangeSpec := { name := "localGaps", fn := fun _ => fun
  | [d1, d2, d3] => { results := [.lit (.bool true)], args := [d1, d2, d3] }
  | _ => none }
def localGapsRow : OpenClaim := { program := "ytdpkolnfbimheaagreat", sum := "0ef2d84ee95f71a5e4a5eadff497b5a93d88016777116e050f983919ec96f3dc", func := "civiltime/civiltimelaw23.LocalGaps", spec := "localGaps", inPlace := ["internal/bytealg.IndexByteString", "internal/bytealg.IndexString"], unfollowed := true, recurses := true, named := ["internal/bytealg.MaxLen"], apart := false }
def LocalGapsSaid : Prop := localGapsRow.holds Tryz.pinned (OpenSpec.ofChange localGapsSpec)

/-- ITS FALSE NEIGHBOUR: 'it returns false'. Refute it at one input. -/
def localGapsWrong : ChangeSpec := { name := "localGaps", fn := fun _ => fun
  | [d1, d2, d3] => { results := [.lit (.bool false)], args := [d1, d2, d3] }
  | _ => none }
def LocalGapsWrongFalsely : Prop := localGapsRow.holds Tryz.pinned (OpenSpec.ofChange localGapsWrong)

/-- 'civiltimelaw23.LocalParts': WHATEVER THE INPUT: true; the input reads as it did. -/
def localPartsSpec : ChangeSpec := { name := "localParts", fn := fun _ => fun
  | [d1, d2, d3] => { results := [.lit (.bool true)], args := [d1, d2, d3] }
  | _ => none }
def localPartsRow : OpenClaim := { program := "ytdpkolnfbimheaagreat", sum := "0ef2d84ee95f71a5e4a5eadff497b5a93d88016777116e050f983919ec96f3dc", func := "civiltime/civiltimelaw23.LocalParts", spec := "localParts", inPlace := ["internal/bytealg.IndexByteString", "internal/bytealg.IndexString"], unfollowed := true, recurses := true, named := ["internal/bytealg.MaxLen"], apart := false }
def LocalPartsSaid : Prop := localPartsRow.holds Tryz.pinned (OpenSpec.ofChange localPartsSpec)

/-- ITS FALSE NEIGHBOUR: 'it returns false'. Refute it at one input. -/
def localPartsWrong : ChangeSpec := { name := "localParts", fn := fun _ => fun
  | [d1, d2, d3] => { results := [.lit (.bool false)], args := [d1, d2, d3] }
  | _ => none }
def LocalPartsWrongFalsely : Prop := localPartsRow.holds Tryz.pinned (OpenSpec.ofChange localPartsWrong)

/- THE SECOND FORM. 'bulk': how many values and letters a reading holds, each counted each time it is reached (what is shared counts as often as it is met; a slice's spare places count too). A statement '..UptoSaid' is the law's where the arguments, and the package variables that the reading takes, are together of bulk at most 1048576: NARROWER than '..Said'. Prove '..Said' where nothing that the law and all that it calls make is longer than what came in: it says more and counts as full. Else prove '..UptoSaid'. A law counts once. -/
mutual
def uptoBulk {H : Type} : DataW H → Nat
  | .lit (.string bytes) => bytes.length + 1
  | .lit _ => 1
  | .nil => 1
  | .ptr d => uptoBulk d + 1
  | .slice elems spare => uptoBulkAll elems + uptoBulkAll spare + 1
  | .agg parts => uptoBulkAll parts + 1
  | .iface _ d => uptoBulk d + 1
  | .map entries => uptoBulkEntries entries + 1
  | .held _ => 1
def uptoBulkAll {H : Type} : List (DataW H) → Nat
  | [] => 0
  | d :: r => uptoBulk d + uptoBulkAll r
def uptoBulkEntries {H : Type} : List (Lit × DataW H) → Nat
  | [] => 0
  | x :: r => uptoBulkEntry x + uptoBulkEntries r
def uptoBulkEntry {H : Type} : Lit × DataW H → Nat
  | (.string bytes, d) => bytes.length + uptoBulk d + 1
  | (_, d) => uptoBulk d + 1
 end
def uptoSmall : (H : Type) → List (DataW H) → Bool := fun _ ds => decide (uptoBulkAll ds ≤ 1048576)
def OpenSpec.upto (s : _root_.Go.ChangeSpec) : _root_.Go.OpenSpec := { _root_.Go.OpenSpec.ofChange s with cond := some uptoSmall }

/-- 'civiltimelaw22.ZoneParts', WHERE WHAT IT READS IS OF BULK AT MOST 1048576: true; the input reads as it did. -/
def zonePartsUptoRow : OpenClaim := { program := "ytdpkolnfbimheaagreat", sum := "0ef2d84ee95f71a5e4a5eadff497b5a93d88016777116e050f983919ec96f3dc", func := "civiltime/civiltimelaw22.ZoneParts", spec := "zoneParts", inPlace := ["internal/bytealg.IndexByteString", "internal/bytealg.IndexString"], unfollowed := true, recurses := true, named := ["internal/bytealg.MaxLen"], apart := false, narrowed := true }
def ZonePartsUptoSaid : Prop := zonePartsUptoRow.holds Tryz.pinned (OpenSpec.upto zonePartsSpec)

/-- 'civiltimelaw22.ZoneRepeats', WHERE WHAT IT READS IS OF BULK AT MOST 1048576: true; the input reads as it did. -/
def zoneRepeatsUptoRow : OpenClaim := { program := "ytdpkolnfbimheaagreat", sum := "0ef2d84ee95f71a5e4a5eadff497b5a93d88016777116e050f983919ec96f3dc", func := "civiltime/civiltimelaw22.ZoneRepeats", spec := "zoneRepeats", inPlace := ["internal/bytealg.IndexByteString", "internal/bytealg.IndexString"], unfollowed := true, recurses := true, named := ["internal/bytealg.MaxLen"], apart := false, narrowed := true }
def ZoneRepeatsUptoSaid : Prop := zoneRepeatsUptoRow.holds Tryz.pinned (OpenSpec.upto zoneRepeatsSpec)

/-- 'civiltimelaw22.ZoneSaving', WHERE WHAT IT READS IS OF BULK AT MOST 1048576: true; the input reads as it did. -/
def zoneSavingUptoRow : OpenClaim := { program := "ytdpkolnfbimheaagreat", sum := "0ef2d84ee95f71a5e4a5eadff497b5a93d88016777116e050f983919ec96f3dc", func := "civiltime/civiltimelaw22.ZoneSaving", spec := "zoneSaving", inPlace := ["internal/bytealg.IndexByteString", "internal/bytealg.IndexString"], unfollowed := true, recurses := true, named := ["internal/bytealg.MaxLen"], apart := false, narrowed := true }
def ZoneSavingUptoSaid : Prop := zoneSavingUptoRow.holds Tryz.pinned (OpenSpec.upto zoneSavingSpec)

/-- 'civiltimelaw23.LocalBack', WHERE WHAT IT READS IS OF BULK AT MOST 1048576: true; the input reads as it did. -/
def localBackUptoRow : OpenClaim := { program := "ytdpkolnfbimheaagreat", sum := "0ef2d84ee95f71a5e4a5eadff497b5a93d88016777116e050f983919ec96f3dc", func := "civiltime/civiltimelaw23.LocalBack", spec := "localBack", inPlace := ["internal/bytealg.IndexByteString", "internal/bytealg.IndexString"], unfollowed := true, recurses := true, named := ["internal/bytealg.MaxLen"], apart := false, narrowed := true }
def LocalBackUptoSaid : Prop := localBackUptoRow.holds Tryz.pinned (OpenSpec.upto localBackSpec)

/-- 'civiltimelaw23.LocalShift', WHERE WHAT IT READS IS OF BULK AT MOST 1048576: true; the input reads as it did. -/
def localShiftUptoRow : OpenClaim := { program := "ytdpkolnfbimheaagreat", sum := "0ef2d84ee95f71a5e4a5eadff497b5a93d88016777116e050f983919ec96f3dc", func := "civiltime/civiltimelaw23.LocalShift", spec := "localShift", inPlace := ["internal/bytealg.IndexByteString", "internal/bytealg.IndexString"], unfollowed := true, recurses := true, named := ["internal/bytealg.MaxLen"], apart := false, narrowed := true }
def LocalShiftUptoSaid : Prop := localShiftUptoRow.holds Tryz.pinned (OpenSpec.upto localShiftSpec)

/-- 'civiltimelaw23.LocalGaps', WHERE WHAT IT READS IS OF BULK AT MOST 1048576: true; the input reads as it did. -/
def localGapsUptoRow : OpenClaim := { program := "ytdpkolnfbimheaagreat", sum := "0ef2d84ee95f71a5e4a5eadff497b5a93d88016777116e050f983919ec96f3dc", func := "civiltime/civiltimelaw23.LocalGaps", spec := "localGaps", inPlace := ["internal/bytealg.IndexByteString", "internal/bytealg.IndexString"], unfollowed := true, recurses := true, named := ["internal/bytealg.MaxLen"], apart := false, narrowed := true }
def LocalGapsUptoSaid : Prop := localGapsUptoRow.holds Tryz.pinned (OpenSpec.upto localGapsSpec)

/-- 'civiltimelaw23.LocalParts', WHERE WHAT IT READS IS OF BULK AT MOST 1048576: true; the input reads as it did. -/
def localPartsUptoRow : OpenClaim := { program := "ytdpkolnfbimheaagreat", sum := "0ef2d84ee95f71a5e4a5eadff497b5a93d88016777116e050f983919ec96f3dc", func := "civiltime/civiltimelaw23.LocalParts", spec := "localParts", inPlace := ["internal/bytealg.IndexByteString", "internal/bytealg.IndexString"], unfollowed := true, recurses := true, named := ["internal/bytealg.MaxLen"], apart := false, narrowed := true }
def LocalPartsUptoSaid : Prop := localPartsUptoRow.holds Tryz.pinned (OpenSpec.upto localPartsSpec)

end Rows
end Go.Proofs.YtdpkolnfbimheaaGreat

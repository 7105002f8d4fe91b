/-
  No cell of these rows narrows 'for every input' (looked for: loops, veiled, ifaces, maps, wideKeys, modest, calm, conditions, laid).
  DERIVED. THE GIVEN ROWS OF THIS SEAT. 10 by the template 'for every input the law returns true; each argument reads behind the call as it read before'; 0 by the template 'total and deterministic' (their statements: YtoonaidpmahgcaaGreatTotals.lean).
  GIVEN WITH THE SEED: the statements are not yours to turn. If you find one false, say at which input.
  Laid BY PROGRAM, IN A SANDBOX (cutbox-rows.mjs): the forced cells as the released guide's own fill.sh prints them over the translation d54a1111203dbfe2… (all of the seat's roots in one cut). By AI agents, Wed Nov 11 2026. No macro, syntax, notation, axiom, sorry.
-/
import Derived.Test.YtoonaidpmahgcaaGreatChecked
import GoSem.Claim
import GoSem.ClaimJoined
import GoSem.ClaimMapViews
import Derived.JoinedTies
import Derived.KernelRfl
namespace Go.Proofs.YtoonaidpmahgcaaGreat
/- THE CELL 'sum', in the pinned program and in every row, IS THE sha256 OF THE DUMP (.gsa) THAT YtoonaidpmahgcaaGreatProg.lean LOADS. Nothing in Lean hashes anything: it is a label: what it is worth is what the hold of that sum in a sandbox is worth. -/
noncomputable def Tryz.pinned : Pinned := { name := "ytoonaidpmahgcaagreat", sum := "d54a1111203dbfe2e1c2c43a3d70d1ac7f363ba0d8abd7643c163782eba1c2cc", checked := Tryz.checked }
namespace Rows
def none {H : Type} : Left H := { results := [], args := [] }

/-- 'civiltimelaw24.VersionInstants': WHATEVER THE INPUT: true; the input reads as it did. -/
def versionInstantsSpec : ChangeSpec := { name := "versionInstants", fn := fun _ => fun
  | [d1, d2, d3] => { results := [.lit (.bool true)], args := [d1, d2, d3] }
  | _ => none }
def versionInstantsRow : OpenClaim := { program := "ytoonaidpmahgcaagreat", sum := "d54a1111203dbfe2e1c2c43a3d70d1ac7f363ba0d8abd7643c163782eba1c2cc", func := "civiltime/civiltimelaw24.VersionInstants", spec := "versionInstants", inPlace := ["internal/bytealg.IndexByteString", "internal/bytealg.IndexString"], unfollowed := true, recurses := true, named := ["internal/bytealg.MaxLen"], plainKeys := false, apart := false }
def VersionInstantsSaid : Prop := versionInstantsRow.holds Tryz.pinned (OpenSpec.ofChange versionInstantsSpec)

/-- ITS FALSE NEIGHBOUR: 'it returns false'. Refute it at one input. -/
def versionInstantsWrong : ChangeSpec := { name := "versionInstants", fn := fun _ => fun
  | [d1, d2, d3] => { results := [.lit (.bool false)], args := [d1, d2, d3] }
  | _ => none }
def VersionInstantsWrongFalsely : Prop := versionInstantsRow.holds Tryz.pinned (OpenSpec.ofChange versionInstantsWrong)

/-- 'civiltimelaw24.VersionLocals': WHATEVER THE INPUT: true; the input reads as it did. -/
def versionLocalsSpec : ChangeSpec := { name := "versionLocals", fn := fun _ => fun
  | [d1, d2, d3, d4] => { results := [.lit (.bool true)], args := [d1, d2, d3, d4] }
  | _ => none }
def versionLocalsRow : OpenClaim := { program := "ytoonaidpmahgcaagreat", sum := "d54a1111203dbfe2e1c2c43a3d70d1ac7f363ba0d8abd7643c163782eba1c2cc", func := "civiltime/civiltimelaw24.VersionLocals", spec := "versionLocals", inPlace := ["internal/bytealg.IndexByteString", "internal/bytealg.IndexString"], unfollowed := true, recurses := true, named := ["internal/bytealg.MaxLen"], plainKeys := false, apart := false }
def VersionLocalsSaid : Prop := versionLocalsRow.holds Tryz.pinned (OpenSpec.ofChange versionLocalsSpec)

/-- ITS FALSE NEIGHBOUR: 'it returns false'. Refute it at one input. -/
def versionLocalsWrong : ChangeSpec := { name := "versionLocals", fn := fun _ => fun
  | [d1, d2, d3, d4] => { results := [.lit (.bool false)], args := [d1, d2, d3, d4] }
  | _ => none }
def VersionLocalsWrongFalsely : Prop := versionLocalsRow.holds Tryz.pinned (OpenSpec.ofChange versionLocalsWrong)

/-- 'civiltimelaw24.VersionPoints': WHATEVER THE INPUT: true; the input reads as it did. -/
def versionPointsSpec : ChangeSpec := { name := "versionPoints", fn := fun _ => fun
  | [d1, d2, d3, d4] => { results := [.lit (.bool true)], args := [d1, d2, d3, d4] }
  | _ => none }
def versionPointsRow : OpenClaim := { program := "ytoonaidpmahgcaagreat", sum := "d54a1111203dbfe2e1c2c43a3d70d1ac7f363ba0d8abd7643c163782eba1c2cc", func := "civiltime/civiltimelaw24.VersionPoints", spec := "versionPoints", inPlace := ["internal/bytealg.IndexByteString", "internal/bytealg.IndexString"], unfollowed := true, recurses := true, named := ["internal/bytealg.MaxLen"], plainKeys := false, apart := false }
def VersionPointsSaid : Prop := versionPointsRow.holds Tryz.pinned (OpenSpec.ofChange versionPointsSpec)

/-- ITS FALSE NEIGHBOUR: 'it returns false'. Refute it at one input. -/
def versionPointsWrong : ChangeSpec := { name := "versionPoints", fn := fun _ => fun
  | [d1, d2, d3, d4] => { results := [.lit (.bool false)], args := [d1, d2, d3, d4] }
  | _ => none }
def VersionPointsWrongFalsely : Prop := versionPointsRow.holds Tryz.pinned (OpenSpec.ofChange versionPointsWrong)

/-- 'civiltimelaw24.VersionResolves': WHATEVER THE INPUT: true; the input reads as it did. -/
def versionResolvesSpec : ChangeSpec := { name := "versionResolves", fn := fun _ => fun
  | [d1, d2, d3, d4, d5] => { results := [.lit (.bool true)], args := [d1, d2, d3, d4, d5] }
  | _ => none }
def versionResolvesRow : OpenClaim := { program := "ytoonaidpmahgcaagreat", sum := "d54a1111203dbfe2e1c2c43a3d70d1ac7f363ba0d8abd7643c163782eba1c2cc", func := "civiltime/civiltimelaw24.VersionResolves", spec := "versionResolves", inPlace := ["internal/bytealg.IndexByteString", "internal/bytealg.IndexString"], unfollowed := true, recurses := true, named := ["internal/bytealg.MaxLen"], plainKeys := false, apart := false }
def VersionResolvesSaid : Prop := versionResolvesRow.holds Tryz.pinned (OpenSpec.ofChange versionResolvesSpec)

/-- ITS FALSE NEIGHBOUR: 'it returns false'. Refute it at one input. -/
def versionResolvesWrong : ChangeSpec := { name := "versionResolves", fn := fun _ => fun
  | [d1, d2, d3, d4, d5] => { results := [.lit (.bool false)], args := [d1, d2, d3, d4, d5] }
  | _ => none }
def VersionResolvesWrongFalsely : Prop := versionResolvesRow.holds Tryz.pinned (OpenSpec.ofChange versionResolvesWrong)

/-- 'civiltimelaw53.MigrateListed': WHATEVER THE INPUT: true; the input reads as it did. -/
def migrateListedSpec : ChangeSpec := { name := "migrateListed", fn := fun _ => fun
  | [d1, d2, d3, d4] => { results := [.lit (.bool true)], args := [d1, d2, d3, d4] }
  | _ => none }
def migrateListedRow : OpenClaim := { program := "ytoonaidpmahgcaagreat", sum := "d54a1111203dbfe2e1c2c43a3d70d1ac7f363ba0d8abd7643c163782eba1c2cc", func := "civiltime/civiltimelaw53.MigrateListed", spec := "migrateListed", inPlace := ["internal/bytealg.IndexByteString", "internal/bytealg.IndexString"], unfollowed := true, recurses := true, named := ["internal/bytealg.MaxLen"], plainKeys := false, apart := false }
def MigrateListedSaid : Prop := migrateListedRow.holds Tryz.pinned (OpenSpec.ofChange migrateListedSpec)

/-- ITS FALSE NEIGHBOUR: 'it returns false'. Refute it at one input. -/
def migrateListedWrong : ChangeSpec := { name := "migrateListed", fn := fun _ => fun
  | [d1, d2, d3, d4] => { results := [.lit (.bool false)], args := [d1, d2, d3, d4] }
  | _ => none }
def MigrateListedWrongFalsely : Prop := migrateListedRow.holds Tryz.pinned (OpenSpec.ofChange migrateListedWrong)

/-- 'civiltimelaw53.MigrateKeeps': WHATEVER THE INPUT: true; the input reads as it did. -/
def migrateKeepsSpec : ChangeSpec := { name := "migrateKeeps", fn := fun _ => fun
  | [d1, d2, d3, d4] => { results := [.lit (.bool true)], args := [d1, d2, d3, d4] }
  | _ => none }
def migrateKeepsRow : OpenClaim := { program := "ytoonaidpmahgcaagreat", sum := "d54a1111203dbfe2e1c2c43a3d70d1ac7f363ba0d8abd7643c163782eba1c2cc", func := "civiltime/civiltimelaw53.MigrateKeeps", spec := "migrateKeeps", inPlace := ["internal/bytealg.IndexByteString", "internal/bytealg.IndexString"], unfollowed := true, recurses := true, named := ["internal/bytealg.MaxLen"], plainKeys := false, apart := false }
def MigrateKeepsSaid : Prop := migrateKeepsRow.holds Tryz.pinned (OpenSpec.ofChange migrateKeepsSpec)

/-- ITS FALSE NEIGHBOUR: 'it returns false'. Refute it at one input. -/
def migrateKeepsWrong : ChangeSpec := { name := "migrateKeeps", fn := fun _ => fun
  | [d1, d2, d3, d4] => { results := [.lit (.bool false)], args := [d1, d2, d3, d4] }
  | _ => none }
def MigrateKeepsWrongFalsely : Prop := migrateKeepsRow.holds Tryz.pinned (OpenSpec.ofChange migrateKeepsWrong)

/-- 'civiltimelaw24.VersionKept': WHATEVER THE INPUT: true; the input reads as it did. -/
def versionKeptSpec : ChangeSpec := { name := "versionKept", fn := fun _ => fun
  | [d1, d2, d3, d4, d5, d6] => { results := [.lit (.bool true)], args := [d1, d2, d3, d4, d5, d6] }
  | _ => none }
def versionKeptRow : OpenClaim := { program := "ytoonaidpmahgcaagreat", sum := "d54a1111203dbfe2e1c2c43a3d70d1ac7f363ba0d8abd7643c163782eba1c2cc", func := "civiltime/civiltimelaw24.VersionKept", spec := "versionKept", inPlace := ["internal/bytealg.IndexByteString", "internal/bytealg.IndexString"], unfollowed := true, recurses := true, named := ["internal/bytealg.MaxLen"], plainKeys := false, apart := false }
def VersionKeptSaid : Prop := versionKeptRow.holds Tryz.pinned (OpenSpec.ofChange versionKeptSpec)

/-- ITS FALSE NEIGHBOUR: 'it returns false'. Refute it at one input. -/
def versionKeptWrong : ChangeSpec := { name := "versionKept", fn := fun _ => fun
  | [d1, d2, d3, d4, d5, d6] => { results := [.lit (.bool false)], args := [d1, d2, d3, d4, d5, d6] }
  | _ => none }
def VersionKeptWrongFalsely : Prop := versionKeptRow.holds Tryz.pinned (OpenSpec.ofChange versionKeptWrong)

/-- 'civiltimelaw53.MigrateAffected': WHATEVER THE INPUT: true; the input reads as it did. -/
def migrateAffectedSpec : ChangeSpec := { name := "migrateAffected", fn := fun _ => fun
  | [d1, d2, d3, d4, d5, d6] => { results := [.lit (.bool true)], args := [d1, d2, d3, d4, d5, d6] }
  | _ => none }
def migrateAffectedRow : OpenClaim := { program := "ytoonaidpmahgcaagreat", sum := "d54a1111203dbfe2e1c2c43a3d70d1ac7f363ba0d8abd7643c163782eba1c2cc", func := "civiltime/civiltimelaw53.MigrateAffected", spec := "migrateAffected", inPlace := ["internal/bytealg.IndexByteString", "internal/bytealg.IndexString"], unfollowed := true, recurses := true, named := ["internal/bytealg.MaxLen"], plainKeys := false, apart := false }
def MigrateAffectedSaid : Prop := migrateAffectedRow.holds Tryz.pinned (OpenSpec.ofChange migrateAffectedSpec)

/-- ITS FALSE NEIGHBOUR: 'it returns false'. Refute it at one input. -/
def migrateAffectedWrong : ChangeSpec := { name := "migrateAffected", fn := fun _ => fun
  | [d1, d2, d3, d4, d5, d6] => { results := [.lit (.bool false)], args := [d1, d2, d3, d4, d5, d6] }
  | _ => none }
def MigrateAffectedWrongFalsely : Prop := migrateAffectedRow.holds Tryz.pinned (OpenSpec.ofChange migrateAffectedWrong)

/-- 'civiltimelaw53.MigrateSame': WHATEVER THE INPUT: true; the input reads as it did. -/
def migrateSameSpec : ChangeSpec := { name := "migrateSame", fn := fun _ => fun
  | [d1, d2, d3, d4, d5] => { results := [.lit (.bool true)], args := [d1, d2, d3, d4, d5] }
  | _ => none }
def migrateSameRow : OpenClaim := { program := "ytoonaidpmahgcaagreat", sum := "d54a1111203dbfe2e1c2c43a3d70d1ac7f363ba0d8abd7643c163782eba1c2cc", func := "civiltime/civiltimelaw53.MigrateSame", spec := "migrateSame", inPlace := ["internal/bytealg.IndexByteString", "internal/bytealg.IndexString"], unfollowed := true, recurses := true, named := ["internal/bytealg.MaxLen"], plainKeys := false, apart := false }
def MigrateSameSaid : Prop := migrateSameRow.holds Tryz.pinned (OpenSpec.ofChange migrateSameSpec)

/-- ITS FALSE NEIGHBOUR: 'it returns false'. Refute it at one input. -/
def migrateSameWrong : ChangeSpec := { name := "migrateSame", fn := fun _ => fun
  | [d1, d2, d3, d4, d5] => { results := [.lit (.bool false)], args := [d1, d2, d3, d4, d5] }
  | _ => none }
def MigrateSameWrongFalsely : Prop := migrateSameRow.holds Tryz.pinned (OpenSpec.ofChange migrateSameWrong)

/-- 'civiltimelaw53.MigrateAnswers': WHATEVER THE INPUT: true; the input reads as it did. -/
def migrateAnswersSpec : ChangeSpec := { name := "migrateAnswers", fn := fun _ => fun
  | [d1, d2, d3, d4, d5, d6] => { results := [.lit (.bool true)], args := [d1, d2, d3, d4, d5, d6] }
  | _ => none }
def migrateAnswersRow : OpenClaim := { program := "ytoonaidpmahgcaagreat", sum := "d54a1111203dbfe2e1c2c43a3d70d1ac7f363ba0d8abd7643c163782eba1c2cc", func := "civiltime/civiltimelaw53.MigrateAnswers", spec := "migrateAnswers", inPlace := ["internal/bytealg.IndexByteString", "internal/bytealg.IndexString"], unfollowed := true, recurses := true, named := ["internal/bytealg.MaxLen"], plainKeys := false, apart := false }
def MigrateAnswersSaid : Prop := migrateAnswersRow.holds Tryz.pinned (OpenSpec.ofChange migrateAnswersSpec)

/-- ITS FALSE NEIGHBOUR: 'it returns false'. Refute it at one input. -/
def migrateAnswersWrong : ChangeSpec := { name := "migrateAnswers", fn := fun _ => fun
  | [d1, d2, d3, d4, d5, d6] => { results := [.lit (.bool false)], args := [d1, d2, d3, d4, d5, d6] }
  | _ => none }
def MigrateAnswersWrongFalsely : Prop := migrateAnswersRow.holds Tryz.pinned (OpenSpec.ofChange migrateAnswersWrong)

/- THE SECOND FORM. 'bulk': how many values and letters a reading holds, each counted each time it is reached (what is shared counts as often as it is met; a slice's spare places count too). A statement '..UptoSaid' is the law's where the arguments, and the package variables that the reading takes, are together of bulk at most 1048576: NARROWER than '..Said'. Prove '..Said' where nothing that the law and all that it calls make is longer than what came in: it says more and counts as full. Else prove '..UptoSaid'. A law counts once. -/
mutual
def uptoBulk {H : Type} : DataW H → Nat
  | .lit (.string bytes) => bytes.length + 1
  | .lit _ => 1
  | .nil => 1
  | .ptr d => uptoBulk d + 1
  | .slice elems spare => uptoBulkAll elems + uptoBulkAll spare + 1
  | .agg parts => uptoBulkAll parts + 1
  | .iface _ d => uptoBulk d + 1
  | .map entries => uptoBulkEntries entries + 1
  | .held _ => 1
def uptoBulkAll {H : Type} : List (DataW H) → Nat
  | [] => 0
  | d :: r => uptoBulk d + uptoBulkAll r
def uptoBulkEntries {H : Type} : List (Lit × DataW H) → Nat
  | [] => 0
  | x :: r => uptoBulkEntry x + uptoBulkEntries r
def uptoBulkEntry {H : Type} : Lit × DataW H → Nat
  | (.string bytes, d) => bytes.length + uptoBulk d + 1
  | (_, d) => uptoBulk d + 1
 end
def uptoSmall : (H : Type) → List (DataW H) → Bool := fun _ ds => decide (uptoBulkAll ds ≤ 1048576)
def OpenSpec.upto (s : _root_.Go.ChangeSpec) : _root_.Go.OpenSpec := { _root_.Go.OpenSpec.ofChange s with cond := some uptoSmall }

/-- 'civiltimelaw24.VersionInstants', WHERE WHAT IT READS IS OF BULK AT MOST 1048576: true; the input reads as it did. -/
def versionInstantsUptoRow : OpenClaim := { program := "ytoonaidpmahgcaagreat", sum := "d54a1111203dbfe2e1c2c43a3d70d1ac7f363ba0d8abd7643c163782eba1c2cc", func := "civiltime/civiltimelaw24.VersionInstants", spec := "versionInstants", inPlace := ["internal/bytealg.IndexByteString", "internal/bytealg.IndexString"], unfollowed := true, recurses := true, named := ["internal/bytealg.MaxLen"], plainKeys := false, apart := false, narrowed := true }
def VersionInstantsUptoSaid : Prop := versionInstantsUptoRow.holds Tryz.pinned (OpenSpec.upto versionInstantsSpec)

/-- 'civiltimelaw24.VersionLocals', WHERE WHAT IT READS IS OF BULK AT MOST 1048576: true; the input reads as it did. -/
def versionLocalsUptoRow : OpenClaim := { program := "ytoonaidpmahgcaagreat", sum := "d54a1111203dbfe2e1c2c43a3d70d1ac7f363ba0d8abd7643c163782eba1c2cc", func := "civiltime/civiltimelaw24.VersionLocals", spec := "versionLocals", inPlace := ["internal/bytealg.IndexByteString", "internal/bytealg.IndexString"], unfollowed := true, recurses := true, named := ["internal/bytealg.MaxLen"], plainKeys := false, apart := false, narrowed := true }
def VersionLocalsUptoSaid : Prop := versionLocalsUptoRow.holds Tryz.pinned (OpenSpec.upto versionLocalsSpec)

/-- 'civiltimelaw24.VersionPoints', WHERE WHAT IT READS IS OF BULK AT MOST 1048576: true; the input reads as it did. -/
def versionPointsUptoRow : OpenClaim := { program := "ytoonaidpmahgcaagreat", sum := "d54a1111203dbfe2e1c2c43a3d70d1ac7f363ba0d8abd7643c163782eba1c2cc", func := "civiltime/civiltimelaw24.VersionPoints", spec := "versionPoints", inPlace := ["internal/bytealg.IndexByteString", "internal/bytealg.IndexString"], unfollowed := true, recurses := true, named := ["internal/bytealg.MaxLen"], plainKeys := false, apart := false, narrowed := true }
def VersionPointsUptoSaid : Prop := versionPointsUptoRow.holds Tryz.pinned (OpenSpec.upto versionPointsSpec)

/-- 'civiltimelaw24.VersionResolves', WHERE WHAT IT READS IS OF BULK AT MOST 1048576: true; the input reads as it did. -/
def versionResolvesUptoRow : OpenClaim := { program := "ytoonaidpmahgcaagreat", sum := "d54a1111203dbfe2e1c2c43a3d70d1ac7f363ba0d8abd7643c163782eba1c2cc", func := "civiltime/civiltimelaw24.VersionResolves", spec := "versionResolves", inPlace := ["internal/bytealg.IndexByteString", "internal/bytealg.IndexString"], unfollowed := true, recurses := true, named := ["internal/bytealg.MaxLen"], plainKeys := false, apart := false, narrowed := true }
def VersionResolvesUptoSaid : Prop := versionResolvesUptoRow.holds Tryz.pinned (OpenSpec.upto versionResolvesSpec)

/-- 'civiltimelaw53.MigrateListed', WHERE WHAT IT READS IS OF BULK AT MOST 1048576: true; the input reads as it did. -/
def migrateListedUptoRow : OpenClaim := { program := "ytoonaidpmahgcaagreat", sum := "d54a1111203dbfe2e1c2c43a3d70d1ac7f363ba0d8abd7643c163782eba1c2cc", func := "civiltime/civiltimelaw53.MigrateListed", spec := "migrateListed", inPlace := ["internal/bytealg.IndexByteString", "internal/bytealg.IndexString"], unfollowed := true, recurses := true, named := ["internal/bytealg.MaxLen"], plainKeys := false, apart := false, narrowed := true }
def MigrateListedUptoSaid : Prop := migrateListedUptoRow.holds Tryz.pinned (OpenSpec.upto migrateListedSpec)

/-- 'civiltimelaw53.MigrateKeeps', WHERE WHAT IT READS IS OF BULK AT MOST 1048576: true; the input reads as it did. -/
def migrateKeepsUptoRow : OpenClaim := { program := "ytoonaidpmahgcaagreat", sum := "d54a1111203dbfe2e1c2c43a3d70d1ac7f363ba0d8abd7643c163782eba1c2cc", func := "civiltime/civiltimelaw53.MigrateKeeps", spec := "migrateKeeps", inPlace := ["internal/bytealg.IndexByteString", "internal/bytealg.IndexString"], unfollowed := true, recurses := true, named := ["internal/bytealg.MaxLen"], plainKeys := false, apart := false, narrowed := true }
def MigrateKeepsUptoSaid : Prop := migrateKeepsUptoRow.holds Tryz.pinned (OpenSpec.upto migrateKeepsSpec)

/-- 'civiltimelaw24.VersionKept', WHERE WHAT IT READS IS OF BULK AT MOST 1048576: true; the input reads as it did. -/
def versionKeptUptoRow : OpenClaim := { program := "ytoonaidpmahgcaagreat", sum := "d54a1111203dbfe2e1c2c43a3d70d1ac7f363ba0d8abd7643c163782eba1c2cc", func := "civiltime/civiltimelaw24.VersionKept", spec := "versionKept", inPlace := ["internal/bytealg.IndexByteString", "internal/bytealg.IndexString"], unfollowed := true, recurses := true, named := ["internal/bytealg.MaxLen"], plainKeys := false, apart := false, narrowed := true }
def VersionKeptUptoSaid : Prop := versionKeptUptoRow.holds Tryz.pinned (OpenSpec.upto versionKeptSpec)

/-- 'civiltimelaw53.MigrateAffected', WHERE WHAT IT READS IS OF BULK AT MOST 1048576: true; the input reads as it did. -/
def migrateAffectedUptoRow : OpenClaim := { program := "ytoonaidpmahgcaagreat", sum := "d54a1111203dbfe2e1c2c43a3d70d1ac7f363ba0d8abd7643c163782eba1c2cc", func := "civiltime/civiltimelaw53.MigrateAffected", spec := "migrateAffected", inPlace := ["internal/bytealg.IndexByteString", "internal/bytealg.IndexString"], unfollowed := true, recurses := true, named := ["internal/bytealg.MaxLen"], plainKeys := false, apart := false, narrowed := true }
def MigrateAffectedUptoSaid : Prop := migrateAffectedUptoRow.holds Tryz.pinned (OpenSpec.upto migrateAffectedSpec)

/-- 'civiltimelaw53.MigrateSame', WHERE WHAT IT READS IS OF BULK AT MOST 1048576: true; the input reads as it did. -/
def migrateSameUptoRow : OpenClaim := { program := "ytoonaidpmahgcaagreat", sum := "d54a1111203dbfe2e1c2c43a3d70d1ac7f363ba0d8abd7643c163782eba1c2cc", func := "civiltime/civiltimelaw53.MigrateSame", spec := "migrateSame", inPlace := ["internal/bytealg.IndexByteString", "internal/bytealg.IndexString"], unfollowed := true, recurses := true, named := ["internal/bytealg.MaxLen"], plainKeys := false, apart := false, narrowed := true }
def MigrateSameUptoSaid : Prop := migrateSameUptoRow.holds Tryz.pinned (OpenSpec.upto migrateSameSpec)

/-- 'civiltimelaw53.MigrateAnswers', WHERE WHAT IT READS IS OF BULK AT MOST 1048576: true; the input reads as it did. -/
def migrateAnswersUptoRow : OpenClaim := { program := "ytoonaidpmahgcaagreat", sum := "d54a1111203dbfe2e1c2c43a3d70d1ac7f363ba0d8abd7643c163782eba1c2cc", func := "civiltime/civiltimelaw53.MigrateAnswers", spec := "migrateAnswers", inPlace := ["internal/bytealg.IndexByteString", "internal/bytealg.IndexString"], unfollowed := true, recurses := true, named := ["internal/bytealg.MaxLen"], plainKeys := false, apart := false, narrowed := true }
def MigrateAnswersUptoSaid : Prop := migrateAnswersUptoRow.holds Tryz.pinned (OpenSpec.upto migrateAnswersSpec)

end Rows
end Go.Proofs.YtoonaidpmahgcaaGreat

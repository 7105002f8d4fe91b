/- What is known of a number that comes in as a uint32. -/
import Derived.WideShapes
namespace Go.Proofs.YtdpkolnfbimheaaGreat
set_option linter.unusedSimpArgs false
set_option linter.unusedVariables false

theorem okWide_u32 {P : Program} {w : World} {r : Reach} {base : Nat} {t : TypeId} {v : Value} (ht : P.underlying t = some (.int .u32)) (h : Value.okWide P w r base t v) : ∃ n : Int, v = .int .u32 n ∧ 0 ≤ n ∧ n < 4294967296 := by
  simp only [Value.okWide, ht, Cell.okWide] at h
  cases v <;> simp_all [Cell.ok, IntKind.has, IntKind.min, IntKind.max, IntKind.signed, IntKind.bits]
  omega

end Go.Proofs.YtdpkolnfbimheaaGreat

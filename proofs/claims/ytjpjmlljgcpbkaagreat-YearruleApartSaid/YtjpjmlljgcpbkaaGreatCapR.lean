/- A slice that comes in has no more elements than room. -/
import Derived.Test.YtjpjmlljgcpbkaaGreatOpen
namespace Go.Proofs.YtjpjmlljgcpbkaaGreat
set_option linter.unusedSimpArgs false
set_option linter.unusedVariables false
theorem cap_rules {w : World} {v : Value} (h : Tr Tryz.prog w 37 [v]) : ∀ A l c, v = .slice A l c → l ≤ c := by
  intro A l c hv
  subst hv
  rcases h.slice Tryz.underlying37 with h0 | ⟨a, len, cap, hcs, hl, _, _⟩
  · simp at h0; omega
  · simp at hcs; omega
end Go.Proofs.YtjpjmlljgcpbkaaGreat

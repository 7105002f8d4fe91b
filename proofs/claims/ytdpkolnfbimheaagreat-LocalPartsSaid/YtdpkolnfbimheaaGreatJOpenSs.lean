/- Lists of spans that come in, opened to plain data. -/
import Derived.Test.YtdpkolnfbimheaaGreatJOpenUs
import Derived.Test.YtdpkolnfbimheaaGreatGRn
namespace Go.Proofs.YtdpkolnfbimheaaGreat
set_option linter.unusedSimpArgs false
set_option linter.unusedVariables false
open Go.ChangeShapes Go.WideShapes Go.ChangeAt Go.RowKit Go.Deep

theorem rd_spans {w : World} {v : Value} (h : Tr Tryz.prog w 46 [v]) : ∃ xs, Rd encN 2 w v xs ∧ xs.length ≤ maxLen :=
  h.rd Tryz.underlying46 cellsSpan (by decide) (fun _ hc => by obtain ⟨a, b, e⟩ := tr_span hc; exact ⟨⟨a, b⟩, e⟩)

end Go.Proofs.YtdpkolnfbimheaaGreat

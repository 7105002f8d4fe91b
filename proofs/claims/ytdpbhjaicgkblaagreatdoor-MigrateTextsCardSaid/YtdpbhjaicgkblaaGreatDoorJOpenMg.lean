/- Changes that come in, opened to plain data. -/
import Derived.Test.YtdpbhjaicgkblaaGreatDoorGOh
import Derived.Test.YtdpbhjaicgkblaaGreatDoorGMig
namespace Go.Proofs.YtdpbhjaicgkblaaGreatDoor
set_option linter.unusedSimpArgs false
set_option linter.unusedVariables false
open Go.ChangeShapes Go.WideShapes Go.ChangeAt Go.RowKit Go.Deep
theorem cellsMig : Tryz.prog.cellsOf 46 = 4 := by kernel_rfl
set_option maxRecDepth 100000 in
theorem tr_mig {w : World} {cs : List Value} (h : Tr Tryz.prog w 46 cs) : ∃ x : Mig, cs = encM x := by
 obtain ⟨hl, hf⟩ := h.struct Tryz.underlying46
 rw [cellsMig] at hl
 match cs, hl with
 | [c0, c1, c2, c3], _ =>
  have f0 : Tr Tryz.prog w 3 (([c0, c1, c2, c3].drop 0).take (Tryz.prog.cellsOf 3)) := hf 0 _ rfl
  have f1 : Tr Tryz.prog w 3 (([c0, c1, c2, c3].drop 1).take (Tryz.prog.cellsOf 3)) := hf 1 _ rfl
  have f2 : Tr Tryz.prog w 3 (([c0, c1, c2, c3].drop 2).take (Tryz.prog.cellsOf 3)) := hf 2 _ rfl
  have f3 : Tr Tryz.prog w 3 (([c0, c1, c2, c3].drop 3).take (Tryz.prog.cellsOf 3)) := hf 3 _ rfl
  rw [cellsInt] at f0 f1 f2 f3
  obtain ⟨a, e0, _⟩ := f0.int Tryz.underlying3
  obtain ⟨b, e1, _⟩ := f1.int Tryz.underlying3
  obtain ⟨c, e2, _⟩ := f2.int Tryz.underlying3
  obtain ⟨d, e3, _⟩ := f3.int Tryz.underlying3
  simp at e0 e1 e2 e3
  exact ⟨⟨a, b, c, d⟩, by rw [e0, e1, e2, e3]; rfl⟩
theorem rd_migs {w : World} {v : Value} (h : Tr Tryz.prog w 23 [v]) : ∃ xs, Rd encM 4 w v xs ∧ xs.length ≤ maxLen :=
 h.rd Tryz.underlying23 cellsMig (by decide) (fun _ hc => tr_mig hc)
end Go.Proofs.YtdpbhjaicgkblaaGreatDoor

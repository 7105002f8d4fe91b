/- Histories that come in: no slice has more elements than room. -/
import Derived.Test.YtdafcipilknecaaGreatDoorGOh
import Derived.Test.YtdafcipilknecaaGreatDoorGRp
namespace Go.Proofs.YtdafcipilknecaaGreatDoor
set_option linter.unusedSimpArgs false
set_option linter.unusedVariables false
open Go.ChangeShapes Go.WideShapes Go.ChangeAt Go.RowKit Go.Deep
set_option maxRecDepth 100000 in
theorem tr_versionC {w : World} {cs : List Value} (h : Tr Tryz.prog w 67 cs) : ∃ x : VV, cs = encVV x ∧ GoodV w x ∧ CapV x := by
 obtain ⟨x, rfl, hg⟩ := tr_version h
 refine ⟨x, rfl, hg, ?_, ?_⟩
 ·obtain ⟨hl, hf⟩ := h.struct Tryz.underlying67
  have f1 : Tr Tryz.prog w 64 (((encVV x).drop 1).take (Tryz.prog.cellsOf 64)) := hf 1 _ rfl
  rw [cellsZs] at f1
  intro A l c hv
  rcases f1.slice Tryz.underlying64 with h0 | ⟨a, len, cap, hcs, hl, _, _⟩
  ·simp [encVV, hv] at h0; omega
  ·simp [encVV, hv] at hcs; omega
 ·obtain ⟨hl, hf⟩ := h.struct Tryz.underlying67
  have f1 : Tr Tryz.prog w 65 (((encVV x).drop 2).take (Tryz.prog.cellsOf 65)) := hf 2 _ rfl
  rw [cellsLs] at f1
  intro A l c hv
  rcases f1.slice Tryz.underlying65 with h0 | ⟨a, len, cap, hcs, hl, _, _⟩
  ·simp [encVV, hv] at h0; omega
  ·simp [encVV, hv] at hcs; omega
set_option maxRecDepth 100000 in
theorem tr_historyC {w : World} {cs : List Value} (h : Tr Tryz.prog w 24 cs) : ∃ (v : Value) (L : List VV), cs = [v] ∧ GoodH w v L ∧ ∀ x ∈ L, CapV x := by
 obtain ⟨hl, hf⟩ := h.struct Tryz.underlying24
 rw [cellsHist] at hl
 match cs, hl with
 | [c0], _ =>
  have f0 : Tr Tryz.prog w 22 (([c0].drop 0).take (Tryz.prog.cellsOf 22)) := hf 0 _ rfl
  rw [cellsVs] at f0
  obtain ⟨L, hL, hq⟩ := Tr.rdQ (enc := encVV) (Q := fun x => GoodV w x ∧ CapV x) Tryz.underlying22 cellsVersion (by decide) (fun _ hc => tr_versionC hc) (v := c0) (by simpa using f0)
  exact ⟨c0, L, rfl, ⟨hL, fun x hx => (hq x hx).1⟩, fun x hx => (hq x hx).2⟩
end Go.Proofs.YtdafcipilknecaaGreatDoor

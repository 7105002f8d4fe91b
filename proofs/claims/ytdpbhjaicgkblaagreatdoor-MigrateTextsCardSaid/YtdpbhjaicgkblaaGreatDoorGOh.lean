/- Joined by merge.py: OpenPl, OpenHi, OpenH. -/
import Derived.Test.YtdpbhjaicgkblaaGreatDoorGOpen
import Derived.Test.YtdpbhjaicgkblaaGreatDoorGStm
/- A policy read as data. -/
namespace Go.Proofs.YtdpbhjaicgkblaaGreatDoor
set_option linter.unusedSimpArgs false
set_option linter.unusedVariables false
open Go.ChangeShapes Go.WideShapes Go.ChangeAt Go.RowKit
theorem cellsPol : Tryz.prog.cellsOf 36 = 2 := by kernel_rfl
set_option maxRecDepth 100000 in
theorem tr_policy {w : World} {cs : List Value} (h : Tr Tryz.prog w 36 cs) : ∃ a b : Int, cs = [.int .i64 a, .int .i64 b] := by
 obtain ⟨hl, hf⟩ := h.struct Tryz.underlying36
 rw [cellsPol] at hl
 match cs, hl with
 | [c0, c1], _ =>
  have f0 : Tr Tryz.prog w 3 (([c0, c1].drop 0).take (Tryz.prog.cellsOf 3)) := hf 0 _ rfl
  rw [cellsInt] at f0
  have f1 : Tr Tryz.prog w 3 (([c0, c1].drop 1).take (Tryz.prog.cellsOf 3)) := hf 1 _ rfl
  rw [cellsInt] at f1
  obtain ⟨a, e0, _⟩ := f0.int Tryz.underlying3
  obtain ⟨b, e1, _⟩ := f1.int Tryz.underlying3
  simp at e0 e1
  exact ⟨a, b, by rw [e0, e1]⟩
end Go.Proofs.YtdpbhjaicgkblaaGreatDoor
/- Histories and stamps that come in, opened to plain data. -/
namespace Go.Proofs.YtdpbhjaicgkblaaGreatDoor
set_option linter.unusedSimpArgs false
set_option linter.unusedVariables false
open Go.ChangeShapes Go.WideShapes Go.ChangeAt Go.RowKit Go.Deep
theorem cellsStamp : Tryz.prog.cellsOf 38 = 4 := by kernel_rfl
set_option maxRecDepth 100000 in
theorem tr_stamp {w : World} {cs : List Value} (h : Tr Tryz.prog w 38 cs) : ∃ s : Stm, cs = encStm s := by
 obtain ⟨hl, hf⟩ := h.struct Tryz.underlying38
 rw [cellsStamp] at hl
 match cs, hl with
 | [c0, c1, c2, c3], _ =>
  have f0 : Tr Tryz.prog w 3 (([c0, c1, c2, c3].drop 0).take (Tryz.prog.cellsOf 3)) := hf 0 _ rfl
  rw [cellsInt] at f0
  have f1 : Tr Tryz.prog w 9 (([c0, c1, c2, c3].drop 1).take (Tryz.prog.cellsOf 9)) := hf 1 _ rfl
  rw [cellsString] at f1
  have f2 : Tr Tryz.prog w 36 (([c0, c1, c2, c3].drop 2).take (Tryz.prog.cellsOf 36)) := hf 2 _ rfl
  rw [cellsPol] at f2
  obtain ⟨a, e0, _⟩ := f0.int Tryz.underlying3
  obtain ⟨b, e1, _⟩ := f1.string Tryz.underlying9
  obtain ⟨x, y, e2⟩ := tr_policy f2
  simp at e0 e1 e2
  exact ⟨⟨a, b, x, y⟩, by rw [e0, e1, e2.1, e2.2]; rfl⟩
end Go.Proofs.YtdpbhjaicgkblaaGreatDoor
/- Entries that come in, opened to plain data. -/
namespace Go.Proofs.YtdpbhjaicgkblaaGreatDoor
set_option linter.unusedSimpArgs false
set_option linter.unusedVariables false
open Go.ChangeShapes Go.WideShapes Go.ChangeAt Go.RowKit Go.Deep
theorem cellsEntry : Tryz.prog.cellsOf 40 = 6 := by kernel_rfl
set_option maxRecDepth 100000 in
theorem tr_entry {w : World} {cs : List Value} (h : Tr Tryz.prog w 40 cs) : ∃ x : Ent, cs = encEn x := by
 obtain ⟨hl, hf⟩ := h.struct Tryz.underlying40
 rw [cellsEntry] at hl
 match cs, hl with
 | [c0, c1, c2, c3, c4, c5], _ =>
  have f0 : Tr Tryz.prog w 9 (([c0, c1, c2, c3, c4, c5].drop 0).take (Tryz.prog.cellsOf 9)) := hf 0 _ rfl
  rw [cellsString] at f0
  have f1 : Tr Tryz.prog w 38 (([c0, c1, c2, c3, c4, c5].drop 1).take (Tryz.prog.cellsOf 38)) := hf 1 _ rfl
  rw [cellsStamp] at f1
  have f2 : Tr Tryz.prog w 3 (([c0, c1, c2, c3, c4, c5].drop 5).take (Tryz.prog.cellsOf 3)) := hf 2 _ rfl
  rw [cellsInt] at f2
  obtain ⟨a, e0, _⟩ := f0.string Tryz.underlying9
  obtain ⟨s, e1⟩ := tr_stamp f1
  obtain ⟨b, e2, _⟩ := f2.int Tryz.underlying3
  simp [encStm] at e0 e1 e2
  obtain ⟨e1, e3, e4, e5⟩ := e1
  exact ⟨⟨a, s, b⟩, by rw [e0, e1, e2, e3, e4, e5]; rfl⟩
theorem rd_entries {w : World} {v : Value} (h : Tr Tryz.prog w 22 [v]) : ∃ xs, Rd encEn 6 w v xs ∧ xs.length ≤ maxLen :=
 h.rd Tryz.underlying22 cellsEntry (by decide) (fun _ hc => tr_entry hc)
end Go.Proofs.YtdpbhjaicgkblaaGreatDoor

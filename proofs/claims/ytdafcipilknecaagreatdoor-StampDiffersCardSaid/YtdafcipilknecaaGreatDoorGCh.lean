/- Joined by merge.py: ChgP. -/
import Derived.Test.YtdafcipilknecaaGreatDoorGHis
/- Which names have changed from a version to another, in plain words. -/
namespace Go.Proofs.YtdafcipilknecaaGreatDoor
set_option linter.unusedSimpArgs false
set_option linter.unusedVariables false
open Go.ChangeShapes Go.WideShapes Go.ChangeAt Go.RowKit Go.Sort Go.Lib
theorem dupZ_valid : ∀ {S : List ByteArray} {zs : List ZV}, dupZ S zs = true → ∀ y ∈ zs, y.z.valid = true
 | _, [], _, y, hy => by cases hy
 | S, x :: r, h, y, hy => by
  rw [dupZ] at h
  simp only [Bool.and_eq_true] at h
  rcases List.mem_cons.1 hy with rfl | hy
  ·exact h.1
  ·exact dupZ_valid h.2.2 y hy
theorem right_valid {x : VV} (h : rightB x = true) : ∀ y ∈ x.zs, y.z.valid = true := by
 unfold rightB at h
 simp only [Bool.and_eq_true] at h
 exact dupZ_valid h.2.2.1
theorem hisB_right {L : List VV} : ∀ {i : Nat} {l : List VV}, hisB L i l = true → ∀ x ∈ l, rightB x = true
 | _, [], _, x, hx => by cases hx
 | i, y :: r, h, x, hx => by
  rw [hisB] at h
  simp only [Bool.and_eq_true] at h
  rcases List.mem_cons.1 hx with rfl | hx
  ·exact h.1
  ·exact hisB_right h.2.2 x hx
theorem his_valid {L : List VV} (h : validH L = true) {x : VV} (hx : x ∈ L) {y : ZV} (hy : y ∈ x.zs) : y.z.valid = true := by
 unfold validH at h
 rw [Bool.and_eq_true] at h
 exact right_valid (hisB_right h.2 x hx) y hy
end Go.Proofs.YtdafcipilknecaaGreatDoor

/- Contract of civil.Nth: the last one of a month. -/
import Derived.Test.YtjpjmlljgcpbkaaCivil2
namespace Go.Proofs.Ytjpjmlljgcpbkaa
set_option linter.unusedSimpArgs false
set_option linter.unusedVariables false
open Go.ChangeShapes Go.WideShapes Go.ChangeAt Go.RowKit

set_option maxRecDepth 100000 in
set_option maxHeartbeats 2000000 in
theorem civil_Nth_last (y m wk : Int) (w : World) (hy : 1 ≤ y ∧ y ≤ 9999) (hm : 1 ≤ m ∧ m ≤ 12) (hk : 1 ≤ wk ∧ wk ≤ 7) :
    Calls Try.prog 13 #[.int .i64 y, .int .i64 m, .int .i64 wk, .int .i64 (-1)] w fun e w' => e = .returned (.tuple #[.int .i64 (Cv.count y m (Cv.lenF y m) - (Cv.wd (Cv.count y m (Cv.lenF y m)) - wk) % 7), .int .i64 0]) ∧ ∃ n, w.drewN n = w' := by
  have hl := Cv.lenF_in (y := y) (m := m) ⟨hy.1, hy.2, hm.1, hm.2⟩
  have hml := Cv.mlen_bd y m
  obtain ⟨L, hL⟩ : ∃ L, Cv.lenF y m = L := ⟨_, rfl⟩
  have l1 : 28 ≤ L := by omega
  have l2 : L ≤ 31 := by omega
  have hv1 : Cv.validB y m 1 = true := by unfold Cv.validB; rw [hL]; exact decide_eq_true ⟨by omega, by omega⟩
  have hv2 : Cv.validB y m L = true := by unfold Cv.validB; rw [hL]; exact decide_eq_true ⟨by omega, by omega⟩
  have hlast := count_last y m L
  have i1 := Cv.count_in hv1
  have i2 := Cv.count_in hv2
  have HL := Lib.hid hL
  rw [hL]
  obtain ⟨F, hF⟩ : ∃ F, Cv.count y m 1 = F := ⟨_, rfl⟩
  obtain ⟨Z, hZ⟩ : ∃ Z, Cv.count y m L = Z := ⟨_, rfl⟩
  rw [hF] at i1 hlast
  rw [hZ] at i2 hlast
  have HF := Lib.hid hF
  rw [hZ]
  have w1 := Cv.wd_bd F
  have w2 := Cv.wd_bd Z
  have W1 := Lib.hid (show Cv.wdF F = Cv.wd F from if_pos i1)
  have W2 := Lib.hid (show Cv.wdF Z = Cv.wd Z from if_pos i2)
  have HLa := Lib.hid hlast
  generalize Cv.wd F = A at *
  generalize Cv.wd Z = B at *
  obtain ⟨y1, y2⟩ := hy
  obtain ⟨m1, m2⟩ := hm
  obtain ⟨k1, k2⟩ := hk
  obtain ⟨i1, i1'⟩ := i1
  obtain ⟨i2, i2'⟩ := i2
  have z0 : (L == 0) = false := by simp; omega
  clear hl hml hL hv1 hv2 hlast hF hZ
  go_enter Try.func13, Try.ntmps13
  go_wp2_with (first
    | (go_at_call 26; refine (civil_Length _ _ _).mono ?_; rintro e w' ⟨rfl, rfl⟩; rw [HL.out])
    | (go_at_call 29; refine (civil_count _ _ _ _ ⟨by omega, by omega⟩ ⟨by omega, by omega⟩ ⟨by omega, by omega⟩ (by omega)).mono ?_; rintro e w' ⟨rfl, rfl⟩; rw [HF.out])
    | (go_at_call 12; refine (civil_Weekday _ _).mono ?_; rintro e w' ⟨rfl, n, rfl⟩; first | rw [W1.out] | rw [HLa.out, W2.out])
    | (go_at_call 30; refine (integer_Mod _ _ _ (by omega) ⟨by omega, by omega⟩ (by omega)).mono ?_; rintro e w' ⟨rfl, n, rfl⟩))
  go_ret2
  have hh := HLa.out
  exact ⟨ret2 (vint (by omega)) rfl, _, rfl⟩

end Go.Proofs.Ytjpjmlljgcpbkaa

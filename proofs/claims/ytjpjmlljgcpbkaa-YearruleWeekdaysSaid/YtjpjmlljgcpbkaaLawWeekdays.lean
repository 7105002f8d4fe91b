/- The law YearruleWeekdays: its walk. -/
import Derived.Test.YtjpjmlljgcpbkaaAwake
import Derived.Test.YtjpjmlljgcpbkaaCivil3
namespace Go.Proofs.Ytjpjmlljgcpbkaa
set_option linter.unusedSimpArgs false
set_option linter.unusedVariables false
open Go.ChangeShapes Go.WideShapes Go.ChangeAt Go.RowKit

theorem dayF_ok {y mo k wk d : Int} (h : (Cv.dayF y mo k wk d).2 = 0) : Cv.fitsB mo k wk d = true ∧ (1 ≤ y ∧ y ≤ 9999) ∧ Cv.validB y mo (Cv.onN y mo k d) = true ∧ Cv.insideB (Cv.onDay k wk (Cv.count y mo (Cv.onN y mo k d))) = true ∧ (Cv.dayF y mo k wk d).1 = Cv.onDay k wk (Cv.count y mo (Cv.onN y mo k d)) := by
  unfold Cv.dayF at *
  cases hf : Cv.fitsB mo k wk d
  · simp [hf] at h
  · rw [if_neg (by simp [hf])] at h ⊢
    by_cases hy : y < 1 ∨ 9999 < y
    · simp [hy] at h
    · rw [if_neg hy] at h ⊢
      cases hv : Cv.validB y mo (Cv.onN y mo k d)
      · simp [hv] at h
      · rw [if_neg (by simp [hv])] at h ⊢
        cases hi : Cv.insideB (Cv.onDay k wk (Cv.count y mo (Cv.onN y mo k d)))
        · simp [hi] at h
        · rw [if_neg (by simp [hi])]
          exact ⟨rfl, by omega, rfl, rfl, rfl⟩
theorem wd_onDay {k wk x : Int} (hk : k ≠ 1) (hw : 1 ≤ wk ∧ wk ≤ 7) : Cv.wd (Cv.onDay k wk x) = wk := by
  unfold Cv.onDay; rw [if_neg hk]
  split
  · unfold Cv.wd; omega
  · unfold Cv.wd; omega

set_option maxRecDepth 100000 in
set_option maxHeartbeats 4000000 in
theorem law_YearruleWeekdays (y m k wk d : Int) (w : World) (hm : HasMax w) : Calls Try.prog 5 #[.int .i64 y, .int .i64 m, .agg #[.int .i64 k, .int .i64 wk, .int .i64 d]] w fun e w' => e = .returned (.bool true) ∧ Below w.heap.size w w' := by
  have HD := Lib.hid (fun W => Day_any y m k wk d W)
  have HAw := Lib.hid (fun W h => awake_any W h)
  have hal : Below w.heap.size w (w.alloc (.cells #[.int .i64 k, .int .i64 wk, .int .i64 d] 32)) := (Below.refl _ _).alloc (Nat.le_refl _) _
  have HM := Lib.hid (hm.on hal)
  clear hm
  obtain ⟨⟨X, e⟩, hP⟩ : ∃ P, Cv.dayF y m k wk d = P := ⟨_, rfl⟩
  rw [hP] at HD
  dsimp only at HD
  by_cases he : e = 0
  · have hok := dayF_ok (y := y) (mo := m) (k := k) (wk := wk) (d := d) (by rw [hP]; exact he)
    rw [hP] at hok
    dsimp only at hok
    obtain ⟨h1, h2, h3, h4, h5⟩ := hok
    have hk := Cv.fitsB_k h1
    have hmo := Cv.fitsB_mo h1
    subst he
    have hk4 : k = 1 ∨ k = 2 ∨ k = 3 ∨ k = 4 := by omega
    clear hP
    rcases hk4 with rfl | rfl | rfl | rfl
    · rw [show Cv.onN y m 1 d = d from rfl] at h3 h5
      rw [show Cv.onDay 1 wk (Cv.count y m d) = Cv.count y m d from rfl] at h5
      subst h5
      have HDt := Lib.hid (fun W => civil_Date y m d W h3)
      clear h1 h3 h4 hk hmo h2
      generalize Cv.count y m d = X at *
      go_enter Try.func5, Try.ntmps5
      go_wp2_with (first
        | (go_at_call 6; refine (HAw.out _ HM.out).mono ?_; rintro e w1 ⟨rfl, hb1⟩; obtain ⟨hc1, hf1⟩ := bcell hb1; have hs1 : w.heap.size < w1.heap.size := by have := hb1.size; simp at this; omega)
        | (go_at_call 10; refine (HD.out _).mono ?_; rintro e w2 ⟨rfl, hb2⟩; obtain ⟨hc2, hf2⟩ := bcell hb2; have hs2 : w.heap.size < w2.heap.size := (by have := hb2.size; omega); have hs2' : w.heap.size < w2.heap.size + 1 := (by omega))
        | (go_at_call 11; refine (HDt.out _).mono ?_; rintro e w3 ⟨rfl, hb3⟩; obtain ⟨hc3, hf3⟩ := bcell hb3; have hs3 : w.heap.size < w3.heap.size := by have := hb3.size; omega))
      go_ret
      exact ⟨ret1 (vbool (by simp)), (((hal.trans (hb1.mono (by simp))).trans (hb2.mono (by omega))).trans (hb3.mono (by omega))).alloc (by omega) _⟩
    · rw [show Cv.onN y m 2 d = Cv.lenF y m from rfl] at h3 h4 h5
      have hw := Cv.fitsB_wk h1 (by decide)
      have hwx : Cv.wdF X = wk := by rw [h5]; unfold Cv.wdF; rw [if_pos (by unfold Cv.insideB at h4; exact of_decide_eq_true h4)]; exact wd_onDay (by decide) hw
      have HW : Hid (∀ W, Calls Try.prog 12 #[.int .i64 X] W fun e w' => e = .returned (.int .i64 wk) ∧ ∃ n, w' = W.drewN n) := fun W => (civil_Weekday X W).mono fun _ _ ⟨h1, n, h2⟩ => ⟨by rw [h1, hwx], n, h2.symm⟩
      clear hwx
      have HN := Lib.hid (fun W => civil_Nth_last y m wk W h2 hmo hw)
      rw [show Cv.count y m (Cv.lenF y m) - (Cv.wd (Cv.count y m (Cv.lenF y m)) - wk) % 7 = X from h5.symm] at HN
      clear h1 h3 h4 h5 hk hmo h2 hw
      go_enter Try.func5, Try.ntmps5
      go_wp2_with (first
        | (go_at_call 6; refine (HAw.out _ HM.out).mono ?_; rintro e w1 ⟨rfl, hb1⟩; obtain ⟨hc1, hf1⟩ := bcell hb1; have hs1 : w.heap.size < w1.heap.size := by have := hb1.size; simp at this; omega)
        | (go_at_call 10; refine (HD.out _).mono ?_; rintro e w2 ⟨rfl, hb2⟩; obtain ⟨hc2, hf2⟩ := bcell hb2; have hs2 : w.heap.size < w2.heap.size := (by have := hb2.size; omega); have hs2' : w.heap.size < w2.heap.size + 1 := (by omega))
        | fail)
      go_quiet ((go_at_call 12; exact Calls.quiet_of (HW.out _)))
      go_wp2_with (go_at_call 13; refine (HN.out _).mono ?_; rintro e w' ⟨rfl, n4, rfl⟩)
      all_goals go_ret
      all_goals exact ⟨ret1 (vbool (by simp)), below_drewN ((hal.trans (hb1.mono (by simp))).trans (hb2.mono (by omega))) _⟩
    · rw [show Cv.onN y m 3 d = d from rfl] at h3 h4 h5
      have hw := Cv.fitsB_wk h1 (by decide)
      have hwx : Cv.wdF X = wk := by rw [h5]; unfold Cv.wdF; rw [if_pos (by unfold Cv.insideB at h4; exact of_decide_eq_true h4)]; exact wd_onDay (by decide) hw
      have HW : Hid (∀ W, Calls Try.prog 12 #[.int .i64 X] W fun e w' => e = .returned (.int .i64 wk) ∧ ∃ n, w' = W.drewN n) := fun W => (civil_Weekday X W).mono fun _ _ ⟨h1, n, h2⟩ => ⟨by rw [h1, hwx], n, h2.symm⟩
      clear hwx
      have HCD := Lib.hid (fun W => civil_Day y m d W)
      rw [h3] at HCD
      have i3 := Cv.count_in h3
      rw [show Cv.onDay 3 wk (Cv.count y m d) = Cv.count y m d + (wk - Cv.wd (Cv.count y m d)) % 7 from rfl] at h5
      obtain ⟨C, hC⟩ : ∃ C, Cv.count y m d = C := ⟨_, rfl⟩
      rw [hC] at HCD i3 h5
      have g1 : C ≤ X := by omega
      have g2 : X ≤ C + 6 := by omega
      obtain ⟨i3, i4⟩ := i3
      clear h1 h3 h4 h5 hk hmo h2 hw hC
      go_enter Try.func5, Try.ntmps5
      go_wp2_with (first
        | (go_at_call 6; refine (HAw.out _ HM.out).mono ?_; rintro e w1 ⟨rfl, hb1⟩; obtain ⟨hc1, hf1⟩ := bcell hb1; have hs1 : w.heap.size < w1.heap.size := by have := hb1.size; simp at this; omega)
        | (go_at_call 10; refine (HD.out _).mono ?_; rintro e w2 ⟨rfl, hb2⟩; obtain ⟨hc2, hf2⟩ := bcell hb2; have hs2 : w.heap.size < w2.heap.size := (by have := hb2.size; omega); have hs2' : w.heap.size < w2.heap.size + 1 := (by omega))
        | fail)
      go_quiet ((go_at_call 12; exact Calls.quiet_of (HW.out _)))
      go_wp2_with fail
      refine (HCD.out _).mono ?_
      rintro e w4 ⟨rfl, hb4⟩
      have b5 : Below w2.heap.size w2 w4 := (below_drewN (Below.refl w2.heap.size w2) nq).trans hb4
      have d0 : w4.cell? ⟨w.heap.size, 0, none⟩ = some (.int .i64 3) := (b5.cell (p := ⟨w.heap.size, 0, none⟩) hs2).trans ((hc2 _ _ hs1).trans ((hc1 _ _ (by simp)).trans (by simp)))
      have B5 := Lib.hid b5
      clear hc1 hc2 hf1 hf2 b5 hb4
      go_wp2
      all_goals go_ret
      all_goals exact ⟨ret1 (vbool (by simp [*])), ((hal.trans (hb1.mono (by simp))).trans (hb2.mono (by omega))).trans (B5.out.mono (by omega))⟩
    · rw [show Cv.onN y m 4 d = d from rfl] at h3 h4 h5
      have hw := Cv.fitsB_wk h1 (by decide)
      have hwx : Cv.wdF X = wk := by rw [h5]; unfold Cv.wdF; rw [if_pos (by unfold Cv.insideB at h4; exact of_decide_eq_true h4)]; exact wd_onDay (by decide) hw
      have HW : Hid (∀ W, Calls Try.prog 12 #[.int .i64 X] W fun e w' => e = .returned (.int .i64 wk) ∧ ∃ n, w' = W.drewN n) := fun W => (civil_Weekday X W).mono fun _ _ ⟨h1, n, h2⟩ => ⟨by rw [h1, hwx], n, h2.symm⟩
      clear hwx
      have HCD := Lib.hid (fun W => civil_Day y m d W)
      rw [h3] at HCD
      have i3 := Cv.count_in h3
      rw [show Cv.onDay 4 wk (Cv.count y m d) = Cv.count y m d - (Cv.wd (Cv.count y m d) - wk) % 7 from rfl] at h5
      obtain ⟨C, hC⟩ : ∃ C, Cv.count y m d = C := ⟨_, rfl⟩
      rw [hC] at HCD i3 h5
      have g1 : X ≤ C := by omega
      have g2 : C - 6 ≤ X := by omega
      obtain ⟨i3, i4⟩ := i3
      clear h1 h3 h4 h5 hk hmo h2 hw hC
      go_enter Try.func5, Try.ntmps5
      go_wp2_with (first
        | (go_at_call 6; refine (HAw.out _ HM.out).mono ?_; rintro e w1 ⟨rfl, hb1⟩; obtain ⟨hc1, hf1⟩ := bcell hb1; have hs1 : w.heap.size < w1.heap.size := by have := hb1.size; simp at this; omega)
        | (go_at_call 10; refine (HD.out _).mono ?_; rintro e w2 ⟨rfl, hb2⟩; obtain ⟨hc2, hf2⟩ := bcell hb2; have hs2 : w.heap.size < w2.heap.size := (by have := hb2.size; omega); have hs2' : w.heap.size < w2.heap.size + 1 := (by omega))
        | fail)
      go_quiet ((go_at_call 12; exact Calls.quiet_of (HW.out _)))
      go_wp2_with fail
      refine (HCD.out _).mono ?_
      rintro e w4 ⟨rfl, hb4⟩
      have b5 : Below w2.heap.size w2 w4 := (below_drewN (Below.refl w2.heap.size w2) nq).trans hb4
      have d0 : w4.cell? ⟨w.heap.size, 0, none⟩ = some (.int .i64 4) := (b5.cell (p := ⟨w.heap.size, 0, none⟩) hs2).trans ((hc2 _ _ hs1).trans ((hc1 _ _ (by simp)).trans (by simp)))
      have B5 := Lib.hid b5
      clear hc1 hc2 hf1 hf2 b5 hb4
      go_wp2
      all_goals go_ret
      all_goals exact ⟨ret1 (vbool (by simp [*])), ((hal.trans (hb1.mono (by simp))).trans (hb2.mono (by omega))).trans (B5.out.mono (by omega))⟩
  · have z1 : (e != 0) = true := by simpa using he
    clear hP he
    go_enter Try.func5, Try.ntmps5
    go_wp2_with (first
      | (go_at_call 6; refine (HAw.out _ HM.out).mono ?_; rintro e w1 ⟨rfl, hb1⟩; obtain ⟨hc1, hf1⟩ := bcell hb1; have hs1 : w.heap.size < w1.heap.size := by have := hb1.size; simp at this; omega)
      | (go_at_call 10; refine (HD.out _).mono ?_; rintro e w2 ⟨rfl, hb2⟩; obtain ⟨hc2, hf2⟩ := bcell hb2))
    go_ret
    exact ⟨rfl, (hal.trans (hb1.mono (by simp))).trans (hb2.mono (by omega))⟩

end Go.Proofs.Ytjpjmlljgcpbkaa

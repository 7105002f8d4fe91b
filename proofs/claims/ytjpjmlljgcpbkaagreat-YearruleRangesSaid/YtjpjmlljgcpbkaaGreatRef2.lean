/- The reference of layer 2. -/
import Derived.Test.YtjpjmlljgcpbkaaGreatCivil
import Derived.BigQuiet
import Derived.Deep.RegionHeld3
namespace Go.Proofs.YtjpjmlljgcpbkaaGreat
set_option linter.unusedSimpArgs false
set_option linter.unusedVariables false
open Go.ChangeShapes Go.WideShapes Go.ChangeAt Go.RowKit

theorem tmod_zero (a b : Int) : (a.tmod b = 0) = (a % b = 0) := by
  apply propext
  rw [← Int.dvd_iff_tmod_eq_zero, Int.dvd_iff_emod_eq_zero]
theorem r2_Leap (y : Int) (w : World) : Calls Tryz.prog 66 #[.int .i64 y] w fun e w' => e = .returned (.bool (Cv.leapB y)) ∧ w' = w := by
  by_cases hy : 1 ≤ y ∧ y ≤ 9999
  · have h := Lib.hid (Cv.leapB_iff hy)
    obtain ⟨h1, h2⟩ := hy
    have e4 := tq_nonneg y 4 (by omega) (by omega)
    have e100 := tq_nonneg y 100 (by omega) (by omega)
    have e400 := tq_nonneg y 400 (by omega) (by omega)
    go_enter Tryz.func66, Tryz.ntmps66
    go_wp2
    all_goals (go_ret; refine ⟨ret1 (vbool ?_), rfl⟩; rw [h.out])
    all_goals (clear h; (try simp only [beq_iff_eq, beq_eq_false_iff_ne, tmod_zero] at *); rw [Bool.eq_iff_iff]; simp [tmod_zero]; omega)
  · have h := Lib.hid (show Cv.leapB y = false by simp [Cv.leapB, Cv.yearB]; omega)
    go_enter Tryz.func66, Tryz.ntmps66
    go_wp2
    all_goals (go_ret; exact ⟨ret1 (vbool (by rw [h.out])), rfl⟩)
theorem r2_Length (y m : Int) (w : World) : Calls Tryz.prog 37 #[.int .i64 y, .int .i64 m] w fun e w' => e = .returned (.int .i64 (Cv.lenF y m)) ∧ w' = w := by
  have hL := fun w => r2_Leap y w
  cases hl : Cv.leapB y
  all_goals
    rw [hl] at hL
    have HL := Lib.hid hL
    have Hl := Lib.hid hl
    clear hL hl
    go_enter Tryz.func37, Tryz.ntmps37
    go_wp2_with (go_at_call 66; refine (HL.out _).mono ?_; rintro e w' ⟨rfl, rfl⟩)
    all_goals (go_ret; refine ⟨ret1 (vint ?_), rfl⟩; unfold Cv.lenF Cv.mlen; rw [Hl.out]; clear HL Hl; (try simp only [beq_iff_eq, beq_eq_false_iff_ne] at *); repeat' split; all_goals first | rfl | omega | (simp_all; done))

set_option maxHeartbeats 400000 in
theorem r2_Valid (y m d : Int) (w : World) : Calls Tryz.prog 67 #[.agg #[.int .i64 y, .int .i64 m, .int .i64 d]] w fun e w' => e = .returned (.bool (Cv.validB y m d)) ∧ Below w.heap.size w w' := by
  by_cases h1 : 1 ≤ d
  · have hl := Cv.lenF_bd y m
    go_enter Tryz.func67, Tryz.ntmps67
    go_wp2
    go_quiet ((go_at_call 37; exact Calls.quiet_of_same (r2_Length _ _ _)))
    go_wp2
    go_ret
    exact ⟨ret1 (vbool (by simp [Cv.validB, h1])), box_drew _ _ _⟩
  · have hd : decide (1 ≤ d) = false := by simpa using h1
    go_enter Tryz.func67, Tryz.ntmps67
    go_wp2
    go_quiet (fail)
    go_wp2
    go_ret
    exact ⟨ret1 (vbool (by unfold Cv.validB; rw [eq_comm, decide_eq_false_iff_not]; omega)), box_drew _ _ _⟩
theorem r2_first (y : Int) (w : World) (h1 : 1 ≤ y) (h2 : y ≤ 10000) : Calls Tryz.prog 68 #[.int .i64 y] w fun e w' => e = .returned (.int .i64 (Cv.first y)) ∧ w' = w := by
  have e4 := tq_nonneg (y - 1) 4 (by omega) (by omega)
  have e100 := tq_nonneg (y - 1) 100 (by omega) (by omega)
  have e400 := tq_nonneg (y - 1) 400 (by omega) (by omega)
  go_enter Tryz.func68, Tryz.ntmps68
  go_wp2
  go_ret
  exact ⟨ret1 (vint (by unfold Cv.first; rfl)), rfl⟩
set_option maxHeartbeats 1000000 in
theorem r2_YearDay (y m d : Int) (w : World) (hv : Cv.validB y m d = true) : Calls Tryz.prog 69 #[.agg #[.int .i64 y, .int .i64 m, .int .i64 d]] w fun e w' => e = .returned (.int .i64 (d + Cv.ahead y (m - 1).toNat)) ∧ Below w.heap.size w w' := by
  have h := Lib.hid hv
  obtain ⟨a1, a2, a3, a4, a5, a6⟩ := Cv.validB_iff.1 hv
  have a7 := Cv.mlen_bd y m
  have HL := Lib.hid (fun m w => r2_Length y m w)
  clear hv
  go_enter Tryz.func69, Tryz.ntmps69
  go_wp2_with (go_at_call 67; refine (r2_Valid _ _ _ _).mono ?_; rintro e w1 ⟨rfl, hb⟩; rw [h.out]; obtain ⟨hc1, hf1⟩ := bcell hb)
  have hs1 : w.heap.size < w1.heap.size := by have := hb.size; simp at this; omega
  go_loop [3, 4] (fun n i => ∃ k : Nat, (k : Int) ≤ m - 1 ∧ n = .int .i64 (d + Cv.ahead y k) ∧ i = .int .i64 ((k : Int) + 1)) (fun _ i => 20 - (intOf i).toNat)
  case atStart => exact ⟨0, by omega, by rw [show Cv.ahead y 0 = 0 from rfl, Int.add_zero], by go_num⟩
  case round =>
    obtain ⟨k, hk, rfl, rfl⟩ := hrel
    have hk1 := Cv.ahead_bd y k
    have hk2 := Cv.lenF_bd y ((k : Int) + 1)
    by_cases hlt : (k : Int) + 1 < m
    · have hs : d + Cv.ahead y (k + 1) = d + Cv.ahead y k + Cv.lenF y ((k : Int) + 1) := by rw [Cv.ahead]; omega
      go_wp2_with (go_at_call 37; refine (HL.out _ _).mono ?_; rintro e w' ⟨rfl, rfl⟩)
      go_round
      case rel => exact ⟨k + 1, by omega, by rw [hs], by go_num⟩
      case measure => simp [intOf]; omega
    · have hm : (m - 1).toNat = k := by omega
      go_wp2
      go_ret
      exact ⟨ret1 (vint (by first | rfl | rw [hm])), ((Below.refl _ _).alloc (Nat.le_refl _) _).trans (hb.mono (by simp))⟩
theorem held3 {w wx w' : World} {a b c : Value} (h : wx.cell? ⟨w.heap.size, 0, none⟩ = some a ∧ wx.cell? ⟨w.heap.size, 1, none⟩ = some b ∧ wx.cell? ⟨w.heap.size, 2, none⟩ = some c ∧ Below w.heap.size w wx ∧ w.heap.size < wx.heap.size) (hb : Below wx.heap.size wx w') :
    w'.cell? ⟨w.heap.size, 0, none⟩ = some a ∧ w'.cell? ⟨w.heap.size, 1, none⟩ = some b ∧ w'.cell? ⟨w.heap.size, 2, none⟩ = some c ∧ Below w.heap.size w w' ∧ w.heap.size < w'.heap.size :=
  ⟨(hb.cell (p := ⟨w.heap.size, 0, none⟩) h.2.2.2.2).trans h.1, (hb.cell (p := ⟨w.heap.size, 1, none⟩) h.2.2.2.2).trans h.2.1, (hb.cell (p := ⟨w.heap.size, 2, none⟩) h.2.2.2.2).trans h.2.2.1, h.2.2.2.1.trans (hb.mono (by have := h.2.2.2.2; omega)), by have := hb.size; have := h.2.2.2.2; omega⟩
theorem keepE {w w' : World} (h : w' = w) : Below w.heap.size w w' := h ▸ Below.refl _ _
set_option maxHeartbeats 1000000 in
theorem r2_Day (y m d : Int) (w : World) : Calls Tryz.prog 38 #[.agg #[.int .i64 y, .int .i64 m, .int .i64 d]] w fun e w' => e = .returned (.tuple #[.int .i64 (if Cv.validB y m d then Cv.count y m d else 0), .int .i64 (if Cv.validB y m d then 0 else 1)]) ∧ Below w.heap.size w w' := by
  cases hv : Cv.validB y m d
  · have h := Lib.hid hv
    clear hv
    go_enter Tryz.func38, Tryz.ntmps38
    go_wp2_with (go_at_call 67; refine (r2_Valid _ _ _ _).mono ?_; rintro e w1 ⟨rfl, hb⟩; rw [h.out])
    go_ret2
    exact ⟨rfl, ((Below.refl _ _).alloc (Nat.le_refl _) _).trans (hb.mono (by simp))⟩
  · have h := Lib.hid hv
    obtain ⟨a1, a2, a3, a4, a5, a6⟩ := Cv.validB_iff.1 hv
    have a7 := Cv.mlen_bd y m
    have e1 := Cv.first_ahead ⟨a1, a2⟩ a3 a4 d
    have b1 := Cv.first_bd (y := y) a1 (by omega)
    have b2 := Cv.ahead_bd y (m - 1).toNat
    have b3 : (m - 1).toNat ≤ 11 := by omega
    have HY := Lib.hid (fun w => r2_YearDay y m d w hv)
    have HF := Lib.hid (fun w => r2_first y w a1 (by omega))
    clear hv
    rw [← e1]
    clear e1
    generalize Cv.ahead y (m - 1).toNat = a at *
    generalize Cv.first y = f at *
    obtain ⟨b11, b12⟩ : -719162 ≤ f ∧ f ≤ 2932897 := by omega
    obtain ⟨b21, b22⟩ : 0 ≤ a ∧ a ≤ 341 := by omega
    clear b1 b2 b3
    go_enter Tryz.func38, Tryz.ntmps38
    go_wp2_with (go_at_call 67; refine (r2_Valid _ _ _ _).mono ?_; rintro e w1 ⟨rfl, hb⟩; rw [h.out]; obtain ⟨hc1, hf1⟩ := bcell hb)
    have hs1 : w.heap.size < w1.heap.size := by have := hb.size; simp at this; omega
    have c0 : w1.cell? ⟨w.heap.size, 0, none⟩ = some (.int .i64 y) := (hc1 _ _ (by simp)).trans (by simp)
    have c1 : w1.cell? ⟨w.heap.size, 1, none⟩ = some (.int .i64 m) := (hc1 _ _ (by simp)).trans (by simp)
    have c2 : w1.cell? ⟨w.heap.size, 2, none⟩ = some (.int .i64 d) := (hc1 _ _ (by simp)).trans (by simp)
    have hb0 : Below w.heap.size w w1 := ((Below.refl _ _).alloc (Nat.le_refl _) _).trans (hb.mono (by simp))
    clear hc1 hf1
    go_region_held3 (fun w' => w'.cell? ⟨w.heap.size, 0, none⟩ = some (.int .i64 y) ∧ w'.cell? ⟨w.heap.size, 1, none⟩ = some (.int .i64 m) ∧ w'.cell? ⟨w.heap.size, 2, none⟩ = some (.int .i64 d) ∧ Below w.heap.size w w' ∧ w.heap.size < w'.heap.size) (first | exact ⟨c0, c1, c2, hb0.drew, by simp; omega⟩ | exact held3 (by assumption) hbd | go_keep)
      (first | (go_at_call 68; refine (HF.out _).mono ?_; rintro e w' ⟨rfl, hn⟩; have hbd := keepE hn; clear hn) | (go_at_call 69; refine (HY.out _).mono ?_; rintro e w' ⟨rfl, hbd⟩))
    have hz := (by assumption : _ ∧ _ ∧ _ ∧ Below w.heap.size w w' ∧ _).2.2.2.1
    go_wp2
    go_ret2
    exact ⟨ret2 (vint (by rw [IntWalk.i64_in (f + (d + a)) (by omega), IntWalk.i64_in _ (by omega)])) rfl, hz⟩

end Go.Proofs.YtjpjmlljgcpbkaaGreat

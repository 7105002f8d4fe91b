/- Joined by merge.py: FldP, Ref05, Ref05g, Ref05d, Ref05f. -/
import Derived.Test.YtdpbhjaicgkblaaGreatDoorGBase
import Derived.Test.YtdpbhjaicgkblaaGreatDoorJCivil
import Derived.Test.YtdpbhjaicgkblaaGreatDoorGZn
/- Plain: the reference's Fields (layer 5): a date counted down from a Julian one. No program in sight. -/
namespace Go.Proofs.YtdpbhjaicgkblaaGreatDoor.Cv
set_option linter.unusedSimpArgs false
set_option linter.unusedVariables false
def jlenF (y m : Int) : Int := if 1 ≤ y ∧ y ≤ 9999 ∧ 1 ≤ m ∧ m ≤ 12 then (if m = 2 then (if y % 4 = 0 then 29 else 28) else if m = 4 ∨ m = 6 ∨ m = 9 ∨ m = 11 then 30 else 31) else 0
def aheadJ (y : Int) : Nat → Int
 | 0 => 0
 | k + 1 => aheadJ y k + jlenF y (k + 1)
def moreJ (y : Int) : Int := if y % 4 = 0 ∧ leapB y = false then 1 else 0
theorem jlen_len {y m : Int} (h : 1 ≤ y ∧ y ≤ 9999) (h1 : 1 ≤ m) (h2 : m ≤ 12) : jlenF y m = lenF y m + (if m = 2 then moreJ y else 0) := by
 unfold jlenF moreJ
 rw [if_pos ⟨h.1, h.2, h1, h2⟩, lenF_in ⟨h.1, h.2, h1, h2⟩]
 unfold mlen
 rw [leapB_iff h]
 by_cases a : y % 4 = 0 <;> by_cases b : y % 100 = 0 <;> by_cases c : y % 400 = 0 <;> simp [a, b, c] <;> (split <;> omega)
theorem aheadJ_eq {y : Int} (h : 1 ≤ y ∧ y ≤ 9999) : ∀ {m : Nat}, m ≤ 12 → aheadJ y m = ahead y m + (if 2 ≤ m then moreJ y else 0)
 | 0, _ => rfl
 | k + 1, hm => by
  rw [aheadJ, ahead, aheadJ_eq h (by omega), jlen_len h (by omega) (by omega)]
  by_cases h1 : k = 1
  ·subst h1; simp; omega
  ·rw [if_neg (show ¬ ((k : Int) + 1 = 2) by omega)]
   by_cases h2 : 2 ≤ k
   ·rw [if_pos h2, if_pos (by omega)]; omega
   ·rw [if_neg h2, if_neg (by omega)]; omega
def firstJ (y : Int) : Int := -719162 - 2 + 365 * (y - 1) + (y - 1) / 4
theorem near {y : Int} (h : 0 ≤ y ∧ y ≤ 10000) : firstJ (y + 1) ≤ first (y + 2) := by
 unfold firstJ first
 rw [show y + 1 - 1 = y by omega, show y + 2 - 1 = y + 1 by omega]
 omega
theorem jul_year {n q r k : Int} (h : n = 1461 * q + r) (hr : 0 ≤ r ∧ r < 1461) (hk : 0 ≤ k ∧ k ≤ 3) (h1 : 365 * k ≤ r) (h2 : k < 3 → r < 365 * k + 365) : firstJ (4 * q + 1 + k) ≤ -719162 - 2 + n ∧ -719162 - 2 + n < firstJ (4 * q + 1 + k + 1) := by
 unfold firstJ
 rcases (show k = 0 ∨ k = 1 ∨ k = 2 ∨ k = 3 by omega) with rfl | rfl | rfl | rfl <;> omega
theorem first_one {y : Int} (h : 1 ≤ y ∧ y ≤ 9999) : count y 1 1 = first y := by
 have := first_ahead h (m := 1) (by omega) (by omega) 1
 simp [ahead] at this
 omega
end Go.Proofs.YtdpbhjaicgkblaaGreatDoor.Cv
/- The reference of layer 5: the Gregorian date of a day, counted down from a Julian one. -/
namespace Go.Proofs.YtdpbhjaicgkblaaGreatDoor
set_option linter.unusedSimpArgs false
set_option linter.unusedVariables false
open Go.ChangeShapes Go.WideShapes Go.ChangeAt Go.RowKit
theorem jyear {y : Int} (h : 1 ≤ y ∧ y ≤ 9999) : Cv.aheadJ y 12 = 365 + (if y % 4 = 0 then 1 else 0) := by
 rw [Cv.aheadJ_eq h (by omega), Cv.ahead_eq h (by omega)]
 unfold Cv.lp Cv.moreJ
 rw [Cv.leapB_iff h]
 by_cases a : y % 4 = 0 <;> by_cases b : y % 100 = 0 <;> by_cases c : y % 400 = 0 <;> simp [a, b, c] <;> omega
theorem tmod_zero (a b : Int) : (a.tmod b = 0) = (a % b = 0) := by
 apply propext
 rw [← Int.dvd_iff_tmod_eq_zero, Int.dvd_iff_emod_eq_zero]
theorem r05_Leap (y : Int) (hy : 1 ≤ y ∧ y ≤ 9999) (w : World) : Calls Tryz.prog 98 #[.int .i64 y] w fun e w' => e = .returned (.bool (decide (y % 4 = 0))) ∧ w' = w := by
 obtain ⟨h1, h2⟩ := hy
 go_enter Tryz.func98, Tryz.ntmps98
 go_wp2
 all_goals (go_ret; refine ⟨ret1 (vbool ?_), rfl⟩)
 all_goals ((try simp only [beq_iff_eq, beq_eq_false_iff_ne, tmod_zero] at *); rw [Bool.eq_iff_iff]; simp [tmod_zero]; (try omega))
theorem r05_leap (y : Int) (hy : 1 ≤ y ∧ y ≤ 9999) (w : World) : Calls Tryz.prog 97 #[.int .i64 y] w fun e w' => e = .returned (.bool (Cv.leapB y)) ∧ w' = w := by
 have h := Lib.hid (Cv.leapB_iff hy)
 obtain ⟨h1, h2⟩ := hy
 have e4 := tq_nonneg y 4 (by omega) (by omega)
 have e100 := tq_nonneg y 100 (by omega) (by omega)
 have e400 := tq_nonneg y 400 (by omega) (by omega)
 go_enter Tryz.func97, Tryz.ntmps97
 go_wp2
 all_goals (go_ret; refine ⟨ret1 (vbool ?_), rfl⟩; rw [h.out])
 all_goals (clear h; (try simp only [beq_iff_eq, beq_eq_false_iff_ne, tmod_zero] at *); rw [Bool.eq_iff_iff]; simp [tmod_zero]; omega)
theorem r05_Length (y m : Int) (w : World) : Calls Tryz.prog 96 #[.int .i64 y, .int .i64 m] w fun e w' => e = .returned (.int .i64 (Cv.jlenF y m)) ∧ w' = w := by
 go_enter Tryz.func96, Tryz.ntmps96
 go_wp2
 all_goals (go_ret; refine ⟨ret1 (vint ?_), rfl⟩; unfold Cv.jlenF; (try simp only [beq_iff_eq, beq_eq_false_iff_ne, tmod_zero] at *); repeat' split; all_goals first | rfl | omega | (simp_all [tmod_zero]; done) | (simp_all [tmod_zero]; omega))
end Go.Proofs.YtdpbhjaicgkblaaGreatDoor
/- The reference of layer 5: Gregorian. -/
namespace Go.Proofs.YtdpbhjaicgkblaaGreatDoor
set_option linter.unusedSimpArgs false
set_option linter.unusedVariables false
open Go.ChangeShapes Go.WideShapes Go.ChangeAt Go.RowKit
theorem jlen_bd {y m : Int} (h : 1 ≤ y ∧ y ≤ 9999) (h1 : 1 ≤ m) (h2 : m ≤ 12) : 28 ≤ Cv.jlenF y m ∧ Cv.jlenF y m ≤ 31 := by
 unfold Cv.jlenF
 rw [if_pos ⟨h.1, h.2, h1, h2⟩]
 split <;> split <;> omega
theorem jlen_bd0 (y m : Int) : 0 ≤ Cv.jlenF y m ∧ Cv.jlenF y m ≤ 31 := by
 unfold Cv.jlenF
 split <;> (try split) <;> (try split) <;> omega
theorem aheadJ_bd (y : Int) : ∀ m : Nat, 0 ≤ Cv.aheadJ y m ∧ Cv.aheadJ y m ≤ 31 * m
 | 0 => ⟨Int.le_refl _, by simp [Cv.aheadJ]⟩
 | k + 1 => by
  have := aheadJ_bd y k
  have := jlen_bd0 y ((k : Int) + 1)
  simp only [Cv.aheadJ]
  omega
theorem greg_end {y m : Int} (hy : 1 ≤ y ∧ y ≤ 9999) (hm : 1 ≤ m ∧ m ≤ 12) : Cv.first y + Cv.aheadJ y (m - 1).toNat - (if 2 < m then Cv.moreJ y else 0) = Cv.count y m 1 := by
 rw [← Cv.first_ahead hy hm.1 hm.2 1, Cv.aheadJ_eq hy (by omega)]
 by_cases h : 2 < m
 ·rw [if_pos (by omega), if_pos h]; omega
 ·rw [if_neg (by omega), if_neg h]; omega
set_option maxRecDepth 100000 in
set_option maxHeartbeats 2000000 in
theorem r05_Gregorian (y m : Int) (hy : 1 ≤ y ∧ y ≤ 9999) (hm : 1 ≤ m ∧ m ≤ 12) (w : World) : Calls Tryz.prog 76 #[.agg #[.int .i64 y, .int .i64 m, .int .i64 1]] w fun e w' => e = .returned (.tuple #[.int .i64 (Cv.count y m 1), .bool true]) ∧ Below w.heap.size w w' := by
 have HE := Lib.hid (greg_end hy hm)
 have HL := Lib.hid (fun k W => r05_Length y k W)
 have HLp := Lib.hid (fun W => r05_Leap y hy W)
 have HG := Lib.hid (fun W => r05_leap y hy W)
 have hlm := jlen_bd hy hm.1 hm.2
 have HM := Lib.hid (show Cv.moreJ y = if y % 4 = 0 ∧ Cv.leapB y = false then 1 else 0 from rfl)
 have hc := Cv.count_bd (y := y) (m := m) (d := 1) (by omega) hm (by omega)
 have hf := Cv.first_bd (y := y) hy.1 (by omega)
 have HF := Lib.hid (show Cv.first y = -719162 + 365 * (y - 1) + (y - 1) / 4 - (y - 1) / 100 + (y - 1) / 400 from rfl)
 have e4 := tq_nonneg (y - 1) 4 (by omega) (by omega)
 have e100 := tq_nonneg (y - 1) 100 (by omega) (by omega)
 have e400 := tq_nonneg (y - 1) 400 (by omega) (by omega)
 have hA := fun k => aheadJ_bd y k
 have hB := jlen_bd0 y
 obtain ⟨hy1, hy2⟩ := hy
 obtain ⟨hm1, hm2⟩ := hm
 have hB1 : Below w.heap.size w (w.alloc (.cells #[.int .i64 y, .int .i64 m, .int .i64 1] 110)) := (Below.refl _ _).alloc (Nat.le_refl _) _
 have HLm := Lib.hid (fun W => r05_Length y m W)
 obtain ⟨M, hM⟩ : ∃ M, M = m := ⟨m, rfl⟩
 generalize Cv.jlenF y m = J at *
 have dp : decide (0 < J) = true := decide_eq_true (by omega)
 have dq : decide (J < 1) = false := decide_eq_false (by omega)
 cases hl : Cv.leapB y
 all_goals
  rw [hl] at HG HM
  clear hl
  by_cases h2 : m = 2
 all_goals
  first
   | subst h2
   | (have d2 : (m == 2) = false := by rw [beq_eq_false_iff_ne]; exact h2)
  go_enter Tryz.func76, Tryz.ntmps76
  go_wp2_with (first
   | (go_at_call 96; refine (HLm.out _).mono ?_; rintro e w1 ⟨rfl, rfl⟩; clear HLm)
   | (go_at_call 97; refine (HG.out _).mono ?_; rintro e w1 ⟨rfl, rfl⟩))
  go_loop [6, 7] (fun v6 v7 => ∃ k : Nat, (k : Int) ≤ M - 1 ∧ v6 = .int .i64 (Cv.first y + Cv.aheadJ y k) ∧ v7 = .int .i64 ((k : Int) + 1)) (fun _ v7 => 20 - (intOf v7).toNat)
  case atStart => exact ⟨0, by omega, by rw [HF.out, show Cv.aheadJ y 0 = 0 from rfl, Int.add_zero], by go_num⟩
  case round =>
   obtain ⟨k, hk, rfl, rfl⟩ := hrel
   have hk1 := hA k
   have hk2 := hB ((k : Int) + 1)
   by_cases hlt : (k : Int) + 1 < M
   ·rw [hM] at hlt
    have hs : Cv.first y + Cv.aheadJ y (k + 1) = Cv.first y + Cv.aheadJ y k + Cv.jlenF y ((k : Int) + 1) := by rw [Cv.aheadJ]; omega
    clear HF HM HE hA hB
    go_wp2_with (go_at_call 96; refine (HL.out _ _).mono ?_; rintro e w' ⟨rfl, rfl⟩)
    go_round
    case rel => exact ⟨k + 1, by omega, by rw [hs], by go_num⟩
    case measure => simp [intOf]; omega
   ·rw [hM] at hlt
    have he := Lib.hid HE.out
    have hmm := Lib.hid HM.out
    change _ + Cv.aheadJ y (_ - 1 : Int).toNat - _ = _ at he
    rw [← hM, show (M - 1).toNat = k by omega] at he
    rw [hM] at he
    have he := Lib.hid he
    clear HF HM HE hA hB HL dp dq
    by_cases h3 : 2 < M
    all_goals by_cases hq : y % 4 = 0
    all_goals rw [hM] at h3
    all_goals try (exfalso; omega)
    all_goals
     first
      | (have d3 := decide_eq_true h3)
      | (have d3 := decide_eq_false h3)
     first
      | (have d4 : decide (y % 4 = 0) = true := decide_eq_true hq)
      | (have d4 : decide (y % 4 = 0) = false := decide_eq_false hq)
     rw [d4] at HLp
     go_wp2_with (first
      | (go_at_call 98; refine (HLp.out _).mono ?_; rintro e w1 ⟨rfl, rfl⟩)
      | (go_at_call 97; refine (HG.out _).mono ?_; rintro e w1 ⟨rfl, rfl⟩))
     all_goals
      go_ret2
      refine ⟨ret2 (vint ?_) rfl, hB1⟩
      have he := he.out
      have hmm := hmm.out
      clear HLp HG hB1
      simp [hq, h3] at he hmm
      omega
theorem r05_first (y : Int) (hy : 1 ≤ y ∧ y ≤ 9999) (w : World) : Calls Tryz.prog 75 #[.int .i64 y] w fun e w' => e = .returned (.int .i64 (Cv.first y)) ∧ Below w.heap.size w w' := by
 have H := Lib.hid (fun W => r05_Gregorian y 1 hy (by omega) W)
 rw [Cv.first_one hy] at H
 generalize Cv.first y = F at *
 go_enter Tryz.func75, Tryz.ntmps75
 go_wp2_with (go_at_call 76; refine (H.out _).mono ?_; rintro e w1 ⟨rfl, hb1⟩)
 go_ret
 exact ⟨rfl, hb1⟩
end Go.Proofs.YtdpbhjaicgkblaaGreatDoor
/- The reference of layer 5: Date, Fields. -/
namespace Go.Proofs.YtdpbhjaicgkblaaGreatDoor
set_option linter.unusedSimpArgs false
set_option linter.unusedVariables false
open Go.ChangeShapes Go.WideShapes Go.ChangeAt Go.RowKit
theorem first_le5 {y z : Int} (h : 1 ≤ y) (h1 : y ≤ z) : Cv.first y ≤ Cv.first z := by
 unfold Cv.first
 omega
theorem ahead_le5 (y : Int) {a : Nat} : ∀ b : Nat, a ≤ b → Cv.ahead y a ≤ Cv.ahead y b
 | 0, h => by
        obtain rfl : a = 0 := by omega
        exact Int.le_refl _
 | b + 1, h => by
  rcases Nat.lt_or_ge b a with h2 | h2
  ·obtain rfl : a = b + 1 := by omega
   exact Int.le_refl _
  ·have := ahead_le5 y b h2
   have := Cv.lenF_bd y ((b : Int) + 1)
   rw [Cv.ahead]
   omega
theorem count_behind5 {y m d M : Int} (h : Cv.validB y m d = true) (h1 : m < M) (h2 : M ≤ 12) : Cv.count y m d < Cv.count y M 1 := by
 obtain ⟨a1, a2, a3, a4, a5, a6⟩ := Cv.validB_iff.1 h
 rw [← Cv.first_ahead ⟨a1, a2⟩ a3 a4 d, ← Cv.first_ahead ⟨a1, a2⟩ (by omega) h2 1]
 have e : Cv.ahead y ((m - 1).toNat + 1) = Cv.ahead y (m - 1).toNat + Cv.lenF y (((m - 1).toNat : Int) + 1) := rfl
 rw [show (((m - 1).toNat : Nat) : Int) + 1 = m by omega, Cv.lenF_in ⟨a1, a2, a3, a4⟩] at e
 have := ahead_le5 y (M - 1).toNat (show (m - 1).toNat + 1 ≤ (M - 1).toNat by omega)
 omega
theorem count_d5 {y m d : Int} : Cv.count y m d = Cv.count y m 1 + d - 1 := by
 unfold Cv.count Cv.cnt
 split <;> omega
theorem julY {D q r K : Int} (hD : -719162 ≤ D ∧ D < 2932897) (h : D - (-719164) = 1461 * q + r) (hr : 0 ≤ r ∧ r < 1461) (hk : 0 ≤ K ∧ K ≤ 3) (h1 : 365 * K ≤ r) (h2 : K < 3 → r < 365 * K + 365) : (1 ≤ 4 * q + 1 + K ∧ 4 * q + 1 + K ≤ 9999) ∧ D < Cv.firstJ (4 * q + 1 + K + 1) ∧ r - 365 * K < Cv.aheadJ (4 * q + 1 + K) 12 := by
 have hj := Cv.jul_year (n := D - (-719164)) h hr hk h1 h2
 have e1 : 1 ≤ 4 * q + 1 + K ∧ 4 * q + 1 + K ≤ 9999 := by
  refine ⟨by omega, ?_⟩
  have := hj.1
  unfold Cv.firstJ at this
  omega
 refine ⟨e1, by omega, ?_⟩
 rw [jyear e1]
 rcases (show K = 0 ∨ K = 1 ∨ K = 2 ∨ K = 3 by omega) with rfl | rfl | rfl | rfl <;> (split <;> omega)
theorem r05_Right (D : Int) (hD : -719162 ≤ D ∧ D < 2932897) (w : World) : Calls Tryz.prog 95 #[.int .i64 D] w fun e w' => e = .returned (.bool true) ∧ w' = w := by
 have d1 : decide (-719162 ≤ D) = true := decide_eq_true hD.1
 have d2 : decide (D < 2932897) = true := decide_eq_true hD.2
 go_enter Tryz.func95, Tryz.ntmps95
 go_wp2
 go_ret
 exact ⟨ret1 (vbool (by first | rfl | simp [hD])), rfl⟩
set_option maxRecDepth 100000 in
set_option maxHeartbeats 2000000 in
theorem r05_Date (D : Int) (hD : -719162 ≤ D ∧ D < 2932897) (w : World) : Calls Tryz.prog 74 #[.int .i64 D] w fun e w' => (∃ Y m d, (1 ≤ Y ∧ Y ≤ 9999) ∧ D < Cv.firstJ (Y + 1) ∧ e = .returned (.tuple #[.agg #[.int .i64 Y, .int .i64 m, .int .i64 d], .int .i64 0])) ∧ Below w.heap.size w w' := by
 have hq := tq_nonneg (D - (-719164)) 1461 (by decide) (by omega)
 obtain ⟨q, hqe⟩ : ∃ q, (D - (-719164)) / 1461 = q := ⟨_, rfl⟩
 obtain ⟨r, hre⟩ : ∃ r, (D - (-719164)) % 1461 = r := ⟨_, rfl⟩
 rw [hqe, hre] at hq
 obtain ⟨K, hK⟩ : ∃ K : Int, (0 ≤ K ∧ K ≤ 3) ∧ 365 * K ≤ r ∧ (K < 3 → r < 365 * K + 365) := by
  rcases (show r < 365 ∨ (365 ≤ r ∧ r < 730) ∨ (730 ≤ r ∧ r < 1095) ∨ 1095 ≤ r by omega) with h | h | h | h
  ·exact ⟨0, by omega⟩
  ·exact ⟨1, by omega⟩
  ·exact ⟨2, by omega⟩
  ·exact ⟨3, by omega⟩
 obtain ⟨hK1, hK2, hK3⟩ := hK
 obtain ⟨hY, hF, hR⟩ := julY (q := q) (r := r) (K := K) hD (by omega) (by omega) hK1 hK2 hK3
 have hq1 : 0 ≤ q ∧ q ≤ 2500 := by omega
 have hr1 : 0 ≤ r ∧ r < 1461 := by omega
 have HF := Lib.hid hF
 have HR := Lib.hid hR
 have HRt := Lib.hid (fun W => r05_Right D hD W)
 have HL := Lib.hid (fun y k W => r05_Length y k W)
 have HA := fun y k => aheadJ_bd y k
 have HB := jlen_bd0
 obtain ⟨hD1, hD2⟩ := hD
 obtain ⟨hK0, hK4⟩ := hK1
 clear hF hR
 go_enter Tryz.func74, Tryz.ntmps74
 go_wp2_with (go_at_call 95; refine (HRt.out _).mono ?_; rintro e w1 ⟨rfl, rfl⟩)
 go_loop [4, 5, 6] (fun v4 v5 v6 => ∃ k : Int, 0 ≤ k ∧ k ≤ K ∧ v4 = .int .i64 (r - 365 * k) ∧ v5 = .int .i64 (4 * q + 1 + k) ∧ v6 = .int .i64 k) (fun _ _ v6 => (20 - intOf v6).toNat)
 case atStart => exact ⟨0, by omega, by omega, by go_num, by go_num, rfl⟩
 case round =>
  obtain ⟨k, hk1, hk2, rfl, rfl, rfl⟩ := hrel
  by_cases hlt : k < K
  ·have d1 : decide (k < 3) = true := decide_eq_true (by omega)
   have d2 : decide (365 ≤ r - 365 * k) = true := decide_eq_true (by omega)
   go_wp2
   go_round
   case rel => exact ⟨k + 1, by omega, by omega, by go_num, by go_num, by go_num⟩
   case measure => simp [intOf]; omega
  ·obtain rfl : k = K := by omega
   generalize hyy : 4 * q + 1 + k = Y at *
   generalize hrr : r - 365 * k = R at *
   have hR0 : 0 ≤ R ∧ R < 366 := by omega
   have HLY := Lib.hid (fun j W => HL.out Y j W)
   have HAY := HA Y
   have HBY := HB Y
   have HSY := Lib.hid (fun j : Nat => show Cv.aheadJ Y (j + 1) = Cv.aheadJ Y j + Cv.jlenF Y ((j : Int) + 1) from rfl)
   clear HL HA HB hqe hre
   by_cases h3 : k < 3
   all_goals
    first
     | (
       have d1 : decide (k < 3) = true := decide_eq_true h3
       have d2 : decide (365 ≤ R) = false := decide_eq_false (by omega))
     | (have d1 : decide (k < 3) = false := decide_eq_false h3)
    go_wp2
    go_loop [4, 7] (fun v4 v7 => ∃ j : Nat, j ≤ 11 ∧ Hid (Cv.aheadJ Y j ≤ R) ∧ v4 = .int .i64 (R - Cv.aheadJ Y j) ∧ v7 = .int .i64 ((j : Int) + 1)) (fun _ v7 => (20 - intOf v7).toNat)
    case atStart => exact ⟨0, by omega, by show (0 : Int) ≤ R; omega, by rw [show Cv.aheadJ Y 0 = 0 from rfl, Int.sub_zero], by go_num⟩
    case round =>
     obtain ⟨j, hj, HJ, rfl, rfl⟩ := hrel
     have ha := HAY j
     have hl := HBY ((j : Int) + 1)
     have hs := HSY.out j
     have hj0 := HJ.out
     by_cases hge : Cv.jlenF Y ((j : Int) + 1) ≤ R - Cv.aheadJ Y j
     ·have hj2 : j < 11 := by
       by_cases h11 : j = 11
       ·subst h11
        have := HR.out
        exfalso
        change R < Cv.aheadJ Y (11 + 1) at this
        omega
       ·omega
      have HJ2 : Hid (Cv.aheadJ Y (j + 1) ≤ R) := by show _ ≤ _; omega
      have e2 : R - Cv.aheadJ Y (j + 1) = R - Cv.aheadJ Y j - Cv.jlenF Y ((j : Int) + 1) := by omega
      have dn := decide_eq_true hge
      have HL2 := Lib.hid (fun W => HLY.out ((j : Int) + 1) W)
      clear hs hge HJ HSY HLY HAY HBY
      generalize Cv.jlenF Y ((j : Int) + 1) = L at *
      go_wp2_with (go_at_call 96; refine (HL2.out _).mono ?_; rintro e w' ⟨rfl, rfl⟩)
      go_round
      case rel => exact ⟨j + 1, by omega, HJ2, by rw [e2], by go_num⟩
      case measure => simp [intOf]; omega
     ·have dn := decide_eq_false hge
      have HL2 := Lib.hid (fun W => HLY.out ((j : Int) + 1) W)
      clear hs hge HJ HSY HLY HAY HBY
      generalize Cv.jlenF Y ((j : Int) + 1) = L at *
      go_wp2_with (go_at_call 96; refine (HL2.out _).mono ?_; rintro e w' ⟨rfl, rfl⟩)
      exact bodyPost_ret (v := .tuple #[.agg #[.int .i64 Y, .int .i64 ((j : Int) + 1), .int .i64 (R - Cv.aheadJ Y j + 1)], .int .i64 0]) (by simp [results, Tryz.results74, go_sem]) rfl ⟨⟨_, _, _, hY, HF.out, rfl⟩, (Below.refl _ _).alloc (Nat.le_refl _) _⟩
end Go.Proofs.YtdpbhjaicgkblaaGreatDoor
/- The reference of layer 5: Fields. -/
namespace Go.Proofs.YtdpbhjaicgkblaaGreatDoor
set_option linter.unusedSimpArgs false
set_option linter.unusedVariables false
open Go.ChangeShapes Go.WideShapes Go.ChangeAt Go.RowKit
theorem t3_set {W : World} {B : Nat} {T : TypeId} {a b c : Value} (h : Blk W B #[a, b, c] T) (x y z : Value) : Blk (((W.setCell ⟨B, 0, none⟩ x).setCell ⟨B, 1, none⟩ y).setCell ⟨B, 2, none⟩ z) B #[x, y, z] T := by
 unfold Blk at *
 simp [World.setCell, Array.getElem?_modify, h]
theorem t3_below {w0 w : World} {B q : Nat} (h : Below B w0 w) (hq : B ≤ q) (x y z : Value) : Below B w0 (((w.setCell ⟨q, 0, none⟩ x).setCell ⟨q, 1, none⟩ y).setCell ⟨q, 2, none⟩ z) :=
 ((h.setCell (p := ⟨q, 0, none⟩) hq x).setCell (p := ⟨q, 1, none⟩) hq y).setCell (p := ⟨q, 2, none⟩) hq z
set_option maxRecDepth 100000 in
set_option maxHeartbeats 2000000 in
theorem r05_Fields (y m d : Int) (hv : Cv.validB y m d = true) (hf1 : Cv.first y ≤ Cv.count y m d) (hf2 : Cv.count y m d < Cv.first (y + 1)) (hD : -719162 ≤ Cv.count y m d ∧ Cv.count y m d < 2932897) (w : World) : Calls Tryz.prog 53 #[.int .i64 (Cv.count y m d)] w fun e w' => e = .returned (.agg #[.int .i64 y, .int .i64 m, .int .i64 d]) ∧ Below w.heap.size w w' := by
 obtain ⟨h1, h2, h3, h4, h5, h6⟩ := Cv.validB_iff.1 hv
 have HD := Lib.hid (fun W => r05_Date _ hD W)
 have HF := Lib.hid (fun z (a : 1 ≤ z ∧ z ≤ 9999) W => r05_first z a W)
 have HG := Lib.hid (fun M (a : 1 ≤ M ∧ M ≤ 12) W => r05_Gregorian y M ⟨h1, h2⟩ a W)
 have HB := Lib.hid (fun M (a : m < M) (b : M ≤ 12) => count_behind5 hv a b)
 have HC := Lib.hid (count_d5 (y := y) (m := m) (d := d))
 have HLE := Lib.hid (fun z (a : y + 1 ≤ z) => first_le5 (y := y + 1) (by omega) a)
 have hcb := fun M (a : 1 ≤ M ∧ M ≤ 12) => Cv.count_bd (y := y) (m := M) (d := 1) (by omega) a (by omega)
 have hfb := fun z (a : 1 ≤ z) (b : z ≤ 10000) => Cv.first_bd a b
 have hml := Cv.mlen_bd y m
 generalize Cv.count y m d = D at *
 clear hv
 have b0 := Blk.new w #[.int .i64 0, .int .i64 0, .int .i64 0] 110
 have hB1 : Below w.heap.size w (w.alloc (.cells #[.int .i64 0, .int .i64 0, .int .i64 0] 110)) := (Below.refl _ _).alloc (Nat.le_refl _) _
 go_enter Tryz.func53, Tryz.ntmps53
 go_wp2_with fail
 generalize w.alloc (.cells #[.int .i64 0, .int .i64 0, .int .i64 0] 110) = W at *
 refine (HD.out _).mono ?_
 rintro e w1 ⟨⟨Y, m0, d0, hY, hFY, rfl⟩, hb1⟩
 have hnr := Cv.near (y := Y) (by omega)
 have hYy : y ≤ Y + 1 := by
  by_cases h : Y + 2 ≤ y
  ·have := first_le5 (y := Y + 2) (by omega) h
   omega
  ·omega
 have b1 := b0.below hb1 b0.lt
 have hB2 := hB1.trans (hb1.mono hB1.size)
 clear hb1 b0 hB1 HD hnr hFY hD
 go_wp2_with fail
 have b2 := b1.alloc (.cells #[.int .i64 Y, .int .i64 m0, .int .i64 d0] 110)
 have hB3 := hB2.alloc hB2.size (.cells #[.int .i64 Y, .int .i64 m0, .int .i64 d0] 110)
 generalize w1.alloc (.cells #[.int .i64 Y, .int .i64 m0, .int .i64 d0] 110) = W2 at *
 have hlt := b2.lt
 go_loopw [5] (fun v5 wr => ∃ z : Int, y ≤ z ∧ z ≤ 10000 ∧ v5 = .int .i64 z ∧ Below W2.heap.size W2 wr) (fun v5 _ => (intOf v5).toNat)
 case atStart => exact ⟨Y + 1, by omega, by omega, rfl, Below.refl _ _⟩
 case round =>
  obtain ⟨z, hz1, hz2, rfl, hbr⟩ := hrel
  by_cases h9 : 9999 < z
  ·have d9 := decide_eq_true h9
   go_wp2
   go_roundw
   case rel => exact ⟨z - 1, by omega, by omega, by go_num, hbr⟩
   case measure => simp [intOf]; omega
  have d9 := decide_eq_false h9
  have hfz := hfb z (by omega) (by omega)
  have HFz := Lib.hid (fun W => HF.out z (by omega) W)
  by_cases hlt2 : y < z
  ·have hgt : D < Cv.first z := by have := HLE.out z (by omega); omega
   have dg := decide_eq_true hgt
   clear HLE
   generalize Cv.first z = F at *
   go_wp2_with (go_at_call 75; refine (HFz.out _).mono ?_; rintro e w3 ⟨rfl, hb3⟩)
   go_roundw
   case rel => exact ⟨z - 1, by omega, by omega, by go_num, hbr.trans (hb3.mono hbr.size)⟩
   case measure => simp [intOf]; omega
  obtain rfl : y = z := by omega
  have dg : decide (D < Cv.first y) = false := decide_eq_false (by omega)
  clear HLE
  generalize Cv.first y = F at *
  go_wp2_with (go_at_call 75; refine (HFz.out _).mono ?_; rintro e w3 ⟨rfl, hb3⟩)
  have hbq := hbr.trans (hb3.mono hbr.size)
  clear hbr hb3
  generalize hq : wr = wq at *
  clear hq HFz
  go_loopw [6] (fun v6 wr => ∃ M : Int, m ≤ M ∧ M ≤ 12 ∧ v6 = .int .i64 M ∧ Below W2.heap.size W2 wr) (fun v6 _ => (intOf v6).toNat)
  case atStart => exact ⟨12, by omega, by omega, rfl, hbq⟩
  case round =>
   obtain ⟨M, hM1, hM2, rfl, hbr⟩ := hrel
   have HGM := Lib.hid (fun W => HG.out M (by omega) W)
   have hcm := hcb M (by omega)
   by_cases hlt3 : m < M
   ·have hgt := HB.out M hlt3 hM2
    have dg2 : decide (Cv.count y M 1 ≤ D) = false := decide_eq_false (by omega)
    generalize Cv.count y M 1 = C at *
    go_wp2_with (go_at_call 76; refine (HGM.out _).mono ?_; rintro e w4 ⟨rfl, hb4⟩)
    go_roundw
    case rel => exact ⟨M - 1, by omega, by omega, by go_num, hbr.trans (hb4.mono hbr.size)⟩
    case measure => simp [intOf]; omega
   obtain rfl : m = M := by omega
   have dg2 : decide (Cv.count y m 1 ≤ D) = true := decide_eq_true (by have := HC.out; omega)
   have hde : D - Cv.count y m 1 + 1 = d := by have := HC.out; omega
   clear HC
   generalize Cv.count y m 1 = C at *
   go_wp2_with (go_at_call 76; refine (HGM.out _).mono ?_; rintro e w4 ⟨rfl, hb4⟩; have hb5 := hbr.trans (hb4.mono hbr.size); have b4 := b2.below hb5 hlt; have c0 := b4.cell 0 rfl; have c1 := b4.cell 1 rfl; have c2 := b4.cell 2 rfl; have cf := fun i => b4.frozen i; have cl := b4.lt)
   have s3 := t3_set b4 (.int .i64 y) (.int .i64 m) (.int .i64 d)
   have s0 := s3.cell 0 rfl
   have s1 := s3.cell 1 rfl
   have s2 := s3.cell 2 rfl
   exact bodyPost_ret (v := .agg #[.int .i64 y, .int .i64 m, .int .i64 d]) (by simp [results, Tryz.results53, go_sem, s0, s1, s2]) rfl ⟨rfl, t3_below (hB3.trans (hb5.mono hB3.size)) (Nat.le_refl _) (.int .i64 y) (.int .i64 m) (.int .i64 d)⟩
end Go.Proofs.YtdpbhjaicgkblaaGreatDoor

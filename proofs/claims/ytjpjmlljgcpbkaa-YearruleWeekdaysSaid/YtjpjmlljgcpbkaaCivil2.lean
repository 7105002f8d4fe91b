/- Contracts of package civil: Date, Nth. -/
import Derived.Test.YtjpjmlljgcpbkaaYday1
namespace Go.Proofs.Ytjpjmlljgcpbkaa
set_option linter.unusedSimpArgs false
set_option linter.unusedVariables false
open Go.ChangeShapes Go.WideShapes Go.ChangeAt Go.RowKit

theorem first_mono {a b : Int} (h : 1 ≤ a) (hab : a ≤ b) : Cv.first a + 365 * (b - a) ≤ Cv.first b := by unfold Cv.first; omega
theorem ahead_mono (y : Int) {a b : Nat} (h : a ≤ b) : Cv.ahead y a ≤ Cv.ahead y b := by
  induction b with
  | zero =>
    obtain rfl : a = 0 := by omega
    simp
  | succ b ih =>
    rcases Nat.lt_or_eq_of_le h with h1 | h1
    · have h2 := ih (by omega)
      have h3 := Cv.lenF_bd y ((b : Int) + 1)
      show _ ≤ Cv.ahead y b + Cv.lenF y ((b : Int) + 1)
      omega
    · subst h1; exact Int.le_refl _
theorem count_one {y m : Int} (h : 1 ≤ y ∧ y ≤ 9999) (h1 : 1 ≤ m) (h2 : m ≤ 12) (d : Int) : Cv.count y m d = Cv.first y + Cv.ahead y (m - 1).toNat + d - 1 := by
  have := Cv.first_ahead h h1 h2 d; omega
theorem day_year {y m d : Int} (h : Cv.validB y m d = true) : Cv.first y ≤ Cv.count y m d ∧ Cv.count y m d < Cv.first (y + 1) ∧ Cv.first (y + 1) ≤ -719162 + 366 * y := by
  obtain ⟨a, b, c, e, f, g⟩ := Cv.validB_iff.1 h
  have e1 := count_one ⟨a, b⟩ c e d
  have h3 := Cv.ahead_bd y (m - 1).toNat
  have h4 := Cv.lenF_in (y := y) (m := m) ⟨a, b, c, e⟩
  have h5 := ahead_mono y (show (m - 1).toNat + 1 ≤ 12 by omega)
  have h6 : Cv.ahead y ((m - 1).toNat + 1) = Cv.ahead y (m - 1).toNat + Cv.lenF y m := by
    show Cv.ahead y (m - 1).toNat + Cv.lenF y (((m - 1).toNat : Int) + 1) = _
    rw [show (((m - 1).toNat : Nat) : Int) + 1 = m by omega]
  have h7 := Cv.ahead_eq ⟨a, b⟩ (m := 12) (by omega)
  have h8 := Cv.first_succ ⟨a, b⟩
  have h9 := Cv.lp_bd y
  simp at h7
  refine ⟨by omega, by omega, by unfold Cv.first; omega⟩
/-- whether a later year has begun -/
theorem year_test {y m d z : Int} (h : Cv.validB y m d = true) (hz : 1 ≤ z) (hz2 : z ≤ y) (hz3 : z < 9999) : (Cv.count (z + 1) 1 1 ≤ Cv.count y m d) ↔ z < y := by
  have hy := (Cv.validB_iff.1 h)
  have e := count_one (y := z + 1) (m := 1) ⟨by omega, by omega⟩ (by omega) (by omega) 1
  have h1 := day_year h
  have e2 : Cv.ahead (z + 1) ((1 : Int) - 1).toNat = 0 := rfl
  rw [e2] at e
  constructor
  · intro hle
    by_cases hc : z < y
    · exact hc
    · obtain rfl : z = y := by omega
      omega
  · intro hlt
    have := first_mono (a := z + 1) (b := y) (by omega) (by omega)
    omega
/-- whether a later month has begun -/
theorem month_test {y m d z : Int} (h : Cv.validB y m d = true) (hz : 1 ≤ z) (hz2 : z ≤ m) (hz3 : z < 12) : (Cv.count y (z + 1) 1 ≤ Cv.count y m d) ↔ z < m := by
  obtain ⟨a, b, c, e, f, g⟩ := Cv.validB_iff.1 h
  have e1 := count_one ⟨a, b⟩ (m := z + 1) (by omega) (by omega) 1
  have e2 := count_one ⟨a, b⟩ c e d
  rw [show (z + 1 - 1).toNat = z.toNat by omega] at e1
  constructor
  · intro hle
    by_cases hc : z < m
    · exact hc
    · obtain rfl : z = m := by omega
      have h4 := Cv.lenF_in (y := y) (m := z) ⟨a, b, c, e⟩
      have h6 : Cv.ahead y z.toNat = Cv.ahead y (z - 1).toNat + Cv.lenF y z := by
        rw [show z.toNat = (z - 1).toNat + 1 by omega]
        show Cv.ahead y (z - 1).toNat + Cv.lenF y (((z - 1).toNat : Int) + 1) = _
        rw [show (((z - 1).toNat : Nat) : Int) + 1 = z by omega]
      omega
  · intro hlt
    have := ahead_mono y (show z.toNat ≤ (m - 1).toNat by omega)
    omega
theorem count_day (y m d : Int) : Cv.count y m d - Cv.count y m 1 + 1 = d := by unfold Cv.count Cv.cnt; split <;> omega
theorem count_last (y m d : Int) : Cv.count y m 1 + d - 1 = Cv.count y m d := by unfold Cv.count Cv.cnt; split <;> omega

set_option maxRecDepth 100000 in
set_option maxHeartbeats 2000000 in
theorem civil_Date (y m d : Int) (w : World) (hv : Cv.validB y m d = true) :
    Calls Try.prog 11 #[.int .i64 (Cv.count y m d)] w fun e w' => e = .returned (.tuple #[.agg #[.int .i64 y, .int .i64 m, .int .i64 d], .int .i64 0]) ∧ Below w.heap.size w w' := by
  have hin := Cv.count_in hv
  have hi := Lib.hid (show Cv.insideB (Cv.count y m d) = true from decide_eq_true hin)
  have hyv := Cv.validB_iff.1 hv
  obtain ⟨a1, a2, a3, a4, a5, a6⟩ := hyv
  have hml := Cv.mlen_bd y m
  have hdy := day_year hv
  have HY := Lib.hid (fun z h1 h2 h3 => year_test (z := z) hv h1 h2 h3)
  have HM := Lib.hid (fun z h1 h2 h3 => month_test (z := z) hv h1 h2 h3)
  have HD := Lib.hid (count_day y m d)
  obtain ⟨c1, c2⟩ := hin
  obtain ⟨D, hD⟩ : ∃ D, Cv.count y m d = D := ⟨_, rfl⟩
  rw [hD] at hi HY HM HD c1 c2 hdy ⊢
  have g1 : (D - -719162) / 366 + 1 ≤ y := by omega
  have g2 : 0 ≤ D - -719162 := by omega
  clear hv hD hml hdy
  go_enter Try.func11, Try.ntmps11
  go_wp2_with (go_at_call 28; refine (civil_inside _ _).mono ?_; rintro e w' ⟨rfl, rfl⟩; rw [hi.out])
  go_loop [4] (fun t => ∃ z : Int, 1 ≤ z ∧ z ≤ y ∧ t = .int .i64 z) (fun t => (9999 - intOf t).toNat)
  case atStart => exact ⟨_, by omega, by omega, rfl⟩
  case round =>
    obtain ⟨z, z1, z2, rfl⟩ := hrel
    by_cases hlt : z < y
    · have hz : z < 9999 := by omega
      have ht := (HY.out z z1 z2 hz).2 hlt
      go_wp2_with (go_at_call 29; refine (civil_count _ _ _ _ ⟨by omega, by omega⟩ ⟨by omega, by omega⟩ ⟨by omega, by omega⟩ (by omega)).mono ?_; rintro e w' ⟨rfl, rfl⟩)
      go_round
      case rel => exact ⟨z + 1, by omega, by omega, rfl⟩
      case measure => simp [intOf]; omega
    · obtain rfl : z = y := by omega
      have ht : z < 9999 → ¬ Cv.count (z + 1) 1 1 ≤ D := fun h => fun h2 => hlt ((HY.out z z1 z2 h).1 h2)
      clear g1 g2 hlt
      by_cases h9 : z < 9999
      · have ht2 := ht h9
        have ht3 : decide (Cv.count (z + 1) 1 1 ≤ D) = false := decide_eq_false ht2
        clear ht
        go_wp2_with (go_at_call 29; refine (civil_count _ _ _ _ ⟨by omega, by omega⟩ ⟨by omega, by omega⟩ ⟨by omega, by omega⟩ (by omega)).mono ?_; rintro e w' ⟨rfl, rfl⟩)
        go_loop [5] (fun t => ∃ q : Int, 1 ≤ q ∧ q ≤ m ∧ t = .int .i64 q) (fun t => (12 - intOf t).toNat)
        case atStart => exact ⟨1, by omega, by omega, rfl⟩
        case round =>
          obtain ⟨q, q1, q2, rfl⟩ := hrel
          by_cases hlt : q < m
          · have hz : q < 12 := by omega
            have ht := (HM.out q q1 q2 hz).2 hlt
            go_wp2_with (go_at_call 29; refine (civil_count _ _ _ _ ⟨by omega, by omega⟩ ⟨by omega, by omega⟩ ⟨by omega, by omega⟩ (by omega)).mono ?_; rintro e w' ⟨rfl, rfl⟩)
            go_round
            case rel => exact ⟨q + 1, by omega, by omega, rfl⟩
            case measure => simp [intOf]; omega
          · obtain rfl : q = m := by omega
            obtain ⟨cb1, cb2⟩ := Cv.count_bd (y := z) (m := q) (d := 1) ⟨by omega, by omega⟩ ⟨by omega, by omega⟩ ⟨by omega, by omega⟩
            by_cases h12 : q < 12
            · have ht := fun h => hlt ((HM.out q q1 q2 h12).1 h)
              clear hlt
              go_wp2_with (go_at_call 29; refine (civil_count _ _ _ _ ⟨by omega, by omega⟩ ⟨by omega, by omega⟩ ⟨by omega, by omega⟩ (by omega)).mono ?_; rintro e w' ⟨rfl, rfl⟩)
              exact bodyPost_ret (v := .tuple #[.agg #[.int .i64 z, .int .i64 q, .int .i64 (D - Cv.count z q 1 + 1)], .int .i64 0]) (by simp [results, Try.results11, go_sem]) rfl ⟨ret2 (by rw [HD.out]) rfl, (Below.refl _ _).alloc (Nat.le_refl _) _⟩
            · clear hlt
              go_wp2_with (go_at_call 29; refine (civil_count _ _ _ _ ⟨by omega, by omega⟩ ⟨by omega, by omega⟩ ⟨by omega, by omega⟩ (by omega)).mono ?_; rintro e w' ⟨rfl, rfl⟩)
              exact bodyPost_ret (v := .tuple #[.agg #[.int .i64 z, .int .i64 q, .int .i64 (D - Cv.count z q 1 + 1)], .int .i64 0]) (by simp [results, Try.results11, go_sem]) rfl ⟨ret2 (by rw [HD.out]) rfl, (Below.refl _ _).alloc (Nat.le_refl _) _⟩
      · clear ht
        go_wp2_with (go_at_call 29; refine (civil_count _ _ _ _ ⟨by omega, by omega⟩ ⟨by omega, by omega⟩ ⟨by omega, by omega⟩ (by omega)).mono ?_; rintro e w' ⟨rfl, rfl⟩)
        go_loop [5] (fun t => ∃ q : Int, 1 ≤ q ∧ q ≤ m ∧ t = .int .i64 q) (fun t => (12 - intOf t).toNat)
        case atStart => exact ⟨1, by omega, by omega, rfl⟩
        case round =>
          obtain ⟨q, q1, q2, rfl⟩ := hrel
          by_cases hlt : q < m
          · have hz : q < 12 := by omega
            have ht := (HM.out q q1 q2 hz).2 hlt
            go_wp2_with (go_at_call 29; refine (civil_count _ _ _ _ ⟨by omega, by omega⟩ ⟨by omega, by omega⟩ ⟨by omega, by omega⟩ (by omega)).mono ?_; rintro e w' ⟨rfl, rfl⟩)
            go_round
            case rel => exact ⟨q + 1, by omega, by omega, rfl⟩
            case measure => simp [intOf]; omega
          · obtain rfl : q = m := by omega
            obtain ⟨cb1, cb2⟩ := Cv.count_bd (y := z) (m := q) (d := 1) ⟨by omega, by omega⟩ ⟨by omega, by omega⟩ ⟨by omega, by omega⟩
            by_cases h12 : q < 12
            · have ht := fun h => hlt ((HM.out q q1 q2 h12).1 h)
              clear hlt
              go_wp2_with (go_at_call 29; refine (civil_count _ _ _ _ ⟨by omega, by omega⟩ ⟨by omega, by omega⟩ ⟨by omega, by omega⟩ (by omega)).mono ?_; rintro e w' ⟨rfl, rfl⟩)
              exact bodyPost_ret (v := .tuple #[.agg #[.int .i64 z, .int .i64 q, .int .i64 (D - Cv.count z q 1 + 1)], .int .i64 0]) (by simp [results, Try.results11, go_sem]) rfl ⟨ret2 (by rw [HD.out]) rfl, (Below.refl _ _).alloc (Nat.le_refl _) _⟩
            · clear hlt
              go_wp2_with (go_at_call 29; refine (civil_count _ _ _ _ ⟨by omega, by omega⟩ ⟨by omega, by omega⟩ ⟨by omega, by omega⟩ (by omega)).mono ?_; rintro e w' ⟨rfl, rfl⟩)
              exact bodyPost_ret (v := .tuple #[.agg #[.int .i64 z, .int .i64 q, .int .i64 (D - Cv.count z q 1 + 1)], .int .i64 0]) (by simp [results, Try.results11, go_sem]) rfl ⟨ret2 (by rw [HD.out]) rfl, (Below.refl _ _).alloc (Nat.le_refl _) _⟩

end Go.Proofs.Ytjpjmlljgcpbkaa

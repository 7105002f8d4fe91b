/- Joined by merge.py: Civil2, ZoneW1. -/
import Derived.Test.YtdpbhjaicgkblaaGreatDoorGYday
import Derived.Test.YtdpbhjaicgkblaaGreatDoorGZoneP
/- Contracts of package civil: Date, Nth. -/
namespace Go.Proofs.YtdpbhjaicgkblaaGreatDoor
set_option linter.unusedSimpArgs false
set_option linter.unusedVariables false
open Go.ChangeShapes Go.WideShapes Go.ChangeAt Go.RowKit
theorem first_mono {a b : Int} (h : 1 ≤ a) (hab : a ≤ b) : Cv.first a + 365 * (b - a) ≤ Cv.first b := by unfold Cv.first; omega
theorem ahead_mono (y : Int) {a b : Nat} (h : a ≤ b) : Cv.ahead y a ≤ Cv.ahead y b := by
 induction b with
 | zero =>
  obtain rfl : a = 0 := by omega
  simp
 | succ b ih =>
  rcases Nat.lt_or_eq_of_le h with h1 | h1
  ·have h2 := ih (by omega)
   have h3 := Cv.lenF_bd y ((b : Int) + 1)
   show _ ≤ Cv.ahead y b + Cv.lenF y ((b : Int) + 1)
   omega
  ·subst h1; exact Int.le_refl _
theorem count_one {y m : Int} (h : 1 ≤ y ∧ y ≤ 9999) (h1 : 1 ≤ m) (h2 : m ≤ 12) (d : Int) : Cv.count y m d = Cv.first y + Cv.ahead y (m - 1).toNat + d - 1 := by
 have := Cv.first_ahead h h1 h2 d; omega
theorem day_year {y m d : Int} (h : Cv.validB y m d = true) : Cv.first y ≤ Cv.count y m d ∧ Cv.count y m d < Cv.first (y + 1) ∧ Cv.first (y + 1) ≤ -719162 + 366 * y := by
 obtain ⟨a, b, c, e, f, g⟩ := Cv.validB_iff.1 h
 have e1 := count_one ⟨a, b⟩ c e d
 have h3 := Cv.ahead_bd y (m - 1).toNat
 have h4 := Cv.lenF_in (y := y) (m := m) ⟨a, b, c, e⟩
 have h5 := ahead_mono y (show (m - 1).toNat + 1 ≤ 12 by omega)
 have h6 : Cv.ahead y ((m - 1).toNat + 1) = Cv.ahead y (m - 1).toNat + Cv.lenF y m := by
  show Cv.ahead y (m - 1).toNat + Cv.lenF y (((m - 1).toNat : Int) + 1) = _
  rw [show (((m - 1).toNat : Nat) : Int) + 1 = m by omega]
 have h7 := Cv.ahead_eq ⟨a, b⟩ (m := 12) (by omega)
 have h8 := Cv.first_succ ⟨a, b⟩
 have h9 := Cv.lp_bd y
 simp at h7
 refine ⟨by omega, by omega, by unfold Cv.first; omega⟩
theorem year_test {y m d z : Int} (h : Cv.validB y m d = true) (hz : 1 ≤ z) (hz2 : z ≤ y) (hz3 : z < 9999) : (Cv.count (z + 1) 1 1 ≤ Cv.count y m d) ↔ z < y := by
 have hy := (Cv.validB_iff.1 h)
 have e := count_one (y := z + 1) (m := 1) ⟨by omega, by omega⟩ (by omega) (by omega) 1
 have h1 := day_year h
 have e2 : Cv.ahead (z + 1) ((1 : Int) - 1).toNat = 0 := rfl
 rw [e2] at e
 constructor
 ·intro hle
  by_cases hc : z < y
  ·exact hc
  ·obtain rfl : z = y := by omega
   omega
 ·intro hlt
  have := first_mono (a := z + 1) (b := y) (by omega) (by omega)
  omega
theorem month_test {y m d z : Int} (h : Cv.validB y m d = true) (hz : 1 ≤ z) (hz2 : z ≤ m) (hz3 : z < 12) : (Cv.count y (z + 1) 1 ≤ Cv.count y m d) ↔ z < m := by
 obtain ⟨a, b, c, e, f, g⟩ := Cv.validB_iff.1 h
 have e1 := count_one ⟨a, b⟩ (m := z + 1) (by omega) (by omega) 1
 have e2 := count_one ⟨a, b⟩ c e d
 rw [show (z + 1 - 1).toNat = z.toNat by omega] at e1
 constructor
 ·intro hle
  by_cases hc : z < m
  ·exact hc
  ·obtain rfl : z = m := by omega
   have h4 := Cv.lenF_in (y := y) (m := z) ⟨a, b, c, e⟩
   have h6 : Cv.ahead y z.toNat = Cv.ahead y (z - 1).toNat + Cv.lenF y z := by
    rw [show z.toNat = (z - 1).toNat + 1 by omega]
    show Cv.ahead y (z - 1).toNat + Cv.lenF y (((z - 1).toNat : Int) + 1) = _
    rw [show (((z - 1).toNat : Nat) : Int) + 1 = z by omega]
   omega
 ·intro hlt
  have := ahead_mono y (show z.toNat ≤ (m - 1).toNat by omega)
  omega
theorem count_day (y m d : Int) : Cv.count y m d - Cv.count y m 1 + 1 = d := by unfold Cv.count Cv.cnt; split <;> omega
set_option maxRecDepth 100000 in
set_option maxHeartbeats 2000000 in
theorem civil_Date (y m d : Int) (w : World) (hv : Cv.validB y m d = true) :
  Calls Tryz.prog 65 #[.int .i64 (Cv.count y m d)] w fun e w' => e = .returned (.tuple #[.agg #[.int .i64 y, .int .i64 m, .int .i64 d], .int .i64 0]) ∧ Below w.heap.size w w' := by
 have hin := Cv.count_in hv
 have hi := Lib.hid (show Cv.insideB (Cv.count y m d) = true from decide_eq_true hin)
 have hyv := Cv.validB_iff.1 hv
 obtain ⟨a1, a2, a3, a4, a5, a6⟩ := hyv
 have hml := Cv.mlen_bd y m
 have hdy := day_year hv
 have HY := Lib.hid (fun z h1 h2 h3 => year_test (z := z) hv h1 h2 h3)
 have HM := Lib.hid (fun z h1 h2 h3 => month_test (z := z) hv h1 h2 h3)
 have HD := Lib.hid (count_day y m d)
 obtain ⟨c1, c2⟩ := hin
 obtain ⟨D, hD⟩ : ∃ D, Cv.count y m d = D := ⟨_, rfl⟩
 rw [hD] at hi HY HM HD c1 c2 hdy ⊢
 have g1 : (D - -719162) / 366 + 1 ≤ y := by omega
 have g2 : 0 ≤ D - -719162 := by omega
 clear hv hD hml hdy
 go_enter Tryz.func65, Tryz.ntmps65
 go_wp2_with (go_at_call 86; refine (civil_inside _ _).mono ?_; rintro e w' ⟨rfl, rfl⟩; rw [hi.out])
 go_loop [4] (fun t => ∃ z : Int, 1 ≤ z ∧ z ≤ y ∧ t = .int .i64 z) (fun t => (9999 - intOf t).toNat)
 case atStart => exact ⟨_, by omega, by omega, rfl⟩
 case round =>
  obtain ⟨z, z1, z2, rfl⟩ := hrel
  by_cases hlt : z < y
  ·have hz : z < 9999 := by omega
   have ht := (HY.out z z1 z2 hz).2 hlt
   go_wp2_with (go_at_call 87; refine (civil_count _ _ _ _ ⟨by omega, by omega⟩ ⟨by omega, by omega⟩ ⟨by omega, by omega⟩ (by omega)).mono ?_; rintro e w' ⟨rfl, rfl⟩)
   go_round
   case rel => exact ⟨z + 1, by omega, by omega, rfl⟩
   case measure => simp [intOf]; omega
  ·obtain rfl : z = y := by omega
   have ht : z < 9999 → ¬ Cv.count (z + 1) 1 1 ≤ D := fun h => fun h2 => hlt ((HY.out z z1 z2 h).1 h2)
   clear g1 g2 hlt
   by_cases h9 : z < 9999
   ·have ht2 := ht h9
    have ht3 : decide (Cv.count (z + 1) 1 1 ≤ D) = false := decide_eq_false ht2
    clear ht
    go_wp2_with (go_at_call 87; refine (civil_count _ _ _ _ ⟨by omega, by omega⟩ ⟨by omega, by omega⟩ ⟨by omega, by omega⟩ (by omega)).mono ?_; rintro e w' ⟨rfl, rfl⟩)
    go_loop [5] (fun t => ∃ q : Int, 1 ≤ q ∧ q ≤ m ∧ t = .int .i64 q) (fun t => (12 - intOf t).toNat)
    case atStart => exact ⟨1, by omega, by omega, rfl⟩
    case round =>
     obtain ⟨q, q1, q2, rfl⟩ := hrel
     by_cases hlt : q < m
     ·have hz : q < 12 := by omega
      have ht := (HM.out q q1 q2 hz).2 hlt
      go_wp2_with (go_at_call 87; refine (civil_count _ _ _ _ ⟨by omega, by omega⟩ ⟨by omega, by omega⟩ ⟨by omega, by omega⟩ (by omega)).mono ?_; rintro e w' ⟨rfl, rfl⟩)
      go_round
      case rel => exact ⟨q + 1, by omega, by omega, rfl⟩
      case measure => simp [intOf]; omega
     ·obtain rfl : q = m := by omega
      obtain ⟨cb1, cb2⟩ := Cv.count_bd (y := z) (m := q) (d := 1) ⟨by omega, by omega⟩ ⟨by omega, by omega⟩ ⟨by omega, by omega⟩
      by_cases h12 : q < 12
      ·have ht := fun h => hlt ((HM.out q q1 q2 h12).1 h)
       clear hlt
       go_wp2_with (go_at_call 87; refine (civil_count _ _ _ _ ⟨by omega, by omega⟩ ⟨by omega, by omega⟩ ⟨by omega, by omega⟩ (by omega)).mono ?_; rintro e w' ⟨rfl, rfl⟩)
       exact bodyPost_ret (v := .tuple #[.agg #[.int .i64 z, .int .i64 q, .int .i64 (D - Cv.count z q 1 + 1)], .int .i64 0]) (by simp [results, Tryz.results65, go_sem]) rfl ⟨ret2 (by rw [HD.out]) rfl, (Below.refl _ _).alloc (Nat.le_refl _) _⟩
      ·clear hlt
       go_wp2_with (go_at_call 87; refine (civil_count _ _ _ _ ⟨by omega, by omega⟩ ⟨by omega, by omega⟩ ⟨by omega, by omega⟩ (by omega)).mono ?_; rintro e w' ⟨rfl, rfl⟩)
       exact bodyPost_ret (v := .tuple #[.agg #[.int .i64 z, .int .i64 q, .int .i64 (D - Cv.count z q 1 + 1)], .int .i64 0]) (by simp [results, Tryz.results65, go_sem]) rfl ⟨ret2 (by rw [HD.out]) rfl, (Below.refl _ _).alloc (Nat.le_refl _) _⟩
   ·clear ht
    go_wp2_with (go_at_call 87; refine (civil_count _ _ _ _ ⟨by omega, by omega⟩ ⟨by omega, by omega⟩ ⟨by omega, by omega⟩ (by omega)).mono ?_; rintro e w' ⟨rfl, rfl⟩)
    go_loop [5] (fun t => ∃ q : Int, 1 ≤ q ∧ q ≤ m ∧ t = .int .i64 q) (fun t => (12 - intOf t).toNat)
    case atStart => exact ⟨1, by omega, by omega, rfl⟩
    case round =>
     obtain ⟨q, q1, q2, rfl⟩ := hrel
     by_cases hlt : q < m
     ·have hz : q < 12 := by omega
      have ht := (HM.out q q1 q2 hz).2 hlt
      go_wp2_with (go_at_call 87; refine (civil_count _ _ _ _ ⟨by omega, by omega⟩ ⟨by omega, by omega⟩ ⟨by omega, by omega⟩ (by omega)).mono ?_; rintro e w' ⟨rfl, rfl⟩)
      go_round
      case rel => exact ⟨q + 1, by omega, by omega, rfl⟩
      case measure => simp [intOf]; omega
     ·obtain rfl : q = m := by omega
      obtain ⟨cb1, cb2⟩ := Cv.count_bd (y := z) (m := q) (d := 1) ⟨by omega, by omega⟩ ⟨by omega, by omega⟩ ⟨by omega, by omega⟩
      by_cases h12 : q < 12
      ·have ht := fun h => hlt ((HM.out q q1 q2 h12).1 h)
       clear hlt
       go_wp2_with (go_at_call 87; refine (civil_count _ _ _ _ ⟨by omega, by omega⟩ ⟨by omega, by omega⟩ ⟨by omega, by omega⟩ (by omega)).mono ?_; rintro e w' ⟨rfl, rfl⟩)
       exact bodyPost_ret (v := .tuple #[.agg #[.int .i64 z, .int .i64 q, .int .i64 (D - Cv.count z q 1 + 1)], .int .i64 0]) (by simp [results, Tryz.results65, go_sem]) rfl ⟨ret2 (by rw [HD.out]) rfl, (Below.refl _ _).alloc (Nat.le_refl _) _⟩
      ·clear hlt
       go_wp2_with (go_at_call 87; refine (civil_count _ _ _ _ ⟨by omega, by omega⟩ ⟨by omega, by omega⟩ ⟨by omega, by omega⟩ (by omega)).mono ?_; rintro e w' ⟨rfl, rfl⟩)
       exact bodyPost_ret (v := .tuple #[.agg #[.int .i64 z, .int .i64 q, .int .i64 (D - Cv.count z q 1 + 1)], .int .i64 0]) (by simp [results, Tryz.results65, go_sem]) rfl ⟨ret2 (by rw [HD.out]) rfl, (Below.refl _ _).alloc (Nat.le_refl _) _⟩
end Go.Proofs.YtdpbhjaicgkblaaGreatDoor
/- zone.plain, typed, last, yearOf. -/
namespace Go.Proofs.YtdpbhjaicgkblaaGreatDoor
set_option linter.unusedSimpArgs false
set_option linter.unusedVariables false
open Go.ChangeShapes Go.WideShapes Go.ChangeAt Go.RowKit
set_option maxRecDepth 100000 in
set_option maxHeartbeats 1000000 in
theorem plain_any (s : ByteArray) (w : World) : Calls Tryz.prog 113 #[.string s] w fun e w' => e = .returned (.bool (plainB s)) ∧ w = w' := by
 by_cases h1 : 1 ≤ s.size
 ·by_cases h2 : s.size ≤ 8
  ·have hn : plainB s = s.data.toList.all (fun b => plainC b.toNat) := by unfold plainB; rw [decide_eq_true ⟨h1, h2⟩]; rfl
   rw [hn]
   clear hn
   obtain ⟨B, hB⟩ : ∃ B, (s.data.toList.all fun b => plainC b.toNat) = B := ⟨_, rfl⟩
   rw [hB]
   have HB := Lib.hid hB
   clear hB
   go_enter Tryz.func113, Tryz.ntmps113
   go_wp2
   go_loop [15] (fun i => ∃ k : Nat, k ≤ s.size ∧ i = .int .i64 k ∧ Hid ((s.data.toList.take k).all (fun b => plainC b.toNat) = true)) (fun i => s.size - (intOf i).toNat)
   case atStart => exact ⟨0, Nat.zero_le _, rfl, by simp [RowKit.Hid]⟩
   case round =>
    obtain ⟨k, hk, rfl, HR⟩ := hrel
    by_cases hlt : k < s.size
    ·have HY := Lib.hid (fun h : plainC (s[k]'hlt).toNat = true => Cv.all_snoc (p := fun b => plainC b.toNat) hlt HR.out h)
     have HN := Lib.hid (fun h : plainC (s[k]'hlt).toNat = false => HB.out.symm.trans (Cv.all_bad (p := fun b => plainC b.toNat) hlt h))
     go_wp2
     all_goals first
      | (go_ret; refine ⟨ret1 (vbool (HN.out (decide_eq_false ?_)).symm), rfl⟩; (try simp only [Bool.not_eq_true', Bool.not_eq_false', beq_iff_eq, beq_eq_false_iff_ne, decide_eq_true_eq, decide_eq_false_iff_not, ne_eq] at *); omega)
      | (
        go_round
        case rel => refine ⟨k + 1, by omega, by go_num, HY.out (decide_eq_true ?_)⟩; (try simp only [Bool.not_eq_true', Bool.not_eq_false', beq_iff_eq, beq_eq_false_iff_ne, decide_eq_true_eq, decide_eq_false_iff_not, ne_eq] at *); omega
        case measure => simp [intOf]; omega)
    ·have HE := Lib.hid (HB.out.symm.trans (Cv.all_end (p := fun b => plainC b.toNat) (show s.size ≤ k by omega) HR.out))
     go_wp2
     go_ret
     exact ⟨ret1 (vbool HE.out.symm), rfl⟩
  ·rw [show plainB s = false by unfold plainB; rw [decide_eq_false (by omega)]; rfl]
   go_enter Tryz.func113, Tryz.ntmps113
   go_wp2
   go_ret
   exact ⟨rfl, rfl⟩
 ·rw [show plainB s = false by unfold plainB; rw [decide_eq_false (by omega)]; rfl]
  go_enter Tryz.func113, Tryz.ntmps113
  go_wp2
  go_ret
  exact ⟨rfl, rfl⟩
def Typ.cells (t : Typ) : List Value := [.int .i64 t.off, .int .i64 t.sv, .string t.nm]
def Trn.cells (t : Trn) : List Value := [.int .i64 t.at_, .int .i64 t.ty.off, .int .i64 t.ty.sv, .string t.ty.nm]
theorem rd_vf {α : Type} [Inhabited α] {enc : α → List Value} {k : Nat} {w : World} {v : Value} {es : List α} (h : Rd enc k w v es) : ∃ A c, v = .slice A es.length c := by
 rcases h with ⟨rfl, A, c, rfl⟩ | ⟨g, off, c, rfl, _⟩
 ·exact ⟨A, c, rfl⟩
 ·exact ⟨_, c, rfl⟩
theorem trn_len (t : Trn) : t.cells.length = 4 := rfl
theorem trn_one (t : Trn) : ∀ v ∈ t.cells, v.oneCell' = true := by
 intro v hv
 simp [Trn.cells] at hv
 rcases hv with rfl | rfl | rfl | rfl <;> rfl
theorem tmz (b : Int) : (b % 60 == 0) = (b.tmod 60 == 0) := by
 have : (b.tmod 60 = 0) = (b % 60 = 0) := by
  apply propext
  rw [← Int.dvd_iff_tmod_eq_zero, Int.dvd_iff_emod_eq_zero]
 rw [Bool.eq_iff_iff, beq_iff_eq, beq_iff_eq, this]
set_option maxHeartbeats 1000000 in
theorem typed_any (t : Typ) (w : World) : Calls Tryz.prog 106 #[.agg #[.int .i64 t.off, .int .i64 t.sv, .string t.nm]] w fun e w' => e = .returned (.bool (typB t)) ∧ Below w.heap.size w w' := by
 obtain ⟨a, b, s⟩ := t
 unfold typB
 dsimp only
 by_cases a1 : -93600 < a
 ·by_cases a2 : a < 93600
  ·have a30 := tmz b
   cases a3 : (b.tmod 60 == 0)
   ·rw [a3] at a30
    rw [decide_eq_true a1, decide_eq_true a2]
    go_enter Tryz.func106, Tryz.ntmps106
    go_wp2
    go_ret
    exact ⟨rfl, (Below.refl _ _).alloc (Nat.le_refl _) _⟩
   ·rw [a3] at a30
    by_cases a4 : -10800 ≤ b
    ·by_cases a5 : b ≤ 10800
     ·rw [decide_eq_true a1, decide_eq_true a2, decide_eq_true a4, decide_eq_true a5]
      generalize hp : plainB s = P
      have HP := Lib.hid (fun W => plain_any s W)
      rw [hp] at HP
      clear hp
      go_enter Tryz.func106, Tryz.ntmps106
      go_wp2_with (go_at_call 113; refine (HP.out _).mono ?_; rintro e w1 ⟨rfl, rfl⟩)
      go_ret
      exact ⟨ret1 (vbool (by simp)), (Below.refl _ _).alloc (Nat.le_refl _) _⟩
     ·rw [decide_eq_true a1, decide_eq_true a2, decide_eq_true a4, decide_eq_false a5]
      have d5 : decide (b ≤ 10800) = false := decide_eq_false a5
      go_enter Tryz.func106, Tryz.ntmps106
      go_wp2
      go_ret
      exact ⟨rfl, (Below.refl _ _).alloc (Nat.le_refl _) _⟩
    ·rw [decide_eq_true a1, decide_eq_true a2, decide_eq_false a4]
     have d4 : decide (-10800 ≤ b) = false := decide_eq_false a4
     go_enter Tryz.func106, Tryz.ntmps106
     go_wp2
     go_ret
     exact ⟨rfl, (Below.refl _ _).alloc (Nat.le_refl _) _⟩
  ·rw [decide_eq_true a1, decide_eq_false a2]
   have d2 : decide (a < 93600) = false := decide_eq_false a2
   go_enter Tryz.func106, Tryz.ntmps106
   go_wp2
   go_ret
   exact ⟨rfl, (Below.refl _ _).alloc (Nat.le_refl _) _⟩
 ·rw [decide_eq_false a1]
  have d1 : decide (-93600 < a) = false := decide_eq_false a1
  go_enter Tryz.func106, Tryz.ntmps106
  go_wp2
  go_ret
  exact ⟨rfl, (Below.refl _ _).alloc (Nat.le_refl _) _⟩
def Zn.v (z : Zn) (vT vR : Value) : Value := .agg #[.string z.nm, .int .i64 z.first.off, .int .i64 z.first.sv, .string z.first.nm, vT, vR, .int .i64 z.off, .string z.form, .int .i64 z.year]
theorem lastT_snoc {z : Zn} {q : Nat} (h : z.table.length = q + 1) : z.lastT = (z.table[q]!).ty := by
 unfold Zn.lastT
 rw [if_neg (by intro e; rw [e] at h; cases h), h, Nat.add_sub_cancel]
set_option maxRecDepth 100000 in
set_option maxHeartbeats 1000000 in
theorem last_any (z : Zn) (vT vR : Value) (w : World) (hl : z.table.length ≤ 1000000) (h : Rd Trn.cells 4 w vT z.table) :
  Calls Tryz.prog 135 #[z.v vT vR] w fun e w' => e = .returned (.agg #[.int .i64 z.lastT.off, .int .i64 z.lastT.sv, .string z.lastT.nm]) ∧ Below w.heap.size w w' := by
 rcases h with ⟨h0, A, c, rfl⟩ | ⟨g, off, c, rfl, hg, hc⟩
 ·have e : z.lastT = z.first := if_pos h0
  rw [e]
  unfold Zn.v
  generalize z.first = F
  go_enter Tryz.func135, Tryz.ntmps135
  go_wp2
  exact bodyPost_ret (v := .agg #[.int .i64 F.off, .int .i64 F.sv, .string F.nm]) (by simp [results, Tryz.results135, go_sem]) rfl ⟨rfl, ((Below.refl _ _).alloc (Nat.le_refl _) _).alloc (by simp) _⟩
 ·cases hn : z.table.length with
  | zero =>
   have h0 : z.table = [] := List.eq_nil_of_length_eq_zero hn
   have e : z.lastT = z.first := if_pos h0
   rw [e]
   unfold Zn.v
   generalize z.first = F
   go_enter Tryz.func135, Tryz.ntmps135
   go_wp2
   exact bodyPost_ret (v := .agg #[.int .i64 F.off, .int .i64 F.sv, .string F.nm]) (by simp [results, Tryz.results135, go_sem]) rfl ⟨rfl, ((Below.refl _ _).alloc (Nat.le_refl _) _).alloc (by simp) _⟩
  | succ q =>
   rw [lastT_snoc hn]
   have c1 := hc q (by omega) 1 _ rfl
   have c2 := hc q (by omega) 2 _ rfl
   have c3 := hc q (by omega) 3 _ rfl
   unfold Zn.v
   generalize z.table[q]! = T at *
   clear hc
   go_enter Tryz.func135, Tryz.ntmps135
   go_wp2
   exact bodyPost_ret (v := .agg #[.int .i64 T.ty.off, .int .i64 T.ty.sv, .string T.ty.nm]) (by simp [results, Tryz.results135, go_sem]) rfl ⟨rfl, ((Below.refl _ _).alloc (Nat.le_refl _) _).alloc (by simp) _⟩
/-! ### the year of an instant -/
theorem year_exists {D : Int} (h1 : -719162 ≤ D) : ∀ n : Nat, 1 ≤ n → n ≤ 10000 → D < Cv.first n → ∃ y, 1 ≤ y ∧ y ≤ 9999 ∧ Cv.first y ≤ D ∧ D < Cv.first (y + 1)
 | 0, h, _, _ => absurd h (by decide)
 | 1, _, _, h => by
  have : Cv.first ((1 : Nat) : Int) = -719162 := by decide
  omega
 | n + 2, _, h2, h3 => by
  by_cases h4 : D < Cv.first ((n + 1 : Nat) : Int)
  ·exact year_exists h1 (n + 1) (by omega) (by omega) h4
  ·exact ⟨((n + 1 : Nat) : Int), by omega, by omega, by omega, by rw [show (((n + 1 : Nat) : Int) + 1) = ((n + 2 : Nat) : Int) by omega]; exact h3⟩
theorem month_exists {y r : Int} (h0 : 0 ≤ r) : ∀ k : Nat, r < Cv.ahead y k → ∃ m : Nat, m < k ∧ Cv.ahead y m ≤ r ∧ r < Cv.ahead y (m + 1)
 | 0, h => by simp [Cv.ahead] at h; omega
 | k + 1, h => by
  by_cases h4 : r < Cv.ahead y k
  ·obtain ⟨m, h5, h6⟩ := month_exists h0 k h4
   exact ⟨m, by omega, h6⟩
  ·exact ⟨k, by omega, by omega, h⟩
theorem day_exists {D : Int} (h1 : -719162 ≤ D) (h2 : D < 2932897) : ∃ y m d, Cv.validB y m d = true ∧ Cv.count y m d = D ∧ Cv.first y ≤ D ∧ D < Cv.first (y + 1) := by
 obtain ⟨y, y1, y2, y3, y4⟩ := year_exists h1 10000 (by decide) (by decide) (by
  have : Cv.first ((10000 : Nat) : Int) = 2932897 := by decide
  omega)
 have hs := Cv.first_succ ⟨y1, y2⟩
 have ha := Cv.ahead_eq ⟨y1, y2⟩ (m := 12) (by decide)
 have ha2 : Cv.ahead y 12 = 365 + Cv.lp y := by rw [ha]; simp; omega
 obtain ⟨m, m1, m2, m3⟩ := month_exists (y := y) (r := D - Cv.first y) (by omega) 12 (by omega)
 have hm : Cv.ahead y (m + 1) = Cv.ahead y m + Cv.lenF y ((m : Int) + 1) := rfl
 have hl := Cv.lenF_in (y := y) (m := (m : Int) + 1) ⟨y1, y2, by omega, by omega⟩
 refine ⟨y, (m : Int) + 1, D - Cv.first y - Cv.ahead y m + 1, Cv.validB_iff.2 ⟨y1, y2, by omega, by omega, by omega, by omega⟩, ?_, y3, y4⟩
 have h5 := Cv.first_ahead ⟨y1, y2⟩ (m := (m : Int) + 1) (by omega) (by omega) (D - Cv.first y - Cv.ahead y m + 1)
 rw [show ((m : Int) + 1 - 1).toNat = m by omega] at h5
 omega
theorem Split_any (t : Int) (w : World) (h1 : -62135596800 ≤ t) (h2 : t < 253402300800) :
  Calls Tryz.prog 64 #[.int .i64 t] w fun e w' => e = .returned (.tuple #[.int .i64 (t / 86400), .int .i64 (t % 86400), .int .i64 0]) ∧ Below w.heap.size w w' := by
 go_enter Tryz.func64, Tryz.ntmps64
 go_wp2_with (go_at_call 85; refine (integer_Div t 86400 _ (by omega) (by omega) (by omega)).mono ?_; rintro e w' ⟨rfl, n, rfl⟩)
 go_ret3
 exact ⟨rfl, below_drewN (Below.refl _ _) _⟩
end Go.Proofs.YtdpbhjaicgkblaaGreatDoor

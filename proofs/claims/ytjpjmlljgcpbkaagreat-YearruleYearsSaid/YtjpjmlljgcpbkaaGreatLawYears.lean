/- The law YearruleYears: its walk. -/
import Derived.Test.YtjpjmlljgcpbkaaGreatAwake
import Derived.Test.YtjpjmlljgcpbkaaGreatRefRange3
import Derived.Test.YtjpjmlljgcpbkaaGreatEqE
namespace Go.Proofs.YtjpjmlljgcpbkaaGreat
set_option linter.unusedSimpArgs false
set_option linter.unusedVariables false
open Go.ChangeShapes Go.WideShapes Go.ChangeAt Go.RowKit

set_option maxRecDepth 100000 in
set_option maxHeartbeats 1000000 in
theorem law_YearruleYears (rs : List Rule) (v : Value) (y a b : Int) (w : World) (h : Rd Rule.cells 11 w v rs) (hm : HasMax w) :
    Calls Tryz.prog 6 #[v, .int .i64 y, .int .i64 a, .int .i64 b] w fun e w' => e = .returned (.bool true) ∧ Below w.heap.size w w' := by
  obtain ⟨A, c, rfl⟩ := rd_vform h
  have HR := Lib.hid h
  clear h
  have HAw := Lib.hid (fun W h => awake_any W h)
  have HM := Lib.hid hm
  clear hm
  by_cases g1 : 8 < rs.length
  · go_enter Tryz.func6, Tryz.ntmps6
    go_wp2_with (go_at_call 9; refine (HAw.out _ HM.out).mono ?_; rintro e w1 ⟨rfl, hb1⟩)
    go_ret
    exact ⟨rfl, hb1⟩
  by_cases g2 : 1 ≤ a ∧ b ≤ 9999 ∧ 30 < wrap64 (b - a)
  · obtain ⟨g3, g4, g5⟩ := g2
    go_enter Tryz.func6, Tryz.ntmps6
    go_wp2_with (go_at_call 9; refine (HAw.out _ HM.out).mono ?_; rintro e w1 ⟨rfl, hb1⟩)
    go_ret
    exact ⟨rfl, hb1⟩
  have hf : 1 ≤ a → b ≤ 9999 → rs.length * (b - a + 1).toNat ≤ 1000 := fun h1 h2 => by
    have h3 : ¬ 30 < wrap64 (b - a) := fun h => g2 ⟨h1, h2, h⟩
    have hn : (b - a + 1).toNat ≤ 31 := by unfold wrap64 at h3; omega
    exact Nat.le_trans (Nat.mul_le_mul (show rs.length ≤ 8 by omega) hn) (by decide)
  have hyl := crowd_len rs y
  have HY := Lib.hid (fun W h => Year_any rs y (.slice A rs.length c) W (by omega) h)
  have HZ := Lib.hid (fun W h => r20_Year rs y (.slice A rs.length c) W (by omega) h)
  have HG := Lib.hid (fun W h => Range_any rs a b (.slice A rs.length c) W (by omega) h hf)
  have HH := Lib.hid (fun W h => r20_Range rs a b (.slice A rs.length c) W (by omega) h hf)
  have hxl : (rangeF rs a b).1.length ≤ 1000 := by
    unfold rangeF
    split
    · simp
    · split
      · simp
      · have h1 := evY_len rs a (b - a + 1).toNat
        have h2 := hf (by omega) (by omega)
        show (srt _).length ≤ _
        rw [srt_len]
        rw [Nat.mul_comm] at h2
        omega
  unfold RangeOut at HG HH
  generalize yearF rs y = Y at *
  obtain ⟨⟨X, E⟩, hP⟩ : ∃ P, rangeF rs a b = P := ⟨_, rfl⟩
  rw [hP] at HG HH hxl
  clear hP hf
  have z1 : decide (8 < (rs.length : Int)) = false := decide_eq_false (by omega)
  have HE1 := Lib.hid (fun v1 v2 W h1 h2 => EqE_same Y v1 v2 W (by omega) h1 h2)
  have HE2 := Lib.hid (fun v1 v2 W h1 h2 => EqE_same X v1 v2 W (by dsimp only at hxl; omega) h1 h2)
  clear hyl hxl
  have z2 : (decide (1 ≤ a) = false) ∨ (decide (1 ≤ a) = true ∧ decide (b ≤ 9999) = false) ∨ (decide (1 ≤ a) = true ∧ decide (b ≤ 9999) = true ∧ decide (30 < wrap64 (b - a)) = false) := by
    by_cases h1 : 1 ≤ a
    · by_cases h2 : b ≤ 9999
      · exact .inr (.inr ⟨decide_eq_true h1, decide_eq_true h2, decide_eq_false fun h => g2 ⟨h1, h2, h⟩⟩)
      · exact .inr (.inl ⟨decide_eq_true h1, decide_eq_false h2⟩)
    · exact .inl (decide_eq_false h1)
  clear g2
  rcases z2 with z2 | ⟨z2, z3⟩ | ⟨z2, z3, z4⟩
  all_goals
    go_enter Tryz.func6, Tryz.ntmps6
    go_wp2_with (first
      | (go_at_call 9; refine (HAw.out _ HM.out).mono ?_; rintro e w1 ⟨rfl, hb1⟩)
      | (go_at_call 21; refine (HY.out _ (HR.out.on hb1)).mono ?_; rintro e w2 ⟨v2, rfl, r2, hb2⟩; have hB2 := hb1.trans (hb2.mono hb1.size); have R2 := Lib.hid r2; clear r2)
      | (go_at_call 22; refine (HZ.out _ (HR.out.on hB2)).mono ?_; rintro e w3 ⟨v3, rfl, r3, hb3⟩; have hB3 := hB2.trans (hb3.mono hB2.size); have R3 := Lib.hid r3.rd; clear r3)
      | (go_at_call 20; refine (HE1.out _ _ _ (R2.out.on hb3) R3.out).mono ?_; rintro e w4 ⟨rfl, hb4⟩; have hB4 := hB3.trans (hb4.mono hB3.size); clear HE1)
      | (go_at_call 23; refine (HG.out _ (HR.out.on hB4)).mono ?_; rintro e w5 ⟨v5, rfl, r5, hb5⟩; have hB5 := hB4.trans (hb5.mono hB4.size); have R5 := Lib.hid r5; clear r5)
      | (go_at_call 24; refine (HH.out _ (HR.out.on hB5)).mono ?_; rintro e w6 ⟨v6, rfl, r6, hb6⟩; have hB6 := hB5.trans (hb6.mono hB5.size); have R6 := Lib.hid r6; clear r6)
      | (go_at_call 20; refine (HE2.out _ _ _ (R5.out.on hb6) R6.out).mono ?_; rintro e w7 ⟨rfl, hb7⟩; have hB7 := hB6.trans (hb7.mono hB6.size)))
    go_ret
    exact ⟨ret1 (vbool (by simp)), hB7⟩

end Go.Proofs.YtjpjmlljgcpbkaaGreat

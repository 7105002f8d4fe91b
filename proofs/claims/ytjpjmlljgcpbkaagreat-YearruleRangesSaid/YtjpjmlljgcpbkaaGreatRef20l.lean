/- The reference of layer 20: letters. -/
import Derived.Test.YtjpjmlljgcpbkaaGreatLetters
namespace Go.Proofs.YtjpjmlljgcpbkaaGreat
set_option linter.unusedSimpArgs false
set_option linter.unusedVariables false
open Go.ChangeShapes Go.WideShapes Go.ChangeAt Go.RowKit

theorem r20_letter (c : UInt8) (w : World) : Calls Tryz.prog 70 #[.int .u8 c.toNat] w fun e w' => e = .returned (.bool (Cv.ltrI c.toNat)) ∧ w' = w := by
  have hc := c.toNat_lt
  go_enter Tryz.func70, Tryz.ntmps70
  go_wp2
  all_goals (go_ret; exact ⟨ret1 (vbool (by unfold Cv.ltrI; rw [Bool.eq_iff_iff]; simp [*] <;> omega)), rfl⟩)
theorem r20_digit (c : UInt8) (w : World) : Calls Tryz.prog 71 #[.int .u8 c.toNat] w fun e w' => e = .returned (.bool (Cv.digI c.toNat)) ∧ w' = w := by
  have hc := c.toNat_lt
  go_enter Tryz.func71, Tryz.ntmps71
  go_wp2
  all_goals (go_ret; exact ⟨ret1 (vbool (by unfold Cv.digI; rw [Bool.eq_iff_iff]; simp [*] <;> omega)), rfl⟩)

theorem alnum_bad (c : UInt8) : (!Cv.badR [] c.toNat) = (Cv.ltrI c.toNat || Cv.digI c.toNat) := by
  have hc := c.toNat_lt
  unfold Cv.badR Cv.alnumN Cv.ltrI Cv.digI
  rw [Bool.eq_iff_iff]
  simp
  omega
def alnAll (s : ByteArray) : Bool := s.data.toList.all fun b => Cv.ltrI b.toNat || Cv.digI b.toNat
set_option maxRecDepth 100000 in
set_option maxHeartbeats 1000000 in
theorem r20_Letter (s : ByteArray) (w : World) : Calls Tryz.prog 42 #[.string s] w fun e w' => e = .returned (.bool (decide (s.size ≤ 8) && Cv.lettersB [] s.data.toList)) ∧ w' = w := by
  by_cases h2 : s.size ≤ 8
  · rw [decide_eq_true h2, Bool.true_and]
    have hL := Lib.hid (show Cv.lettersB [] s.data.toList = alnAll s by unfold Cv.lettersB alnAll; congr 1; funext b; exact alnum_bad b)
    rw [hL.out]
    go_enter Tryz.func42, Tryz.ntmps42
    go_wp2
    go_loop [3] (fun i => ∃ k : Nat, k ≤ s.size ∧ i = .int .i64 k ∧ (s.data.toList.take k).all (fun b => Cv.ltrI b.toNat || Cv.digI b.toNat) = true) (fun i => s.size - (intOf i).toNat)
    case atStart => exact ⟨0, Nat.zero_le _, rfl, by simp⟩
    case round =>
      obtain ⟨k, hk, rfl, hr⟩ := hrel
      have HR := Lib.hid hr
      clear hr
      by_cases hlt : k < s.size
      · cases a1 : Cv.ltrI (s[k]'hlt).toNat
        · cases a2 : Cv.digI (s[k]'hlt).toNat
          · have A1 := Lib.hid a1
            have A2 := Lib.hid a2
            clear a1 a2
            go_wp2_with (first | (go_at_call 70; refine (r20_letter _ _).mono ?_; rintro e w1 ⟨rfl, rfl⟩; rw [A1.out]) | (go_at_call 71; refine (r20_digit _ _).mono ?_; rintro e w1 ⟨rfl, rfl⟩; rw [A2.out]))
            go_ret
            exact ⟨ret1 (vbool (Cv.all_bad hlt (by rw [A1.out, A2.out]; rfl)).symm), rfl⟩
          · have A1 := Lib.hid a1
            have A2 := Lib.hid a2
            clear a1 a2
            go_wp2_with (first | (go_at_call 70; refine (r20_letter _ _).mono ?_; rintro e w1 ⟨rfl, rfl⟩; rw [A1.out]) | (go_at_call 71; refine (r20_digit _ _).mono ?_; rintro e w1 ⟨rfl, rfl⟩; rw [A2.out]))
            go_round
            case rel => exact ⟨k + 1, by omega, by go_num, Cv.all_snoc hlt HR.out (by rw [A1.out, A2.out]; rfl)⟩
            case measure => simp [intOf]; omega
        · have A1 := Lib.hid a1
          clear a1
          go_wp2_with (go_at_call 70; refine (r20_letter _ _).mono ?_; rintro e w1 ⟨rfl, rfl⟩; rw [A1.out])
          go_round
          case rel => exact ⟨k + 1, by omega, by go_num, Cv.all_snoc hlt HR.out (by rw [A1.out]; rfl)⟩
          case measure => simp [intOf]; omega
      · go_wp2
        go_ret
        exact ⟨ret1 (vbool (Cv.all_end (by omega) HR.out).symm), rfl⟩
  · rw [decide_eq_false h2, Bool.false_and]
    go_enter Tryz.func42, Tryz.ntmps42
    go_wp2
    go_ret
    exact ⟨rfl, rfl⟩

end Go.Proofs.YtjpjmlljgcpbkaaGreat

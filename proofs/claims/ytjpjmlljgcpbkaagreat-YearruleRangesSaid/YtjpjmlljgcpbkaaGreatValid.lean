/- zonelex.Name, yearrule.Valid, event, At, Active. -/
import Derived.Test.YtjpjmlljgcpbkaaGreatLetters
import Derived.Test.YtjpjmlljgcpbkaaGreatYday1
namespace Go.Proofs.YtjpjmlljgcpbkaaGreat
set_option linter.unusedSimpArgs false
set_option linter.unusedVariables false
open Go.ChangeShapes Go.WideShapes Go.ChangeAt Go.RowKit

/-- every byte of a text may stand in a name -/
def namAll (s : ByteArray) : Bool := s.data.toList.all fun b => Cv.namI b.toNat
theorem special_iff (c : UInt8) : decide (Lib.indexByte [95, 47, 43, 45] c < 0) = !((c.toNat : Int) == 95 || (c.toNat : Int) == 47 || (c.toNat : Int) == 43 || (c.toNat : Int) == 45) := by
  have h := Cv.indexByte_mem [95, 47, 43, 45] c
  have e : decide (Lib.indexByte [95, 47, 43, 45] c < 0) = !decide (0 ≤ Lib.indexByte [95, 47, 43, 45] c) := by rw [Bool.eq_iff_iff]; simp
  rw [e, h]
  congr 1
  rw [Bool.eq_iff_iff]
  simp [← UInt8.toNat_inj]
  omega

theorem namI_idx {c : UInt8} (h : 0 ≤ Lib.indexByte [95, 47, 43, 45] c) : Cv.namI c.toNat = true := by
  have e := special_iff c
  rw [decide_eq_false (by omega)] at e
  have e' : ((c.toNat : Int) == 95 || (c.toNat : Int) == 47 || (c.toNat : Int) == 43 || (c.toNat : Int) == 45) = true := by
    exact (Bool.not_eq_false' _).mp e.symm
  unfold Cv.namI
  simp only [Bool.or_eq_true] at e' ⊢
  rcases e' with ((e' | e') | e') | e' <;> simp [e']
theorem namI_no {c : UInt8} (h1 : Cv.ltrI c.toNat = false) (h2 : Cv.digI c.toNat = false) (h : Lib.indexByte [95, 47, 43, 45] c < 0) : Cv.namI c.toNat = false := by
  have e := special_iff c
  rw [decide_eq_true h] at e
  unfold Cv.namI
  rw [h1, h2]
  simpa using e.symm
set_option maxRecDepth 100000 in
set_option maxHeartbeats 1000000 in
theorem zoneName (s : ByteArray) (w : World) : Calls Tryz.prog 49 #[.string s] w fun e w' => e = .returned (.bool (Cv.nameZ s)) ∧ w = w' := by
  by_cases h1 : 1 ≤ s.size
  · by_cases h2 : s.size ≤ 30
    · cases hl : Cv.ltrI (s.get! 0).toNat
      · rw [show Cv.nameZ s = false by unfold Cv.nameZ; rw [hl]; simp]
        rw [Cv.get!_eq s 0 h1] at hl
        have HL := Lib.hid hl
        clear hl
        go_enter Tryz.func49, Tryz.ntmps49
        go_wp2_with (go_at_call 77; refine (zletter _ _).mono ?_; rintro e w1 ⟨rfl, rfl⟩; rw [HL.out])
        go_ret
        exact ⟨rfl, rfl⟩
      · have hn : Cv.nameZ s = namAll s := by unfold Cv.nameZ; rw [hl, decide_eq_true ⟨h1, h2⟩]; rfl
        rw [hn]
        rw [Cv.get!_eq s 0 h1] at hl
        have HL := Lib.hid hl
        clear hl hn
        go_enter Tryz.func49, Tryz.ntmps49
        go_wp2_with (go_at_call 77; refine (zletter _ _).mono ?_; rintro e w1 ⟨rfl, rfl⟩; rw [HL.out])
        go_loop [20] (fun i => ∃ k : Nat, k ≤ s.size ∧ i = .int .i64 k ∧ (s.data.toList.take k).all (fun b => Cv.namI b.toNat) = true) (fun i => s.size - (intOf i).toNat)
        case atStart => exact ⟨0, Nat.zero_le _, rfl, by simp⟩
        case round =>
          obtain ⟨k, hk, rfl, hr⟩ := hrel
          have HR := Lib.hid hr
          clear hr
          by_cases hlt : k < s.size
          · cases a1 : Cv.ltrI (s[k]'hlt).toNat <;> cases a2 : Cv.digI (s[k]'hlt).toNat
            all_goals
              have A1 := Lib.hid a1
              have A2 := Lib.hid a2
              clear a1 a2
              go_wp2_with (first | (go_at_call 77; refine (zletter _ _).mono ?_; rintro e w1 ⟨rfl, rfl⟩; rw [A1.out]) | (go_at_call 78; refine (zdigit _ _).mono ?_; rintro e w1 ⟨rfl, rfl⟩; rw [A2.out]) | (go_at_call 79; refine (Tryz.strings_IndexByte _ _ _).mono ?_; rintro e w1 ⟨rfl, rfl⟩))
            · go_ret
              exact ⟨ret1 (vbool (Cv.all_bad hlt (namI_no A1.out A2.out (by assumption))).symm), rfl⟩
            · go_round
              case rel => exact ⟨k + 1, by omega, by go_num, Cv.all_snoc hlt HR.out (namI_idx (by assumption))⟩
              case measure => simp [intOf]; omega
            all_goals
              go_round
              case rel => exact ⟨k + 1, by omega, by go_num, Cv.all_snoc hlt HR.out (by simp only [Cv.namI, A1.out, A2.out]; simp)⟩
              case measure => simp [intOf]; omega
          · go_wp2
            go_ret
            exact ⟨ret1 (vbool (Cv.all_end (by omega) HR.out).symm), rfl⟩
    · rw [Cv.nameZ_no (by omega)]
      go_enter Tryz.func49, Tryz.ntmps49
      go_wp2
      go_ret
      exact ⟨rfl, rfl⟩
  · rw [Cv.nameZ_no (by omega)]
    go_enter Tryz.func49, Tryz.ntmps49
    go_wp2
    go_ret
    exact ⟨rfl, rfl⟩

end Go.Proofs.YtjpjmlljgcpbkaaGreat

/- The reference of layer 20: Range, at every list and years. -/
import Derived.Test.YtjpjmlljgcpbkaaGreatRefRange2
namespace Go.Proofs.YtjpjmlljgcpbkaaGreat
set_option linter.unusedSimpArgs false
set_option linter.unusedVariables false
open Go.ChangeShapes Go.WideShapes Go.ChangeAt Go.RowKit

set_option maxRecDepth 100000 in
set_option maxHeartbeats 600000 in
theorem r20_Range (rs : List Rule) (a b : Int) (v : Value) (w : World) (hl : rs.length ≤ 1000) (h : Rd Rule.cells 11 w v rs) (hf : 1 ≤ a → b ≤ 9999 → rs.length * (b - a + 1).toNat ≤ 1000) :
    Calls Tryz.prog 24 #[v, .int .i64 a, .int .i64 b] w (RangeOut rs a b w) := by
  have HA := Lib.hid (fun W h => r20_All rs v W (by omega) h)
  have HR := Lib.hid h
  cases hv : allV rs
  · have e1 : rangeF rs a b = ([], 1) := if_pos hv
    have E := Lib.hid e1
    rw [hv] at HA
    clear h hf hv e1
    go_enter Tryz.func24, Tryz.ntmps24
    go_wp2_with (go_at_call 47; refine (HA.out _ HR.out).mono ?_; rintro e w1 ⟨rfl, hb1⟩)
    go_ret2
    exact ⟨_, ret2 rfl (by rw [E.out]; rfl), by rw [E.out]; exact .inl ⟨rfl, none, 0, rfl⟩, hb1⟩
  · by_cases hr : a < 1 ∨ b < a ∨ 9999 < b
    · have e1 : rangeF rs a b = ([], 2) := by unfold rangeF; rw [if_neg (by simp [hv]), if_pos hr]
      have E := Lib.hid e1
      rw [hv] at HA
      clear h hf hv e1
      by_cases r1 : a < 1
      all_goals by_cases r2 : b < a
      all_goals
        have r3 : 1 ≤ a → a ≤ b → 9999 < b := fun h1 h2 => by omega
        first | (have r4 := r3 (by omega) (by omega); clear r3 hr) | clear r3 hr
        go_enter Tryz.func24, Tryz.ntmps24
        go_wp2_with (go_at_call 47; refine (HA.out _ HR.out).mono ?_; rintro e w1 ⟨rfl, hb1⟩)
        all_goals go_ret2
        all_goals exact ⟨_, ret2 rfl (by rw [E.out]; rfl), by rw [E.out]; exact .inl ⟨rfl, none, 0, rfl⟩, hb1⟩
    · obtain ⟨r1, r2, r3⟩ : 1 ≤ a ∧ a ≤ b ∧ b ≤ 9999 := by omega
      have e1 : rangeF rs a b = (srt (evY rs a (b - a + 1).toNat), 0) := by unfold rangeF; rw [if_neg (by simp [hv]), if_neg hr]
      refine (r20_Range_ok rs a b v w hl h hv r1 r2 r3 (hf r1 r3)).mono ?_
      rintro e w' ⟨v', rfl, h1, h2⟩
      exact ⟨v', by rw [e1], by rw [e1]; exact h1, h2⟩

end Go.Proofs.YtjpjmlljgcpbkaaGreat

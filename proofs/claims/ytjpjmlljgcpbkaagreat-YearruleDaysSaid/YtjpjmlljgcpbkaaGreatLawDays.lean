/- The law YearruleDays. -/
import Derived.Test.YtjpjmlljgcpbkaaGreatAwake
import Derived.Test.YtjpjmlljgcpbkaaGreatRef20a
namespace Go.Proofs.YtjpjmlljgcpbkaaGreat
set_option linter.unusedSimpArgs false
set_option linter.unusedVariables false
open Go.ChangeShapes Go.WideShapes Go.ChangeAt Go.RowKit

set_option maxRecDepth 100000 in
set_option maxHeartbeats 4000000 in
theorem law_YearruleDays (r : Rule) (y m : Int) (w : World) (hm : HasMax w) : Calls Tryz.prog 3 #[r.v, .int .i64 y, .int .i64 m] w fun e w' => e = .returned (.bool true) ∧ Below w.heap.size w w' := by
  show Calls Tryz.prog 3 #[.agg #[.string r.nm, .int .i64 r.fr, .int .i64 r.to, .int .i64 r.mo, .int .i64 r.k, .int .i64 r.wk, .int .i64 r.d, .int .i64 r.at_, .int .i64 r.cl, .int .i64 r.sv, .string r.lt], .int .i64 y, .int .i64 m] w _
  have HAt := Lib.hid (fun W => At_any r y W)
  have HRt := Lib.hid (fun W => r20_At r y W)
  have HRv := Lib.hid (fun W => r20_Valid r W)
  have HD := Lib.hid (fun W => Day_any y m r.k r.wk r.d W)
  have HRd := Lib.hid (fun W => r20_Day_any y m r.k r.wk r.d W)
  have HAw := Lib.hid (fun W h => awake_any W h)
  have hal : Below w.heap.size w (w.alloc (.cells #[.string r.nm, .int .i64 r.fr, .int .i64 r.to, .int .i64 r.mo, .int .i64 r.k, .int .i64 r.wk, .int .i64 r.d, .int .i64 r.at_, .int .i64 r.cl, .int .i64 r.sv, .string r.lt] 25)) := (Below.refl _ _).alloc (Nat.le_refl _) _
  have HM := Lib.hid (hm.on hal)
  clear hm
  generalize Cv.dayF y m r.k r.wk r.d = P at *
  have HX : Hid ((r.valid = false ∧ r.at y = (0, 1)) ∨ (r.valid = true ∧ r.active y = false ∧ r.at y = (0, 7)) ∨ (r.valid = true ∧ r.active y = true ∧ r.at y = (r.rat y, 0))) := by
    cases hv : r.valid
    · exact .inl ⟨rfl, if_pos hv⟩
    · cases hh : r.has y
      · exact .inr (.inl ⟨rfl, by unfold Rule.active; rw [hh]; simp, by unfold Rule.at; rw [if_neg (by simp [hv]), if_pos hh]⟩)
      · refine .inr (.inr ⟨rfl, by unfold Rule.active; rw [hv, hh]; rfl, ?_⟩)
        have hlo : r.rat y = r.loc y := by
          unfold Rule.has at hh
          simp only [Bool.and_eq_true, decide_eq_true_eq] at hh
          exact if_pos ⟨hv, by omega, by omega⟩
        unfold Rule.at; rw [if_neg (by simp [hv]), if_neg (by simp [hh]), hlo]
  rcases HX.out with ⟨a1, a2⟩ | ⟨a1, a3, a2⟩ | ⟨a1, a3, a2⟩
  all_goals
    rw [a2] at HAt
    rw [a1] at HRv
    try rw [a3] at HRt
    clear a1 a2 HX
    try clear a3
    generalize r.rat y = T at *
    go_enter Tryz.func3, Tryz.ntmps3
    go_wp2_with (first
      | (go_at_call 9; refine (HAw.out _ HM.out).mono ?_; rintro e w1 ⟨rfl, hb1⟩; obtain ⟨hc1, hf1⟩ := bcell hb1; have hs1 : w.heap.size < w1.heap.size := by have := hb1.size; simp at this; omega)
      | (go_at_call 10; refine (HD.out _).mono ?_; rintro e w2 ⟨rfl, hb2⟩; obtain ⟨hc2, hf2⟩ := bcell hb2; have hs2 : w.heap.size < w2.heap.size := by have := hb2.size; omega)
      | (go_at_call 11; refine (HRd.out _).mono ?_; rintro e w3 ⟨rfl, hb3⟩; obtain ⟨hc3, hf3⟩ := bcell hb3; have hs3 : w.heap.size < w3.heap.size := by have := hb3.size; omega)
      | (go_at_call 12; refine (HAt.out _).mono ?_; rintro e w4 ⟨rfl, hb4⟩; obtain ⟨hc4, hf4⟩ := bcell hb4; have hs4 : w.heap.size < w4.heap.size := by have := hb4.size; omega)
      | (go_at_call 13; refine (HRt.out _).mono ?_; rintro e w5 ⟨rfl, hb5⟩; obtain ⟨hc5, hf5⟩ := bcell hb5; have hs5 : w.heap.size < w5.heap.size := by have := hb5.size; omega)
      | (go_at_call 14; refine (HRv.out _).mono ?_; rintro e w6 ⟨rfl, hb6⟩))
    all_goals go_ret
    all_goals exact ⟨rfl, (((((hal.trans (hb1.mono (by simp))).trans (hb2.mono (by omega))).trans (hb3.mono (by omega))).trans (hb4.mono (by omega))).trans (hb5.mono (by omega))).trans (hb6.mono (by omega))⟩

end Go.Proofs.YtjpjmlljgcpbkaaGreat

/- The reference of layer 20: ValidOn, Valid, weekday. -/
import Derived.Test.YtjpjmlljgcpbkaaGreatRef20
namespace Go.Proofs.YtjpjmlljgcpbkaaGreat
set_option linter.unusedSimpArgs false
set_option linter.unusedVariables false
open Go.ChangeShapes Go.WideShapes Go.ChangeAt Go.RowKit

theorem r20_on_in (mo k wk d : Int) (w : World) (h1 : 1 ≤ mo) (h2 : mo ≤ 12) :
    Calls Tryz.prog 36 #[.int .i64 mo, .agg #[.int .i64 k, .int .i64 wk, .int .i64 d]] w fun e w' => e = .returned (.bool (Cv.fitsB mo k wk d)) ∧ Below w.heap.size w w' := by
  have hm : Cv.fitsB mo k wk d = if k = 1 then Cv.dayB mo d && wk == 0 else if k = 2 then Cv.wkB wk && d == 0 else if k = 3 then Cv.dayB mo d && Cv.wkB wk else if k = 4 then Cv.dayB mo d && Cv.wkB wk else false := by
    unfold Cv.fitsB; rw [if_neg (by omega)]
  rw [hm]
  clear hm
  have hl := Cv.lenF_bd 2000 mo
  have e1 : Cv.dayB mo d = (decide (1 ≤ d) && decide (d ≤ Cv.lenF 2000 mo)) := by unfold Cv.dayB; rw [Bool.eq_iff_iff]; simp
  have e2 : Cv.wkB wk = (decide (1 ≤ wk) && decide (wk ≤ 7)) := by unfold Cv.wkB; rw [Bool.eq_iff_iff]; simp
  rw [e1, e2]
  clear e1 e2
  by_cases g1 : 1 ≤ d
  all_goals by_cases g2 : 1 ≤ wk
  all_goals
    (try have n1 : decide (1 ≤ d) = false := by simpa using g1)
    (try have n2 : decide (1 ≤ wk) = false := by simpa using g2)
    go_enter Tryz.func36, Tryz.ntmps36
    go_wp2
    go_quiet ((go_at_call 37; exact Calls.quiet_of_same (r2_Length _ _ _)))
    go_wp2
  all_goals (go_ret; refine ⟨ret1 (vbool ?_), box_drew _ _ _⟩)
  all_goals simp only [beq_iff_eq, beq_eq_false_iff_ne, ne_eq] at *
  all_goals first | rfl | (simp [*]; done) | (simp_all; done) | (simp_all; omega) | (simp_all [Bool.and_comm]; done)
theorem r20_on (mo k wk d : Int) (w : World) :
    Calls Tryz.prog 36 #[.int .i64 mo, .agg #[.int .i64 k, .int .i64 wk, .int .i64 d]] w fun e w' => e = .returned (.bool (Cv.fitsB mo k wk d)) ∧ Below w.heap.size w w' := by
  by_cases h1 : 1 ≤ mo
  · by_cases h2 : mo ≤ 12
    · exact r20_on_in mo k wk d w h1 h2
    · rw [show Cv.fitsB mo k wk d = false from if_pos (by omega)]
      go_enter Tryz.func36, Tryz.ntmps36
      go_wp2
      go_ret
      exact ⟨rfl, box_drew _ _ 0⟩
  · rw [show Cv.fitsB mo k wk d = false from if_pos (by omega)]
    go_enter Tryz.func36, Tryz.ntmps36
    go_wp2
    go_ret
    exact ⟨rfl, box_drew _ _ 0⟩
theorem r20_weekday (d : Int) (w : World) (h1 : -800000 ≤ d) (h2 : d ≤ 3000000) : Calls Tryz.prog 39 #[.int .i64 d] w fun e w' => e = .returned (.int .i64 (Cv.wd d)) ∧ w' = w := by
  have e7 := tq_nonneg (d + 3 + 1400000) 7 (by omega) (by omega)
  go_enter Tryz.func39, Tryz.ntmps39
  go_wp2
  go_ret
  exact ⟨ret1 (vint (by unfold Cv.wd; omega)), rfl⟩

end Go.Proofs.YtjpjmlljgcpbkaaGreat

/- Contracts of yearrule.fits, back, days and Day over this seat's translation. -/
import Derived.Test.YtjpjmlljgcpbkaaGreatCivil
import Derived.Laws.EntriesVeiled
import Derived.Deep.RegionHeld3
namespace Go.Proofs.YtjpjmlljgcpbkaaGreat
set_option linter.unusedSimpArgs false
set_option linter.unusedVariables false
open Go.ChangeShapes Go.WideShapes Go.ChangeAt Go.RowKit

theorem quietL {P : Program} {f : FuncId} {args : Array Value} {w : World} {v : Value} (h : Calls P f args w fun e w' => e = .returned v ∧ w = w') : Calls P f args w fun e w' => e = .returned v ∧ ∃ m, w' = w.drewN m :=
  h.mono fun _ _ ⟨he, hm⟩ => ⟨he, 0, hm.symm⟩
theorem quietN {P : Program} {f : FuncId} {args : Array Value} {w : World} {v : Value} (h : Calls P f args w fun e w' => e = .returned v ∧ ∃ n, w.drewN n = w') : Calls P f args w fun e w' => e = .returned v ∧ ∃ m, w' = w.drewN m :=
  h.mono fun _ _ ⟨he, n, hm⟩ => ⟨he, n, hm.symm⟩

/-- fits at a month that is one -/
theorem fits_in (mo k wk d : Int) (w : World) (h1 : 1 ≤ mo) (h2 : mo ≤ 12) :
    Calls Tryz.prog 32 #[.int .i64 mo, .agg #[.int .i64 k, .int .i64 wk, .int .i64 d]] w fun e w' => e = .returned (.bool (Cv.fitsB mo k wk d)) ∧ Below w.heap.size w w' := by
  have hm : Cv.fitsB mo k wk d = if k = 1 then Cv.dayB mo d && wk == 0 else if k = 2 then Cv.wkB wk && d == 0 else if k = 3 then Cv.dayB mo d && Cv.wkB wk else if k = 4 then Cv.dayB mo d && Cv.wkB wk else false := by
    unfold Cv.fitsB; rw [if_neg (by omega)]
  rw [hm]
  clear hm
  have hl := Cv.lenF_bd 2000 mo
  have e1 : Cv.dayB mo d = (decide (1 ≤ d) && decide (d ≤ Cv.lenF 2000 mo)) := by unfold Cv.dayB; rw [Bool.eq_iff_iff]; simp
  have e2 : Cv.wkB wk = (decide (1 ≤ wk) && decide (wk ≤ 7)) := by unfold Cv.wkB; rw [Bool.eq_iff_iff]; simp
  rw [e1, e2]
  clear e1 e2
  by_cases g1 : 1 ≤ d
  all_goals by_cases g2 : 1 ≤ wk
  all_goals
    (try have n1 : decide (1 ≤ d) = false := by simpa using g1)
    (try have n2 : decide (1 ≤ wk) = false := by simpa using g2)
    go_enter Tryz.func32, Tryz.ntmps32
    go_wp2
    go_quiet ((go_at_call 33; exact Calls.quiet_of_same ((civil_Length _ _ _).mono fun _ _ h => ⟨h.1, h.2.symm⟩)))
    go_wp2
  all_goals (go_ret; refine ⟨ret1 (vbool ?_), box_drew _ _ _⟩)
  all_goals simp only [beq_iff_eq, beq_eq_false_iff_ne, ne_eq] at *
  all_goals first | rfl | (simp [*]; done) | (simp_all; done) | (simp_all; omega) | skip

theorem fits_any (mo k wk d : Int) (w : World) :
    Calls Tryz.prog 32 #[.int .i64 mo, .agg #[.int .i64 k, .int .i64 wk, .int .i64 d]] w fun e w' => e = .returned (.bool (Cv.fitsB mo k wk d)) ∧ Below w.heap.size w w' := by
  by_cases h1 : 1 ≤ mo
  · by_cases h2 : mo ≤ 12
    · exact fits_in mo k wk d w h1 h2
    · rw [show Cv.fitsB mo k wk d = false from if_pos (by omega)]
      go_enter Tryz.func32, Tryz.ntmps32
      go_wp2
      go_ret
      exact ⟨rfl, box_drew _ _ 0⟩
  · rw [show Cv.fitsB mo k wk d = false from if_pos (by omega)]
    go_enter Tryz.func32, Tryz.ntmps32
    go_wp2
    go_ret
    exact ⟨rfl, box_drew _ _ 0⟩

theorem back_any (day wk : Int) (w : World) (h1 : -719162 ≤ day) (h2 : day < 2932897) (h3 : 1 ≤ wk) (h4 : wk ≤ 7) :
    Calls Tryz.prog 63 #[.int .i64 day, .int .i64 wk] w fun e w' => e = .returned (.int .i64 (day - (Cv.wd day - wk) % 7)) ∧ ∃ n, w.drewN n = w' := by
  have hw : Cv.wdF day = Cv.wd day := if_pos ⟨h1, h2⟩
  have hb := Cv.wd_bd day
  have h5 : 0 ≤ Cv.wd day - wk + 7 := by omega
  have h6 : 0 ≤ (Cv.wd day - wk + 7) % 7 := by omega
  have h7 : (Cv.wd day - wk + 7) % 7 ≤ 6 := by omega
  have HW := Lib.hid hw
  clear hw
  go_enter Tryz.func63, Tryz.ntmps63
  go_wp2_with (go_at_call 65; refine (civil_Weekday _ _).mono ?_; rintro e w' ⟨rfl, n, rfl⟩; rw [HW.out])
  go_ret
  exact ⟨rfl, _, rfl⟩
theorem days1_any (day wk : Int) (w : World) : Calls Tryz.prog 62 #[.int .i64 day, .int .i64 wk] w fun e w' => e = .returned (.int .i64 day) ∧ ∃ n, w.drewN n = w' := by
  go_enter Tryz.func62, Tryz.ntmps62
  go_wp2
  go_ret
  exact ⟨rfl, 0, rfl⟩
theorem days2_any (day wk : Int) (w : World) (h1 : -719162 ≤ day) (h2 : day < 2932897) (h3 : 1 ≤ wk) (h4 : wk ≤ 7) :
    Calls Tryz.prog 64 #[.int .i64 day, .int .i64 wk] w fun e w' => e = .returned (.int .i64 (day + (wk - Cv.wd day) % 7)) ∧ ∃ n, w.drewN n = w' := by
  have hw : Cv.wdF day = Cv.wd day := if_pos ⟨h1, h2⟩
  have hb := Cv.wd_bd day
  have h5 : 0 ≤ wk - Cv.wd day + 7 := by omega
  have h6 : 0 ≤ (wk - Cv.wd day + 7) % 7 := by omega
  have h7 : (wk - Cv.wd day + 7) % 7 ≤ 6 := by omega
  have HW := Lib.hid hw
  clear hw
  go_enter Tryz.func64, Tryz.ntmps64
  go_wp2_with (go_at_call 65; refine (civil_Weekday _ _).mono ?_; rintro e w' ⟨rfl, n, rfl⟩; rw [HW.out])
  go_ret
  exact ⟨rfl, _, rfl⟩
def daysV : Value := .agg #[.nilFunc, .func (.func 62) #[] #[], .func (.func 63) #[] #[], .func (.func 64) #[] #[], .func (.func 63) #[] #[]]
theorem days_any (w : World) : Calls Tryz.prog 35 #[] w fun e w' => e = .returned daysV ∧ Below w.heap.size w w' := by
  go_enter Tryz.func35, Tryz.ntmps35
  go_wp2
  exact bodyPost_ret (v := daysV) (by simp [results, Tryz.results35, go_sem, daysV]) rfl ⟨rfl, (Below.refl _ _).alloc (Nat.le_refl _) _⟩
theorem daysAt1 (w : World) : (Instr.index 65 daysV (.int .i64 1)).run Tryz.prog w = .ok (.func (.func 62) #[] #[]) w := by kernel_rfl
theorem daysAt2 (w : World) : (Instr.index 65 daysV (.int .i64 2)).run Tryz.prog w = .ok (.func (.func 63) #[] #[]) w := by kernel_rfl
theorem daysAt3 (w : World) : (Instr.index 65 daysV (.int .i64 3)).run Tryz.prog w = .ok (.func (.func 64) #[] #[]) w := by kernel_rfl
theorem daysAt4 (w : World) : (Instr.index 65 daysV (.int .i64 4)).run Tryz.prog w = .ok (.func (.func 63) #[] #[]) w := by kernel_rfl

end Go.Proofs.YtjpjmlljgcpbkaaGreat

/- yearrule.event, At, Active. -/
import Derived.Test.YtjpjmlljgcpbkaaGreatYvalid
namespace Go.Proofs.YtjpjmlljgcpbkaaGreat
set_option linter.unusedSimpArgs false
set_option linter.unusedVariables false
open Go.ChangeShapes Go.WideShapes Go.ChangeAt Go.RowKit

theorem day_bd (r : Rule) (y : Int) : -719162 ≤ (r.day y).1 ∧ (r.day y).1 < 2932897 ∧ 0 ≤ (r.day y).2 ∧ (r.day y).2 ≤ 7 := Cv.dayF_bd _ _ _ _ _
/-- event: the second result is whether there is one; the first is of no meaning where there is none -/
def Rule.evt (r : Rule) (y : Int) : Int := if y < r.fr ∨ r.to < y then 0 else r.loc y
set_option maxHeartbeats 1000000 in
theorem event_any (r : Rule) (y : Int) (w : World) (h : r.Ok) : Calls Tryz.prog 40 #[r.v, .int .i64 y] w fun e w' => e = .returned (.tuple #[.int .i64 (r.evt y), .bool (r.has y)]) ∧ Below w.heap.size w w' := by
  show Calls Tryz.prog 40 #[.agg #[.string r.nm, .int .i64 r.fr, .int .i64 r.to, .int .i64 r.mo, .int .i64 r.k, .int .i64 r.wk, .int .i64 r.d, .int .i64 r.at_, .int .i64 r.cl, .int .i64 r.sv, .string r.lt], .int .i64 y] w _
  obtain ⟨b1, b2, b3, b4⟩ := day_bd r y
  have hd : Cv.dayF y r.mo r.k r.wk r.d = r.day y := rfl
  obtain ⟨h1, h2, h3, h4, h5, h6, h7, h8, h9, h10, h11⟩ := h
  clear h4 h7 h8 h9 h10 h11
  by_cases g : y < r.fr ∨ r.to < y
  · rw [show r.evt y = 0 from if_pos g, show r.has y = false by unfold Rule.has; rw [decide_eq_false (by omega)]; rfl]
    rcases g with g | g
    · go_enter Tryz.func40, Tryz.ntmps40
      go_wp2
      go_ret2
      exact ⟨rfl, (Below.refl _ _).alloc (Nat.le_refl _) _⟩
    · by_cases g' : y < r.fr
      · omega
      · go_enter Tryz.func40, Tryz.ntmps40
        go_wp2
        go_ret2
        exact ⟨rfl, (Below.refl _ _).alloc (Nat.le_refl _) _⟩
  · rw [show r.evt y = r.loc y from if_neg g, show r.has y = ((r.day y).2 == 0) by unfold Rule.has; rw [decide_eq_true (by omega)]; rfl]
    have HD := Lib.hid hd
    obtain ⟨g1, g2⟩ : r.fr ≤ y ∧ y ≤ r.to := by omega
    clear hd g
    unfold Rule.loc
    generalize hD : (r.day y).1 = D at *
    generalize hE : (r.day y).2 = E at *
    have HE := Lib.hid hE
    have HDD := Lib.hid hD
    clear hD hE
    go_enter Tryz.func40, Tryz.ntmps40
    go_wp2_with (go_at_call 10; refine (Day_any _ _ _ _ _ _).mono ?_; rintro e w1 ⟨rfl, hb1⟩; rw [HD.out, HE.out, HDD.out]; obtain ⟨hc1, hf1⟩ := bcell hb1; have hs1 : w.heap.size < w1.heap.size := by have := hb1.size; simp at this; omega)
    go_ret2
    exact ⟨rfl, ((Below.refl _ _).alloc (Nat.le_refl _) _).trans (hb1.mono (by simp))⟩

set_option maxHeartbeats 1000000 in
theorem At_any (r : Rule) (y : Int) (w : World) : Calls Tryz.prog 12 #[r.v, .int .i64 y] w fun e w' => e = .returned (.tuple #[.int .i64 (r.at y).1, .int .i64 (r.at y).2]) ∧ Below w.heap.size w w' := by
  show Calls Tryz.prog 12 #[.agg #[.string r.nm, .int .i64 r.fr, .int .i64 r.to, .int .i64 r.mo, .int .i64 r.k, .int .i64 r.wk, .int .i64 r.d, .int .i64 r.at_, .int .i64 r.cl, .int .i64 r.sv, .string r.lt], .int .i64 y] w _
  have hV := fun W => Valid_any r W
  have HV := Lib.hid hV
  clear hV
  cases hv : r.valid
  · rw [show r.at y = (0, 1) from if_pos hv]
    have H := Lib.hid hv
    clear hv
    go_enter Tryz.func12, Tryz.ntmps12
    go_wp2_with (go_at_call 18; refine (HV.out _).mono ?_; rintro e w1 ⟨rfl, hb1⟩; rw [H.out])
    go_ret2
    exact ⟨rfl, ((Below.refl _ _).alloc (Nat.le_refl _) _).trans (hb1.mono (by simp))⟩
  · have hE := fun W => event_any r y W (Rule.valid_ok hv)
    have HE := Lib.hid hE
    have H := Lib.hid hv
    cases hh : r.has y
    · rw [show r.at y = (0, 7) by unfold Rule.at; rw [if_neg (by simp [hv]), if_pos hh]]
      have HH := Lib.hid hh
      clear hv hE hh
      go_enter Tryz.func12, Tryz.ntmps12
      go_wp2_with (first
        | (go_at_call 18; refine (HV.out _).mono ?_; rintro e w1 ⟨rfl, hb1⟩; rw [H.out]; obtain ⟨hc1, hf1⟩ := bcell hb1; have hs1 : w.heap.size < w1.heap.size := by have := hb1.size; simp at this; omega)
        | (go_at_call 40; refine (HE.out _).mono ?_; rintro e w2 ⟨rfl, hb2⟩; rw [HH.out]))
      go_ret2
      exact ⟨rfl, (((Below.refl _ _).alloc (Nat.le_refl _) _).trans (hb1.mono (by simp))).trans (hb2.mono (by omega))⟩
    · have hlo : r.evt y = r.loc y := by
        unfold Rule.has at hh
        simp only [Bool.and_eq_true, decide_eq_true_eq] at hh
        exact if_neg (by omega)
      rw [show r.at y = (r.loc y, 0) by unfold Rule.at; rw [if_neg (by simp [hv]), if_neg (by simp [hh])]]
      have HH := Lib.hid hh
      have HL := Lib.hid hlo
      clear hv hE hh hlo
      go_enter Tryz.func12, Tryz.ntmps12
      go_wp2_with (first
        | (go_at_call 18; refine (HV.out _).mono ?_; rintro e w1 ⟨rfl, hb1⟩; rw [H.out]; obtain ⟨hc1, hf1⟩ := bcell hb1; have hs1 : w.heap.size < w1.heap.size := by have := hb1.size; simp at this; omega)
        | (go_at_call 40; refine (HE.out _).mono ?_; rintro e w2 ⟨rfl, hb2⟩; rw [HH.out, HL.out]))
      go_ret2
      exact ⟨rfl, (((Below.refl _ _).alloc (Nat.le_refl _) _).trans (hb1.mono (by simp))).trans (hb2.mono (by omega))⟩

theorem Active_any (r : Rule) (y : Int) (w : World) : Calls Tryz.prog 19 #[r.v, .int .i64 y] w fun e w' => e = .returned (.bool (r.active y)) ∧ Below w.heap.size w w' := by
  show Calls Tryz.prog 19 #[.agg #[.string r.nm, .int .i64 r.fr, .int .i64 r.to, .int .i64 r.mo, .int .i64 r.k, .int .i64 r.wk, .int .i64 r.d, .int .i64 r.at_, .int .i64 r.cl, .int .i64 r.sv, .string r.lt], .int .i64 y] w _
  have hA := fun W => At_any r y W
  have he : ((r.at y).2 == 0) = r.active y := by
    unfold Rule.at Rule.active; cases r.valid <;> cases r.has y <;> rfl
  have HA := Lib.hid hA
  have HE := Lib.hid he
  clear hA he
  go_enter Tryz.func19, Tryz.ntmps19
  go_wp2_with (go_at_call 12; refine (HA.out _).mono ?_; rintro e w1 ⟨rfl, hb1⟩)
  go_ret
  exact ⟨ret1 (vbool HE.out), ((Below.refl _ _).alloc (Nat.le_refl _) _).trans (hb1.mono (by simp))⟩

end Go.Proofs.YtjpjmlljgcpbkaaGreat

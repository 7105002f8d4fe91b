/- The reference of layer 20: Day in one, At. -/
import Derived.Test.YtjpjmlljgcpbkaaGreatRef20d
import Derived.Test.YtjpjmlljgcpbkaaGreatAt
namespace Go.Proofs.YtjpjmlljgcpbkaaGreat
set_option linter.unusedSimpArgs false
set_option linter.unusedVariables false
open Go.ChangeShapes Go.WideShapes Go.ChangeAt Go.RowKit

theorem r20_Day_any (y mo k wk d : Int) (w : World) :
    Calls Tryz.prog 11 #[.int .i64 y, .int .i64 mo, .agg #[.int .i64 k, .int .i64 wk, .int .i64 d]] w fun e w' => e = .returned (.tuple #[.int .i64 (Cv.dayF y mo k wk d).1, .int .i64 (Cv.dayF y mo k wk d).2]) ∧ Below w.heap.size w w' := by
  cases hf : Cv.fitsB mo k wk d
  · exact r20_Day_no y mo k wk d w (.inl hf)
  · by_cases hy : 1 ≤ y ∧ y ≤ 9999
    · cases hv : Cv.validB y mo (Cv.onN y mo k d)
      · exact r20_Day_date y mo k wk d w hf hy hv
      · have hk := Cv.fitsB_k hf
        have hk4 : k = 1 ∨ k = 2 ∨ k = 3 ∨ k = 4 := by omega
        rcases hk4 with rfl | rfl | rfl | rfl
        · exact r20_Day_one y mo wk d w hf hy hv
        · exact r20_Day_last y mo wk d w hf hy hv
        · exact r20_Day_after y mo wk d w hf hy hv
        · exact r20_Day_before y mo wk d w hf hy hv
    · exact r20_Day_no y mo k wk d w (.inr hy)

/-- the reference's time of an event; of no meaning where there is none -/
def Rule.rat (r : Rule) (y : Int) : Int := if r.valid = true ∧ r.fr ≤ y ∧ y ≤ r.to then r.loc y else 0
set_option maxHeartbeats 1000000 in
theorem r20_At (r : Rule) (y : Int) (w : World) : Calls Tryz.prog 13 #[r.v, .int .i64 y] w fun e w' => e = .returned (.tuple #[.int .i64 (r.rat y), .bool (r.active y)]) ∧ Below w.heap.size w w' := by
  show Calls Tryz.prog 13 #[.agg #[.string r.nm, .int .i64 r.fr, .int .i64 r.to, .int .i64 r.mo, .int .i64 r.k, .int .i64 r.wk, .int .i64 r.d, .int .i64 r.at_, .int .i64 r.cl, .int .i64 r.sv, .string r.lt], .int .i64 y] w _
  have HV := Lib.hid (fun W => r20_Valid r W)
  cases hv : r.valid
  · rw [show r.rat y = 0 from if_neg (by simp [hv]), show r.active y = false by unfold Rule.active; rw [hv]; rfl]
    have H := Lib.hid hv
    clear hv
    go_enter Tryz.func13, Tryz.ntmps13
    go_wp2_with (go_at_call 14; refine (HV.out _).mono ?_; rintro e w1 ⟨rfl, hb1⟩; rw [H.out])
    go_ret2
    exact ⟨rfl, ((Below.refl _ _).alloc (Nat.le_refl _) _).trans (hb1.mono (by simp))⟩
  · have H := Lib.hid hv
    by_cases g : r.fr ≤ y ∧ y ≤ r.to
    · have ho := Rule.valid_ok hv
      rw [show r.rat y = r.loc y from if_pos ⟨hv, g.1, g.2⟩, show r.active y = ((r.day y).2 == 0) by unfold Rule.active Rule.has; rw [hv, decide_eq_true g]; rfl]
      have HD := Lib.hid (show Cv.dayF y r.mo r.k r.wk r.d = r.day y from rfl)
      obtain ⟨b1, b2, b3, b4⟩ := day_bd r y
      have t0 := ho.at0
      have t1 := ho.at1
      obtain ⟨g1, g2⟩ := g
      clear hv ho
      have hloc : 86400 * (r.day y).1 + r.at_ = r.loc y := by unfold Rule.loc; omega
      have HLoc := Lib.hid hloc
      clear hloc
      obtain ⟨D, hD⟩ : ∃ D, Hid ((r.day y).1 = D) := ⟨_, rfl⟩
      obtain ⟨E, hE⟩ : ∃ E, Hid ((r.day y).2 = E) := ⟨_, rfl⟩
      rw [hD.out] at b1 b2 HLoc
      rw [hE.out] at b3 b4 ⊢
      go_enter Tryz.func13, Tryz.ntmps13
      go_wp2_with (first
        | (go_at_call 14; refine (HV.out _).mono ?_; rintro e w1 ⟨rfl, hb1⟩; rw [H.out]; obtain ⟨hc1, hf1⟩ := bcell hb1; have hs1 : w.heap.size < w1.heap.size := by have := hb1.size; simp at this; omega)
        | (go_at_call 11; refine (r20_Day_any _ _ _ _ _ _).mono ?_; rintro e w2 ⟨rfl, hb2⟩; rw [HD.out, hD.out, hE.out]; obtain ⟨hc2, hf2⟩ := bcell hb2))
      go_ret2
      exact ⟨ret2 (vint HLoc.out) rfl, (((Below.refl _ _).alloc (Nat.le_refl _) _).trans (hb1.mono (by simp))).trans (hb2.mono (by omega))⟩
    · rw [show r.rat y = 0 from if_neg (by simp [hv]; omega), show r.active y = false by unfold Rule.active Rule.has; rw [decide_eq_false g]; simp]
      clear hv
      by_cases g1 : r.fr ≤ y
      all_goals
        go_enter Tryz.func13, Tryz.ntmps13
        go_wp2_with (go_at_call 14; refine (HV.out _).mono ?_; rintro e w1 ⟨rfl, hb1⟩; rw [H.out]; obtain ⟨hc1, hf1⟩ := bcell hb1; have hs1 : w.heap.size < w1.heap.size := by have := hb1.size; simp at this; omega)
        go_ret2
        exact ⟨rfl, ((Below.refl _ _).alloc (Nat.le_refl _) _).trans (hb1.mono (by simp))⟩

end Go.Proofs.YtjpjmlljgcpbkaaGreat

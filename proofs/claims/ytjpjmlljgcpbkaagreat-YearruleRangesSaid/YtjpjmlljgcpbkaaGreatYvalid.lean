/- yearrule.Valid, event, At, Active. -/
import Derived.Test.YtjpjmlljgcpbkaaGreatValid
import Derived.Test.YtjpjmlljgcpbkaaGreatRule
namespace Go.Proofs.YtjpjmlljgcpbkaaGreat
set_option linter.unusedSimpArgs false
set_option linter.unusedVariables false
open Go.ChangeShapes Go.WideShapes Go.ChangeAt Go.RowKit

set_option maxRecDepth 100000 in
set_option maxHeartbeats 2000000 in
theorem Valid_any (r : Rule) (w : World) : Calls Tryz.prog 18 #[r.v] w fun e w' => e = .returned (.bool r.valid) ∧ Below w.heap.size w w' := by
  show Calls Tryz.prog 18 #[.agg #[.string r.nm, .int .i64 r.fr, .int .i64 r.to, .int .i64 r.mo, .int .i64 r.k, .int .i64 r.wk, .int .i64 r.d, .int .i64 r.at_, .int .i64 r.cl, .int .i64 r.sv, .string r.lt]] w _
  obtain ⟨nm, fr, to, mo, k, wk, d, at_, cl, sv, lt⟩ := r
  dsimp only
  cases hn : Cv.nameZ nm
  · have HN := Lib.hid hn
    clear hn
    go_enter Tryz.func18, Tryz.ntmps18
    go_wp2_with (first
          | (go_at_call 49; refine (zoneName _ _).mono ?_; rintro e w' ⟨rfl, rfl⟩; rw [HN.out]))
    go_ret
    exact ⟨ret1 (vbool (by simp [Rule.valid, HN.out])), (Below.refl _ _).alloc (Nat.le_refl _) _⟩
  · have HN := Lib.hid hn
    clear hn
    by_cases h8 : lt.size ≤ 8
    · cases hl : Cv.lettersB [] lt.data.toList
      · have HL := Lib.hid hl
        clear hl
        go_enter Tryz.func18, Tryz.ntmps18
        go_wp2_with (first
          | (go_at_call 49; refine (zoneName _ _).mono ?_; rintro e w' ⟨rfl, rfl⟩; rw [HN.out])
          | (go_at_call 50; refine (letters_any _ _ _ oth_none).mono ?_; rintro e w1 ⟨rfl, hb1⟩; rw [HL.out]))
        go_ret
        exact ⟨ret1 (vbool (by simp [Rule.valid, HL.out])), ((Below.refl _ _).alloc (Nat.le_refl _) _).trans (hb1.mono (by simp))⟩
      · have HL := Lib.hid hl
        clear hl
        go_enter Tryz.func18, Tryz.ntmps18
        go_wp2_with (first
          | (go_at_call 49; refine (zoneName _ _).mono ?_; rintro e w' ⟨rfl, rfl⟩; rw [HN.out])
          | (go_at_call 50; refine (letters_any _ _ _ oth_none).mono ?_; rintro e w1 ⟨rfl, hb1⟩; rw [HL.out]; obtain ⟨hc1, hf1⟩ := bcell hb1; have hs1 : w.heap.size < w1.heap.size := by have := hb1.size; simp at this; omega)
          | (go_at_call 32; refine (fits_any _ _ _ _ _).mono ?_; rintro e w2 ⟨rfl, hb2⟩; obtain ⟨hc2, hf2⟩ := bcell hb2))
        all_goals
          go_ret
          refine ⟨ret1 (vbool ?_), by first | exact (((Below.refl _ _).alloc (Nat.le_refl _) _).trans (hb1.mono (by simp))).trans (hb2.mono (by omega)) | exact ((Below.refl _ _).alloc (Nat.le_refl _) _).trans (hb1.mono (by simp))⟩
          unfold Rule.valid Rule.ok
          dsimp only
          rw [HN.out, HL.out, decide_eq_true h8]
          simp only [Bool.true_and]
          clear HN HL h8 hb1
          first | (simp [*]; done) | (simp_all; done) | (simp [*]; omega)
    · go_enter Tryz.func18, Tryz.ntmps18
      go_wp2_with (first
          | (go_at_call 49; refine (zoneName _ _).mono ?_; rintro e w' ⟨rfl, rfl⟩; rw [HN.out]))
      go_ret
      exact ⟨ret1 (vbool (by simp [Rule.valid, h8])), (Below.refl _ _).alloc (Nat.le_refl _) _⟩

end Go.Proofs.YtjpjmlljgcpbkaaGreat

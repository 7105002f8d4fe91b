/- The reference of layer 20: Valid. -/
import Derived.Test.YtdafcipilknecaaGreatDoorGRa
import Derived.Test.YtdafcipilknecaaGreatDoorGBase
namespace Go.Proofs.YtdafcipilknecaaGreatDoor
set_option linter.unusedSimpArgs false
set_option linter.unusedVariables false
open Go.ChangeShapes Go.WideShapes Go.ChangeAt Go.RowKit
set_option maxRecDepth 100000 in
set_option maxHeartbeats 2000000 in
theorem r20_Valid (r : Rule) (w : World) : Calls Tryz.prog 143 #[r.v] w fun e w' => e = .returned (.bool r.valid) ∧ Below w.heap.size w w' := by
 show Calls Tryz.prog 143 #[.agg #[.string r.nm, .int .i64 r.fr, .int .i64 r.to, .int .i64 r.mo, .int .i64 r.k, .int .i64 r.wk, .int .i64 r.d, .int .i64 r.at_, .int .i64 r.cl, .int .i64 r.sv, .string r.lt]] w _
 obtain ⟨nm, fr, to, mo, k, wk, d, at_, cl, sv, lt⟩ := r
 dsimp only
 cases hn : Cv.nameZ nm
 ·have HN := Lib.hid hn
  clear hn
  go_enter Tryz.func143, Tryz.ntmps143
  go_wp2_with (first
     | (go_at_call 181; refine (r20_Name _ _).mono ?_; rintro e w' ⟨rfl, rfl⟩; rw [HN.out]))
  go_ret
  exact ⟨ret1 (vbool (by simp [Rule.valid, HN.out])), (Below.refl _ _).alloc (Nat.le_refl _) _⟩
 ·have HN := Lib.hid hn
  clear hn
  cases hl : (decide (lt.size ≤ 8) && Cv.lettersB [] lt.data.toList)
  ·have HL := Lib.hid hl
   clear hl
   go_enter Tryz.func143, Tryz.ntmps143
   go_wp2_with (first
    | (go_at_call 181; refine (r20_Name _ _).mono ?_; rintro e w' ⟨rfl, rfl⟩; rw [HN.out])
    | (go_at_call 178; refine (r20_Letter _ _).mono ?_; rintro e w1 ⟨rfl, rfl⟩; rw [HL.out]))
   go_ret
   exact ⟨ret1 (vbool (by unfold Rule.valid; dsimp only; rw [HN.out, ← Bool.and_assoc (decide _), HL.out]; simp)), (Below.refl _ _).alloc (Nat.le_refl _) _⟩
  ·have HL := Lib.hid hl
   clear hl
   go_enter Tryz.func143, Tryz.ntmps143
   go_wp2_with (first
    | (go_at_call 181; refine (r20_Name _ _).mono ?_; rintro e w' ⟨rfl, rfl⟩; rw [HN.out])
    | (go_at_call 178; refine (r20_Letter _ _).mono ?_; rintro e w1 ⟨rfl, rfl⟩; rw [HL.out])
    | (go_at_call 182; refine (r20_on _ _ _ _ _).mono ?_; rintro e w2 ⟨rfl, hb2⟩; obtain ⟨hc2, hf2⟩ := bcell hb2))
   all_goals
    go_ret
    refine ⟨ret1 (vbool ?_), by first | exact ((Below.refl _ _).alloc (Nat.le_refl _) _).trans (hb2.mono (by simp)) | exact (Below.refl _ _).alloc (Nat.le_refl _) _⟩
    unfold Rule.valid Rule.ok
    dsimp only
    rw [HN.out, ← Bool.and_assoc (decide _), HL.out]
    simp only [Bool.true_and]
    clear HN HL
    first | (simp [*]; done) | (simp_all; done) | (simp [*]; omega)
end Go.Proofs.YtdafcipilknecaaGreatDoor

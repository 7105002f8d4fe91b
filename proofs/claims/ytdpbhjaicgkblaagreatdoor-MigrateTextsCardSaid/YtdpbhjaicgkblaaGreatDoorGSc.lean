/- Joined by merge.py: Ref25. -/
import Derived.Test.YtdpbhjaicgkblaaGreatDoorGStm
import Derived.Test.YtdpbhjaicgkblaaGreatDoorGRe
/- The reference of layer 25: Valid. -/
namespace Go.Proofs.YtdpbhjaicgkblaaGreatDoor
set_option linter.unusedSimpArgs false
set_option linter.unusedVariables false
open Go.ChangeShapes Go.WideShapes Go.ChangeAt Go.RowKit
theorem r23_Valid (g f : Int) (w : World) : Calls Tryz.prog 73 #[.agg #[.int .i64 g, .int .i64 f]] w fun e w' => e = .returned (.bool (polB g f)) ∧ Below w.heap.size w w' := by
 have hB1 : Below w.heap.size w (w.alloc (.cells #[.int .i64 g, .int .i64 f] 36)) := (Below.refl _ _).alloc (Nat.le_refl _) _
 have e : polB g f = (decide (1 ≤ g) && (decide (g ≤ 4) && (decide (1 ≤ f) && decide (f ≤ 3)))) := by
  unfold polB
  simp only [Bool.decide_and]
 rw [e]
 clear e
 by_cases c1 : 1 ≤ g
 ·by_cases c2 : g ≤ 4
  ·by_cases c3 : 1 ≤ f
   ·by_cases c4 : f ≤ 3
    ·rw [decide_eq_true c1, decide_eq_true c2, decide_eq_true c3, decide_eq_true c4]
     go_enter Tryz.func73, Tryz.ntmps73
     go_wp2
     go_ret
     exact ⟨rfl, hB1⟩
    ·rw [decide_eq_true c1, decide_eq_true c2, decide_eq_true c3, decide_eq_false c4]
     go_enter Tryz.func73, Tryz.ntmps73
     go_wp2
     go_ret
     exact ⟨rfl, hB1⟩
   ·rw [decide_eq_true c1, decide_eq_true c2, decide_eq_false c3]
    go_enter Tryz.func73, Tryz.ntmps73
    go_wp2
    go_ret
    exact ⟨rfl, hB1⟩
  ·rw [decide_eq_true c1, decide_eq_false c2]
   go_enter Tryz.func73, Tryz.ntmps73
   go_wp2
   go_ret
   exact ⟨rfl, hB1⟩
 ·rw [decide_eq_false c1]
  go_enter Tryz.func73, Tryz.ntmps73
  go_wp2
  go_ret
  exact ⟨rfl, hB1⟩
theorem r25_Instant (t : Int) (w : World) : Calls Tryz.prog 31 #[.int .i64 t] w fun e w' => e = .returned (.bool (insT t)) ∧ w = w' := by
 unfold insT
 by_cases h1 : -62135596800 ≤ t
 ·have d1 := decide_eq_true h1
  go_enter Tryz.func31, Tryz.ntmps31
  go_wp2
  go_ret
  exact ⟨ret1 (vbool (by simp [h1])), rfl⟩
 ·have d1 := decide_eq_false h1
  go_enter Tryz.func31, Tryz.ntmps31
  go_wp2
  go_ret
  exact ⟨ret1 (vbool (by simp [h1])), rfl⟩
set_option maxRecDepth 100000 in
set_option maxHeartbeats 1500000 in
theorem r25_Valid (s : Stm) (w : World) : Calls Tryz.prog 51 #[.agg (encStm s).toArray] w fun e w' => e = .returned (.bool (stmB s)) ∧ Below w.heap.size w w' := by
 have HI := Lib.hid (fun W => r25_Instant s.at_ W)
 have HN := Lib.hid (fun W => r18_Name s.zn W)
 have HP := Lib.hid (fun W => r23_Valid s.gap s.fold W)
 have b0 := Blk.new w #[.int .i64 s.at_, .string s.zn, .int .i64 s.gap, .int .i64 s.fold] 38
 have hB1 : Below w.heap.size w (w.alloc (.cells #[.int .i64 s.at_, .string s.zn, .int .i64 s.gap, .int .i64 s.fold] 38)) := (Below.refl _ _).alloc (Nat.le_refl _) _
 have v0 := blk_cl b0 0 _ rfl
 have v1 := blk_cl b0 1 _ rfl
 have v2 := blk_cl b0 2 _ rfl
 have v3 := blk_cl b0 3 _ rfl
 have vl := b0.lt
 show Calls Tryz.prog 51 #[.agg #[.int .i64 s.at_, .string s.zn, .int .i64 s.gap, .int .i64 s.fold]] w _
 cases hi : insT s.at_
 ·rw [hi] at HI
  rw [show stmB s = false from by unfold stmB; rw [hi]; rfl]
  go_enter Tryz.func51, Tryz.ntmps51
  go_wp2_with (go_at_call 31; refine (HI.out _).mono ?_; rintro e w1 ⟨rfl, rfl⟩)
  go_ret
  exact ⟨rfl, hB1⟩
 rw [hi] at HI
 cases he : emptyB s.zn
 ·rw [show stmB s = (Cv.nameZ s.zn && polB s.gap s.fold) from by unfold stmB; rw [hi, he]; rfl]
  clear hi
  unfold emptyB at he
  cases hn : Cv.nameZ s.zn
  ·rw [hn] at HN
   rw [Bool.false_and]
   clear hn
   go_enter Tryz.func51, Tryz.ntmps51
   go_wp2_with (first | (go_at_call 31; refine (HI.out _).mono ?_; rintro e w1 ⟨rfl, rfl⟩) | (go_at_call 72; refine (HN.out _).mono ?_; rintro e w2 ⟨rfl, rfl⟩))
   go_ret
   exact ⟨rfl, hB1⟩
  ·rw [hn] at HN
   rw [Bool.true_and]
   clear hn
   go_enter Tryz.func51, Tryz.ntmps51
   go_wp2_with (first | (go_at_call 31; refine (HI.out _).mono ?_; rintro e w1 ⟨rfl, rfl⟩) | (go_at_call 72; refine (HN.out _).mono ?_; rintro e w2 ⟨rfl, rfl⟩) | (go_at_call 73; refine (HP.out _).mono ?_; rintro e w3 ⟨rfl, hb3⟩))
   go_ret
   exact ⟨rfl, hB1.trans (hb3.mono hB1.size)⟩
 ·rw [show stmB s = decide (s.gap = 0 ∧ s.fold = 0) from by unfold stmB; rw [hi, he]; rfl]
  clear hi HN HP
  unfold emptyB at he
  obtain ⟨sa, sz, sg, sf⟩ := s
  dsimp only at *
  by_cases hg : sg = 0
  ·subst hg
   by_cases hf : sf = 0
   ·subst hf
    go_enter Tryz.func51, Tryz.ntmps51
    go_wp2_with (go_at_call 31; refine (HI.out _).mono ?_; rintro e w1 ⟨rfl, rfl⟩)
    go_ret
    exact ⟨rfl, hB1⟩
   ·have d2 : (sf == 0) = false := by rw [beq_eq_false_iff_ne]; exact hf
    rw [decide_eq_false (fun h => hf h.2)]
    go_enter Tryz.func51, Tryz.ntmps51
    go_wp2_with (go_at_call 31; refine (HI.out _).mono ?_; rintro e w1 ⟨rfl, rfl⟩)
    all_goals (go_ret; exact ⟨ret1 (vbool (by simp [hf])), hB1⟩)
  ·have d1 : (sg == 0) = false := by rw [beq_eq_false_iff_ne]; exact hg
   rw [decide_eq_false (fun h => hg h.1)]
   go_enter Tryz.func51, Tryz.ntmps51
   go_wp2_with (go_at_call 31; refine (HI.out _).mono ?_; rintro e w1 ⟨rfl, rfl⟩)
   all_goals (go_ret; exact ⟨ret1 (vbool (by simp [hg])), hB1⟩)
end Go.Proofs.YtdpbhjaicgkblaaGreatDoor

/- Joined by merge.py: StT, StC, StD, StE, StF. -/
import Derived.Test.YtdafcipilknecaaGreatDoorJCivil
import Derived.Test.YtdafcipilknecaaGreatDoorGZn
import Derived.Test.YtdafcipilknecaaGreatDoorGHis
import Derived.Laws.BytesArg
import Derived.Test.YtdafcipilknecaaGreatDoorGZa
import Derived.BigQuiet
import Derived.Test.YtdafcipilknecaaGreatDoorGZc
import Derived.Test.YtdafcipilknecaaGreatDoorGStm
/- integer.Text at some numbers. Printed by gen_stt.py. -/
namespace Go.Proofs.YtdafcipilknecaaGreatDoor
set_option linter.unusedSimpArgs false
set_option linter.unusedVariables false
open Go.ChangeShapes Go.WideShapes Go.ChangeAt Go.RowKit
theorem size_any (n : Int) (h : 0 ≤ n ∧ n < 1000000) (w : World) : Calls Tryz.prog 139 #[.int .i64 n] w fun e w' => e = .returned (.int .u64 n) ∧ w' = w := by
 go_enter Tryz.func139, Tryz.ntmps139
 go_wp2
 go_ret
 exact ⟨rfl, rfl⟩
set_option maxRecDepth 100000 in
set_option maxHeartbeats 2000000 in
theorem text_0 (w : World) : Calls Tryz.prog 105 #[.int .i64 0, .int .i64 2] w fun e w' => e = .returned (.string ⟨#[48, 48]⟩) ∧ Below w.heap.size w w' := by
 have HS := Lib.hid (fun W => size_any 0 (by decide) W)
 have b0 := Blk.new w #[.int .u8 0, .int .u8 0, .int .u8 0, .int .u8 0, .int .u8 0, .int .u8 0, .int .u8 0, .int .u8 0, .int .u8 0, .int .u8 0, .int .u8 0, .int .u8 0, .int .u8 0, .int .u8 0, .int .u8 0, .int .u8 0, .int .u8 0, .int .u8 0, .int .u8 0, .int .u8 0, .int .u8 0, .int .u8 0, .int .u8 48, .int .u8 48] 183
 have h0 := blk_cl b0 22 _ rfl
 have h1 := blk_cl b0 23 _ rfl
 have hcv : (convert 107 9 (.slice (some ⟨w.heap.size, 22, none⟩) 2 2)).run Tryz.prog (w.alloc (.cells #[.int .u8 0, .int .u8 0, .int .u8 0, .int .u8 0, .int .u8 0, .int .u8 0, .int .u8 0, .int .u8 0, .int .u8 0, .int .u8 0, .int .u8 0, .int .u8 0, .int .u8 0, .int .u8 0, .int .u8 0, .int .u8 0, .int .u8 0, .int .u8 0, .int .u8 0, .int .u8 0, .int .u8 0, .int .u8 0, .int .u8 48, .int .u8 48] 183)) = .ok (.string ⟨#[48, 48]⟩) (w.alloc (.cells #[.int .u8 0, .int .u8 0, .int .u8 0, .int .u8 0, .int .u8 0, .int .u8 0, .int .u8 0, .int .u8 0, .int .u8 0, .int .u8 0, .int .u8 0, .int .u8 0, .int .u8 0, .int .u8 0, .int .u8 0, .int .u8 0, .int .u8 0, .int .u8 0, .int .u8 0, .int .u8 0, .int .u8 0, .int .u8 0, .int .u8 48, .int .u8 48] 183)) :=
  run_convert_bytes_arg _ _ 5 Tryz.underlying107 Tryz.underlying5 w.heap.size 22 2 2 [48, 48] rfl (fun i hi => by
   match i, hi with
   | 0, _ => exact h0
   | 1, _ => exact h1) _ Tryz.underlying9
 have hB : Below w.heap.size w (w.alloc (.cells #[.int .u8 0, .int .u8 0, .int .u8 0, .int .u8 0, .int .u8 0, .int .u8 0, .int .u8 0, .int .u8 0, .int .u8 0, .int .u8 0, .int .u8 0, .int .u8 0, .int .u8 0, .int .u8 0, .int .u8 0, .int .u8 0, .int .u8 0, .int .u8 0, .int .u8 0, .int .u8 0, .int .u8 0, .int .u8 0, .int .u8 48, .int .u8 48] 183)) := (Below.refl _ _).alloc (Nat.le_refl _) _
 clear b0 h0 h1
 go_enter Tryz.func105, Tryz.ntmps105
 go_wp2_with (go_at_call 139; refine (HS.out _).mono ?_; rintro e w1 ⟨rfl, rfl⟩)
 refine wp_loop_rounds 3 ?_
 rw [rounds_succ]
 go_wp2
 rw [rounds_succ]
 go_wp2
 rw [rounds_succ]
 go_wp2
 go_ret
 exact ⟨rfl, hB⟩
set_option maxRecDepth 100000 in
set_option maxHeartbeats 2000000 in
theorem text_1 (w : World) : Calls Tryz.prog 105 #[.int .i64 1, .int .i64 2] w fun e w' => e = .returned (.string ⟨#[48, 49]⟩) ∧ Below w.heap.size w w' := by
 have HS := Lib.hid (fun W => size_any 1 (by decide) W)
 have b0 := Blk.new w #[.int .u8 0, .int .u8 0, .int .u8 0, .int .u8 0, .int .u8 0, .int .u8 0, .int .u8 0, .int .u8 0, .int .u8 0, .int .u8 0, .int .u8 0, .int .u8 0, .int .u8 0, .int .u8 0, .int .u8 0, .int .u8 0, .int .u8 0, .int .u8 0, .int .u8 0, .int .u8 0, .int .u8 0, .int .u8 0, .int .u8 48, .int .u8 49] 183
 have h0 := blk_cl b0 22 _ rfl
 have h1 := blk_cl b0 23 _ rfl
 have hcv : (convert 107 9 (.slice (some ⟨w.heap.size, 22, none⟩) 2 2)).run Tryz.prog (w.alloc (.cells #[.int .u8 0, .int .u8 0, .int .u8 0, .int .u8 0, .int .u8 0, .int .u8 0, .int .u8 0, .int .u8 0, .int .u8 0, .int .u8 0, .int .u8 0, .int .u8 0, .int .u8 0, .int .u8 0, .int .u8 0, .int .u8 0, .int .u8 0, .int .u8 0, .int .u8 0, .int .u8 0, .int .u8 0, .int .u8 0, .int .u8 48, .int .u8 49] 183)) = .ok (.string ⟨#[48, 49]⟩) (w.alloc (.cells #[.int .u8 0, .int .u8 0, .int .u8 0, .int .u8 0, .int .u8 0, .int .u8 0, .int .u8 0, .int .u8 0, .int .u8 0, .int .u8 0, .int .u8 0, .int .u8 0, .int .u8 0, .int .u8 0, .int .u8 0, .int .u8 0, .int .u8 0, .int .u8 0, .int .u8 0, .int .u8 0, .int .u8 0, .int .u8 0, .int .u8 48, .int .u8 49] 183)) :=
  run_convert_bytes_arg _ _ 5 Tryz.underlying107 Tryz.underlying5 w.heap.size 22 2 2 [48, 49] rfl (fun i hi => by
   match i, hi with
   | 0, _ => exact h0
   | 1, _ => exact h1) _ Tryz.underlying9
 have hB : Below w.heap.size w (w.alloc (.cells #[.int .u8 0, .int .u8 0, .int .u8 0, .int .u8 0, .int .u8 0, .int .u8 0, .int .u8 0, .int .u8 0, .int .u8 0, .int .u8 0, .int .u8 0, .int .u8 0, .int .u8 0, .int .u8 0, .int .u8 0, .int .u8 0, .int .u8 0, .int .u8 0, .int .u8 0, .int .u8 0, .int .u8 0, .int .u8 0, .int .u8 48, .int .u8 49] 183)) := (Below.refl _ _).alloc (Nat.le_refl _) _
 clear b0 h0 h1
 go_enter Tryz.func105, Tryz.ntmps105
 go_wp2_with (go_at_call 139; refine (HS.out _).mono ?_; rintro e w1 ⟨rfl, rfl⟩)
 refine wp_loop_rounds 3 ?_
 rw [rounds_succ]
 go_wp2
 rw [rounds_succ]
 go_wp2
 rw [rounds_succ]
 go_wp2
 go_ret
 exact ⟨rfl, hB⟩
set_option maxRecDepth 100000 in
set_option maxHeartbeats 2000000 in
theorem text_1970 (w : World) : Calls Tryz.prog 105 #[.int .i64 1970, .int .i64 4] w fun e w' => e = .returned (.string ⟨#[49, 57, 55, 48]⟩) ∧ Below w.heap.size w w' := by
 have HS := Lib.hid (fun W => size_any 1970 (by decide) W)
 have b0 := Blk.new w #[.int .u8 0, .int .u8 0, .int .u8 0, .int .u8 0, .int .u8 0, .int .u8 0, .int .u8 0, .int .u8 0, .int .u8 0, .int .u8 0, .int .u8 0, .int .u8 0, .int .u8 0, .int .u8 0, .int .u8 0, .int .u8 0, .int .u8 0, .int .u8 0, .int .u8 0, .int .u8 0, .int .u8 49, .int .u8 57, .int .u8 55, .int .u8 48] 183
 have h0 := blk_cl b0 20 _ rfl
 have h1 := blk_cl b0 21 _ rfl
 have h2 := blk_cl b0 22 _ rfl
 have h3 := blk_cl b0 23 _ rfl
 have hcv : (convert 107 9 (.slice (some ⟨w.heap.size, 20, none⟩) 4 4)).run Tryz.prog (w.alloc (.cells #[.int .u8 0, .int .u8 0, .int .u8 0, .int .u8 0, .int .u8 0, .int .u8 0, .int .u8 0, .int .u8 0, .int .u8 0, .int .u8 0, .int .u8 0, .int .u8 0, .int .u8 0, .int .u8 0, .int .u8 0, .int .u8 0, .int .u8 0, .int .u8 0, .int .u8 0, .int .u8 0, .int .u8 49, .int .u8 57, .int .u8 55, .int .u8 48] 183)) = .ok (.string ⟨#[49, 57, 55, 48]⟩) (w.alloc (.cells #[.int .u8 0, .int .u8 0, .int .u8 0, .int .u8 0, .int .u8 0, .int .u8 0, .int .u8 0, .int .u8 0, .int .u8 0, .int .u8 0, .int .u8 0, .int .u8 0, .int .u8 0, .int .u8 0, .int .u8 0, .int .u8 0, .int .u8 0, .int .u8 0, .int .u8 0, .int .u8 0, .int .u8 49, .int .u8 57, .int .u8 55, .int .u8 48] 183)) :=
  run_convert_bytes_arg _ _ 5 Tryz.underlying107 Tryz.underlying5 w.heap.size 20 4 4 [49, 57, 55, 48] rfl (fun i hi => by
   match i, hi with
   | 0, _ => exact h0
   | 1, _ => exact h1
   | 2, _ => exact h2
   | 3, _ => exact h3) _ Tryz.underlying9
 have hB : Below w.heap.size w (w.alloc (.cells #[.int .u8 0, .int .u8 0, .int .u8 0, .int .u8 0, .int .u8 0, .int .u8 0, .int .u8 0, .int .u8 0, .int .u8 0, .int .u8 0, .int .u8 0, .int .u8 0, .int .u8 0, .int .u8 0, .int .u8 0, .int .u8 0, .int .u8 0, .int .u8 0, .int .u8 0, .int .u8 0, .int .u8 49, .int .u8 57, .int .u8 55, .int .u8 48] 183)) := (Below.refl _ _).alloc (Nat.le_refl _) _
 clear b0 h0 h1 h2 h3
 go_enter Tryz.func105, Tryz.ntmps105
 go_wp2_with (go_at_call 139; refine (HS.out _).mono ?_; rintro e w1 ⟨rfl, rfl⟩)
 refine wp_loop_rounds 5 ?_
 rw [rounds_succ]
 go_wp2
 rw [rounds_succ]
 go_wp2
 rw [rounds_succ]
 go_wp2
 rw [rounds_succ]
 go_wp2
 rw [rounds_succ]
 go_wp2
 go_ret
 exact ⟨rfl, hB⟩
end Go.Proofs.YtdafcipilknecaaGreatDoor
/- clock and civil at the moment 1970-01-01T01:00:00 (draft). -/
namespace Go.Proofs.YtdafcipilknecaaGreatDoor
set_option linter.unusedSimpArgs false
set_option linter.unusedVariables false
open Go.ChangeShapes Go.WideShapes Go.ChangeAt Go.RowKit
theorem split_36 (w : World) : Calls Tryz.prog 100 #[.int .i64 3600] w fun e w' => e = .returned (.tuple #[.int .i64 0, .int .i64 3600, .int .i64 0]) ∧ Below w.heap.size w w' := by
 have H := Lib.hid (fun W => show Calls Tryz.prog 133 #[.int .i64 3600, .int .i64 86400] W fun e w' => e = .returned (.tuple #[.int .i64 0, .int .i64 3600, .int .i64 0]) ∧ Below W.heap.size W w' from (integer_Div 3600 86400 W (by decide) (by decide) (by decide)).mono (by rintro e w' ⟨rfl, n, rfl⟩; exact ⟨rfl, below_drewN (Below.refl _ _) n⟩))
 go_enter Tryz.func100, Tryz.ntmps100
 go_wp2_with (go_at_call 133; refine (H.out _).mono ?_; rintro e w1 ⟨rfl, hb1⟩)
 go_ret3
 exact ⟨rfl, hb1⟩
theorem time_36 (w : World) : Calls Tryz.prog 102 #[.int .i64 3600] w fun e w' => e = .returned (.tuple #[.agg #[.int .i64 1, .int .i64 0, .int .i64 0], .int .i64 0]) ∧ Below w.heap.size w w' := by
 go_enter Tryz.func102, Tryz.ntmps102
 go_wp2
 exact bodyPost_ret (v := .tuple #[.agg #[.int .i64 1, .int .i64 0, .int .i64 0], .int .i64 0]) (by simp [results, Tryz.results102, go_sem]) rfl ⟨rfl, (Below.refl _ _).alloc (Nat.le_refl _) _⟩
theorem secs_36 (w : World) : Calls Tryz.prog 137 #[.agg #[.int .i64 1, .int .i64 0, .int .i64 0]] w fun e w' => e = .returned (.tuple #[.int .i64 3600, .int .i64 0]) ∧ Below w.heap.size w w' := by
 have hB : Below w.heap.size w (w.alloc (.cells #[.int .i64 1, .int .i64 0, .int .i64 0] 112)) := (Below.refl _ _).alloc (Nat.le_refl _) _
 go_enter Tryz.func137, Tryz.ntmps137
 go_wp2
 go_ret2
 exact ⟨rfl, hB⟩
theorem at_36 (w : World) : Calls Tryz.prog 138 #[.int .i64 0, .int .i64 3600] w fun e w' => e = .returned (.tuple #[.int .i64 3600, .int .i64 0]) ∧ w = w' := by
 go_enter Tryz.func138, Tryz.ntmps138
 go_wp2
 go_ret2
 exact ⟨rfl, rfl⟩
theorem of_36 (w : World) : Calls Tryz.prog 103 #[.agg #[.int .i64 1970, .int .i64 1, .int .i64 1, .int .i64 1, .int .i64 0, .int .i64 0]] w fun e w' => e = .returned (.tuple #[.int .i64 3600, .int .i64 0]) ∧ Below w.heap.size w w' := by
 have HD := Lib.hid (fun W => civil_Day 1970 1 1 W)
 rw [show Cv.validB 1970 1 1 = true by decide, show Cv.count 1970 1 1 = 0 by decide] at HD
 have HS := Lib.hid (fun W => secs_36 W)
 have HA := Lib.hid (fun W => at_36 W)
 have b0 := Blk.new w #[.int .i64 1970, .int .i64 1, .int .i64 1, .int .i64 1, .int .i64 0, .int .i64 0] 114
 have hB1 : Below w.heap.size w (w.alloc (.cells #[.int .i64 1970, .int .i64 1, .int .i64 1, .int .i64 1, .int .i64 0, .int .i64 0] 114)) := (Below.refl _ _).alloc (Nat.le_refl _) _
 have v0 := blk_cl b0 0 _ rfl
 have v1 := blk_cl b0 1 _ rfl
 have v2 := blk_cl b0 2 _ rfl
 have vl := b0.lt
 go_enter Tryz.func103, Tryz.ntmps103
 go_wp2_with fail
 generalize w.alloc (.cells #[.int .i64 1970, .int .i64 1, .int .i64 1, .int .i64 1, .int .i64 0, .int .i64 0] 114) = W at *
 clear v0 v1 v2 vl
 refine (HD.out _).mono ?_
 rintro e w1 ⟨rfl, hb1⟩
 have b0 := b0.below hb1 b0.lt
 have v3 := blk_cl b0 3 _ rfl
 have v4 := blk_cl b0 4 _ rfl
 have v5 := blk_cl b0 5 _ rfl
 have vl := b0.lt
 have hB2 := hB1.trans (hb1.mono hB1.size)
 go_wp2_with fail
 refine (HS.out _).mono ?_
 rintro e w2 ⟨rfl, hb2⟩
 have hB3 := hB2.trans (hb2.mono hB2.size)
 go_wp2_with (go_at_call 138; refine (HA.out _).mono ?_; rintro e w3 ⟨rfl, rfl⟩)
 go_ret2
 exact ⟨rfl, hB3⟩
end Go.Proofs.YtdafcipilknecaaGreatDoor
/- clock.Moment at 3600 (draft). -/
namespace Go.Proofs.YtdafcipilknecaaGreatDoor
set_option linter.unusedSimpArgs false
set_option linter.unusedVariables false
open Go.ChangeShapes Go.WideShapes Go.ChangeAt Go.RowKit
theorem set6 {W : World} {B : Nat} {T : TypeId} {a0 a1 a2 a3 a4 a5 : Value} (h : Blk W B #[a0, a1, a2, a3, a4, a5] T) (v0 v1 v2 v3 v4 v5 : Value) : Blk ((((((W.setCell ⟨B, 0, none⟩ v0).setCell ⟨B, 1, none⟩ v1).setCell ⟨B, 2, none⟩ v2).setCell ⟨B, 3, none⟩ v3).setCell ⟨B, 4, none⟩ v4).setCell ⟨B, 5, none⟩ v5) B #[v0, v1, v2, v3, v4, v5] T := by
 have := (((((h.setAt 0 v0).setAt 1 v1).setAt 2 v2).setAt 3 v3).setAt 4 v4).setAt 5 v5
 simpa using this
theorem set6_below {w W : World} {n B : Nat} (h : Below n w W) (hB : n ≤ B) (v0 v1 v2 v3 v4 v5 : Value) : Below n w ((((((W.setCell ⟨B, 0, none⟩ v0).setCell ⟨B, 1, none⟩ v1).setCell ⟨B, 2, none⟩ v2).setCell ⟨B, 3, none⟩ v3).setCell ⟨B, 4, none⟩ v4).setCell ⟨B, 5, none⟩ v5) :=
 (((((h.setCell (p := ⟨B, 0, none⟩) hB v0).setCell (p := ⟨B, 1, none⟩) hB v1).setCell (p := ⟨B, 2, none⟩) hB v2).setCell (p := ⟨B, 3, none⟩) hB v3).setCell (p := ⟨B, 4, none⟩) hB v4).setCell (p := ⟨B, 5, none⟩) hB v5
set_option maxRecDepth 100000 in
theorem moment_36 (w : World) : Calls Tryz.prog 61 #[.int .i64 3600] w fun e w' => e = .returned (.tuple #[.agg #[.int .i64 1970, .int .i64 1, .int .i64 1, .int .i64 1, .int .i64 0, .int .i64 0], .int .i64 0]) ∧ Below w.heap.size w w' := by
 have H1 := Lib.hid (fun W => split_36 W)
 have H2 := Lib.hid (fun W => civil_Date 1970 1 1 W (by decide))
 rw [show Cv.count 1970 1 1 = 0 by decide] at H2
 have H3 := Lib.hid (fun W => time_36 W)
 have b0 := Blk.new w #[.int .i64 0, .int .i64 0, .int .i64 0, .int .i64 0, .int .i64 0, .int .i64 0] 114
 have hB1 : Below w.heap.size w (w.alloc (.cells #[.int .i64 0, .int .i64 0, .int .i64 0, .int .i64 0, .int .i64 0, .int .i64 0] 114)) := (Below.refl _ _).alloc (Nat.le_refl _) _
 go_enter Tryz.func61, Tryz.ntmps61
 go_wp2_with fail
 generalize w.alloc (.cells #[.int .i64 0, .int .i64 0, .int .i64 0, .int .i64 0, .int .i64 0, .int .i64 0] 114) = W at *
 refine (H1.out _).mono ?_
 rintro e w1 ⟨rfl, hb1⟩
 have hB2 := hB1.trans (hb1.mono hB1.size)
 have b0 := b0.below hb1 b0.lt
 go_wp2_with fail
 refine (H2.out _).mono ?_
 rintro e w2 ⟨rfl, hb2⟩
 have hB3 := (hB2.trans (hb2.mono hB2.size)).alloc (by have := hB2.size; have := hb2.size; omega) (.cells #[.int .i64 1970, .int .i64 1, .int .i64 1] 110)
 have b0 := (b0.below hb2 b0.lt).alloc (.cells #[.int .i64 1970, .int .i64 1, .int .i64 1] 110)
 have b1 := Blk.new w2 #[.int .i64 1970, .int .i64 1, .int .i64 1] 110
 go_wp2_with fail
 refine (H3.out _).mono ?_
 rintro e w3 ⟨rfl, hb3⟩
 have b0 := (b0.below hb3 b0.lt).alloc (.cells #[.int .i64 1, .int .i64 0, .int .i64 0] 112)
 have b1 := (b1.below hb3 b1.lt).alloc (.cells #[.int .i64 1, .int .i64 0, .int .i64 0] 112)
 have v0 := blk_cl b1 0 _ rfl
 have v1 := blk_cl b1 1 _ rfl
 have v2 := blk_cl b1 2 _ rfl
 have vl := b1.lt
 have cl := b0.lt
 have c0 := blk_cl b0 0 _ rfl
 have c1 := blk_cl b0 1 _ rfl
 have c2 := blk_cl b0 2 _ rfl
 have c3 := blk_cl b0 3 _ rfl
 have c4 := blk_cl b0 4 _ rfl
 have c5 := blk_cl b0 5 _ rfl
 have cf := fun i => b0.frozen i
 go_wp2
 have s6 := set6 b0 (.int .i64 1970) (.int .i64 1) (.int .i64 1) (.int .i64 1) (.int .i64 0) (.int .i64 0)
 have s0 := blk_cl s6 0 _ rfl
 have s1 := blk_cl s6 1 _ rfl
 have s2 := blk_cl s6 2 _ rfl
 have s3 := blk_cl s6 3 _ rfl
 have s4 := blk_cl s6 4 _ rfl
 have s5 := blk_cl s6 5 _ rfl
 have hB4 := (hB3.trans (hb3.mono hB3.size)).alloc (by have := hB3.size; have := hb3.size; omega) (.cells #[.int .i64 1, .int .i64 0, .int .i64 0] 112)
 exact bodyPost_ret (v := .tuple #[.agg #[.int .i64 1970, .int .i64 1, .int .i64 1, .int .i64 1, .int .i64 0, .int .i64 0], .int .i64 0]) (by simp [results, Tryz.results61, go_sem, s0, s1, s2, s3, s4, s5]) rfl ⟨rfl, set6_below hB4 (Nat.le_refl _) (.int .i64 1970) (.int .i64 1) (.int .i64 1) (.int .i64 1) (.int .i64 0) (.int .i64 0)⟩
end Go.Proofs.YtdafcipilknecaaGreatDoor
/- civil.Text at 1970-01-01 (draft). -/
namespace Go.Proofs.YtdafcipilknecaaGreatDoor
set_option linter.unusedSimpArgs false
set_option linter.unusedVariables false
open Go.ChangeShapes Go.WideShapes Go.ChangeAt Go.RowKit
def TxtOf (n k : Int) (s : ByteArray) : Prop := (n = 1970 ∧ k = 4 ∧ s = ⟨#[49, 57, 55, 48]⟩) ∨ (n = 1 ∧ k = 2 ∧ s = ⟨#[48, 49]⟩) ∨ (n = 0 ∧ k = 2 ∧ s = ⟨#[48, 48]⟩)
theorem t1970 : TxtOf 1970 4 ⟨#[49, 57, 55, 48]⟩ := .inl ⟨rfl, rfl, rfl⟩
theorem t1 : TxtOf 1 2 ⟨#[48, 49]⟩ := .inr (.inl ⟨rfl, rfl, rfl⟩)
theorem t0 : TxtOf 0 2 ⟨#[48, 48]⟩ := .inr (.inr ⟨rfl, rfl, rfl⟩)
theorem text_of {n k : Int} {s : ByteArray} (h : TxtOf n k s) (W : World) : Calls Tryz.prog 105 #[.int .i64 n, .int .i64 k] W fun e w' => e = .returned (.string s) ∧ Below W.heap.size W w' := by
 rcases h with ⟨rfl, rfl, rfl⟩ | ⟨rfl, rfl, rfl⟩ | ⟨rfl, rfl, rfl⟩
 ·exact text_1970 W
 ·exact text_1 W
 ·exact text_0 W
set_option maxRecDepth 100000 in
set_option maxHeartbeats 2000000 in
theorem ctext_36 (w : World) : Calls Tryz.prog 106 #[.agg #[.int .i64 1970, .int .i64 1, .int .i64 1]] w fun e w' => e = .returned (.string ⟨#[49, 57, 55, 48, 45, 48, 49, 45, 48, 49]⟩) ∧ Below w.heap.size w w' := by
 have HV := Lib.hid (fun W => civil_Valid 1970 1 1 W)
 rw [show Cv.validB 1970 1 1 = true by decide] at HV
 have HX := Lib.hid (fun n k s (h : TxtOf n k s) W => text_of h W)
 have b0 := Blk.new w #[.int .i64 1970, .int .i64 1, .int .i64 1] 110
 have hB1 : Below w.heap.size w (w.alloc (.cells #[.int .i64 1970, .int .i64 1, .int .i64 1] 110)) := (Below.refl _ _).alloc (Nat.le_refl _) _
 go_enter Tryz.func106, Tryz.ntmps106
 go_wp2_with fail
 generalize w.alloc (.cells #[.int .i64 1970, .int .i64 1, .int .i64 1] 110) = W at *
 refine (HV.out _).mono ?_
 rintro e w1 ⟨rfl, hb1⟩
 have b0 := b0.below hb1 b0.lt
 have hB2 := hB1.trans (hb1.mono hB1.size)
 go_wp2_with fail
 have v0 := blk_cl b0 0 _ rfl
 have v1 := blk_cl b0 1 _ rfl
 have v2 := blk_cl b0 2 _ rfl
 have p0 : ∀ q : Bel w1.heap.size w1, q.w1.cell? ⟨w.heap.size, 0, none⟩ = some (.int .i64 1970) := fun q => (bel_cell q _ _ b0.lt).trans v0
 have p1 : ∀ q : Bel w1.heap.size w1, q.w1.cell? ⟨w.heap.size, 1, none⟩ = some (.int .i64 1) := fun q => (bel_cell q _ _ b0.lt).trans v1
 have p2 : ∀ q : Bel w1.heap.size w1, q.w1.cell? ⟨w.heap.size, 2, none⟩ = some (.int .i64 1) := fun q => (bel_cell q _ _ b0.lt).trans v2
 refine wp_region_bel (by kernel_rfl) (by kernel_rfl) ?_
 repeat (go_big_quiet_step ((go_at_call 105; exact bel_of (Nat.le_refl _) (HX.out _ _ _ (by first | exact t1970 | exact t1) _))))
 refine wpQuiet_nil ?_
 intro w3 hw'
 obtain ⟨⟨w3', hb3⟩, e3⟩ := hw'
 subst e3
 go_wp2
 go_ret
 exact ⟨rfl, hB2.trans (hb3.mono hB2.size)⟩
end Go.Proofs.YtdafcipilknecaaGreatDoor
/- clock.Text and stamp.Text at 1970-01-01T01:00:00. -/
namespace Go.Proofs.YtdafcipilknecaaGreatDoor
set_option linter.unusedSimpArgs false
set_option linter.unusedVariables false
open Go.ChangeShapes Go.WideShapes Go.ChangeAt Go.RowKit
theorem two36_of {n : Int} {s : ByteArray} (h : TxtOf n 2 s) (W : World) : Calls Tryz.prog 104 #[.int .i64 n] W fun e w' => e = .returned (.string s) ∧ Below W.heap.size W w' := by
 have H := Lib.hid (fun W => text_of h W)
 go_enter Tryz.func104, Tryz.ntmps104
 go_wp2_with (go_at_call 105; refine (H.out _).mono ?_; rintro e w1 ⟨rfl, hb1⟩)
 go_ret
 exact ⟨rfl, hb1⟩
set_option maxRecDepth 100000 in
set_option maxHeartbeats 2000000 in
theorem ctime_36 (w : World) : Calls Tryz.prog 62 #[.agg #[.int .i64 1970, .int .i64 1, .int .i64 1, .int .i64 1, .int .i64 0, .int .i64 0]] w fun e w' => e = .returned (.string ⟨#[49, 57, 55, 48, 45, 48, 49, 45, 48, 49, 84, 48, 49, 58, 48, 48, 58, 48, 48]⟩) ∧ Below w.heap.size w w' := by
 have HO := Lib.hid (fun W => of_36 W)
 have HC := Lib.hid (fun W => ctext_36 W)
 have HX := Lib.hid (fun n s (h : TxtOf n 2 s) W => two36_of h W)
 have b0 := Blk.new w #[.int .i64 1970, .int .i64 1, .int .i64 1, .int .i64 1, .int .i64 0, .int .i64 0] 114
 have hB1 : Below w.heap.size w (w.alloc (.cells #[.int .i64 1970, .int .i64 1, .int .i64 1, .int .i64 1, .int .i64 0, .int .i64 0] 114)) := (Below.refl _ _).alloc (Nat.le_refl _) _
 have v0 := blk_cl b0 0 _ rfl
 have v1 := blk_cl b0 1 _ rfl
 have v2 := blk_cl b0 2 _ rfl
 have v3 := blk_cl b0 3 _ rfl
 have v4 := blk_cl b0 4 _ rfl
 have v5 := blk_cl b0 5 _ rfl
 have vl := b0.lt
 go_enter Tryz.func62, Tryz.ntmps62
 go_wp2_with fail
 clear v0 v1 v2 v3 v4 v5 vl
 generalize w.alloc (.cells #[.int .i64 1970, .int .i64 1, .int .i64 1, .int .i64 1, .int .i64 0, .int .i64 0] 114) = W at *
 refine (HO.out _).mono ?_
 rintro e w1 ⟨rfl, hb1⟩
 have b0 := b0.below hb1 b0.lt
 have hB2 := hB1.trans (hb1.mono hB1.size)
 go_wp2_with fail
 have p0 : ∀ q : Bel w1.heap.size w1, q.w1.cell? ⟨w.heap.size, 0, none⟩ = some (.int .i64 1970) := fun q => (bel_cell q _ _ b0.lt).trans (blk_cl b0 0 _ rfl)
 have p1 : ∀ q : Bel w1.heap.size w1, q.w1.cell? ⟨w.heap.size, 1, none⟩ = some (.int .i64 1) := fun q => (bel_cell q _ _ b0.lt).trans (blk_cl b0 1 _ rfl)
 have p2 : ∀ q : Bel w1.heap.size w1, q.w1.cell? ⟨w.heap.size, 2, none⟩ = some (.int .i64 1) := fun q => (bel_cell q _ _ b0.lt).trans (blk_cl b0 2 _ rfl)
 have p3 : ∀ q : Bel w1.heap.size w1, q.w1.cell? ⟨w.heap.size, 3, none⟩ = some (.int .i64 1) := fun q => (bel_cell q _ _ b0.lt).trans (blk_cl b0 3 _ rfl)
 have p4 : ∀ q : Bel w1.heap.size w1, q.w1.cell? ⟨w.heap.size, 4, none⟩ = some (.int .i64 0) := fun q => (bel_cell q _ _ b0.lt).trans (blk_cl b0 4 _ rfl)
 have p5 : ∀ q : Bel w1.heap.size w1, q.w1.cell? ⟨w.heap.size, 5, none⟩ = some (.int .i64 0) := fun q => (bel_cell q _ _ b0.lt).trans (blk_cl b0 5 _ rfl)
 refine wp_region_bel (by kernel_rfl) (by kernel_rfl) ?_
 repeat (go_big_quiet_step ((first | (go_at_call 106; exact bel_of (Nat.le_refl _) (HC.out _)) | (go_at_call 104; exact bel_of (Nat.le_refl _) (HX.out _ _ (by first | exact t1 | exact t0) _)))))
 refine wpQuiet_nil ?_
 intro w3 hw'
 obtain ⟨⟨w3', hb3⟩, e3⟩ := hw'
 subst e3
 go_wp2
 go_ret
 exact ⟨rfl, hB2.trans (hb3.mono hB2.size)⟩
set_option maxRecDepth 100000 in
set_option maxHeartbeats 2000000 in
theorem stext_36 (w : World) : Calls Tryz.prog 21 #[.agg #[.int .i64 3600, .string ⟨#[]⟩, .int .i64 0, .int .i64 0]] w fun e w' => e = .returned (.string ⟨#[49, 57, 55, 48, 45, 48, 49, 45, 48, 49, 84, 48, 49, 58, 48, 48, 58, 48, 48, 90]⟩) ∧ Below w.heap.size w w' := by
 have HV := Lib.hid (fun W => stm_valid ⟨3600, ⟨#[]⟩, 0, 0⟩ W)
 rw [show stmB ⟨3600, ⟨#[]⟩, 0, 0⟩ = true by kernel_rfl] at HV
 unfold encStm at HV
 have HM := Lib.hid (fun W => moment_36 W)
 have HC := Lib.hid (fun W => ctime_36 W)
 have b0 := Blk.new w #[.int .i64 3600, .string ⟨#[]⟩, .int .i64 0, .int .i64 0] 28
 have hB1 : Below w.heap.size w (w.alloc (.cells #[.int .i64 3600, .string ⟨#[]⟩, .int .i64 0, .int .i64 0] 28)) := (Below.refl _ _).alloc (Nat.le_refl _) _
 have v0 := blk_cl b0 0 _ rfl
 have v1 := blk_cl b0 1 _ rfl
 have v2 := blk_cl b0 2 _ rfl
 have v3 := blk_cl b0 3 _ rfl
 have vl := b0.lt
 go_enter Tryz.func21, Tryz.ntmps21
 go_wp2_with fail
 clear v0 v1 v2 v3 vl
 generalize w.alloc (.cells #[.int .i64 3600, .string ⟨#[]⟩, .int .i64 0, .int .i64 0] 28) = W at *
 refine (HV.out _).mono ?_
 rintro e w1 ⟨rfl, hb1⟩
 have b0 := b0.below hb1 b0.lt
 have hB2 := hB1.trans (hb1.mono hB1.size)
 have v0 := blk_cl b0 0 _ rfl
 have v1 := blk_cl b0 1 _ rfl
 have v2 := blk_cl b0 2 _ rfl
 have v3 := blk_cl b0 3 _ rfl
 have vl := b0.lt
 go_wp2_with fail
 clear v0 v1 v2 v3 vl
 refine (HM.out _).mono ?_
 rintro e w2 ⟨rfl, hb2⟩
 have b0 := (b0.below hb2 b0.lt).alloc (.cells #[.int .i64 1970, .int .i64 1, .int .i64 1, .int .i64 1, .int .i64 0, .int .i64 0] 114)
 have b1 := Blk.new w2 #[.int .i64 1970, .int .i64 1, .int .i64 1, .int .i64 1, .int .i64 0, .int .i64 0] 114
 have hB3 := (hB2.trans (hb2.mono hB2.size)).alloc (by have := hB2.size; have := hb2.size; omega) (.cells #[.int .i64 1970, .int .i64 1, .int .i64 1, .int .i64 1, .int .i64 0, .int .i64 0] 114)
 have v0 := blk_cl b1 0 _ rfl
 have v1 := blk_cl b1 1 _ rfl
 have v2 := blk_cl b1 2 _ rfl
 have v3 := blk_cl b1 3 _ rfl
 have v4 := blk_cl b1 4 _ rfl
 have v5 := blk_cl b1 5 _ rfl
 have vl := b1.lt
 go_wp2_with fail
 clear v0 v1 v2 v3 v4 v5 vl
 generalize w2.alloc (.cells #[.int .i64 1970, .int .i64 1, .int .i64 1, .int .i64 1, .int .i64 0, .int .i64 0] 114) = W2 at *
 refine (HC.out _).mono ?_
 rintro e w3 ⟨rfl, hb3⟩
 have b0 := b0.below hb3 b0.lt
 have hB4 := hB3.trans (hb3.mono hB3.size)
 have v0 := blk_cl b0 0 _ rfl
 have v1 := blk_cl b0 1 _ rfl
 have v2 := blk_cl b0 2 _ rfl
 have v3 := blk_cl b0 3 _ rfl
 have vl := b0.lt
 go_wp2
 go_ret
 exact ⟨rfl, hB4⟩
end Go.Proofs.YtdafcipilknecaaGreatDoor

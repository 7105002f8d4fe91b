/- zone.Fixed at two offsets. Printed by gen_vera.py. -/
import Derived.Test.YtoonaidpmahgcaaGreatJVerW2
import Derived.Test.YtoonaidpmahgcaaGreatGZh
import Derived.Laws.BytesArg
namespace Go.Proofs.YtoonaidpmahgcaaGreat
set_option linter.unusedSimpArgs false
set_option linter.unusedVariables false
open Go.ChangeShapes Go.WideShapes Go.ChangeAt Go.RowKit


set_option maxRecDepth 100000 in
theorem fix1_0 (w : World) : Calls Tryz.prog 119 #[.int .i64 0] w fun e w' => e = .returned (.string ⟨#[48, 48]⟩) ∧ Below w.heap.size w w' := by
  have hcv : (convert 187 9 (.slice (some ⟨w.heap.size, 0, none⟩) 2 2)).run Tryz.prog (w.alloc (.cells #[.int .u8 48, .int .u8 48] 5)) = .ok (.string ⟨#[48, 48]⟩) (w.alloc (.cells #[.int .u8 48, .int .u8 48] 5)) :=
    run_convert_bytes_arg _ _ 5 Tryz.underlying187 Tryz.underlying5 w.heap.size 0 2 2 [48, 48] rfl (fun i hi => by
      have hc := alloc_cells w [.int .u8 48, .int .u8 48] 5
      rcases Nat.lt_or_ge i 1 with h | h
      · obtain rfl : i = 0 := by omega
        exact hc 0 _ rfl
      · obtain rfl : i = 1 := by omega
        exact hc 1 _ rfl) _ Tryz.underlying9
  have hB : Below w.heap.size w (w.alloc (.cells #[.int .u8 48, .int .u8 48] 5)) := (Below.refl _ _).alloc (Nat.le_refl _) _
  go_enter Tryz.func119, Tryz.ntmps119
  go_wp2
  go_ret
  exact ⟨rfl, hB⟩

set_option maxRecDepth 100000 in
theorem fix1_1 (w : World) : Calls Tryz.prog 119 #[.int .i64 1] w fun e w' => e = .returned (.string ⟨#[48, 49]⟩) ∧ Below w.heap.size w w' := by
  have hcv : (convert 187 9 (.slice (some ⟨w.heap.size, 0, none⟩) 2 2)).run Tryz.prog (w.alloc (.cells #[.int .u8 48, .int .u8 49] 5)) = .ok (.string ⟨#[48, 49]⟩) (w.alloc (.cells #[.int .u8 48, .int .u8 49] 5)) :=
    run_convert_bytes_arg _ _ 5 Tryz.underlying187 Tryz.underlying5 w.heap.size 0 2 2 [48, 49] rfl (fun i hi => by
      have hc := alloc_cells w [.int .u8 48, .int .u8 49] 5
      rcases Nat.lt_or_ge i 1 with h | h
      · obtain rfl : i = 0 := by omega
        exact hc 0 _ rfl
      · obtain rfl : i = 1 := by omega
        exact hc 1 _ rfl) _ Tryz.underlying9
  have hB : Below w.heap.size w (w.alloc (.cells #[.int .u8 48, .int .u8 49] 5)) := (Below.refl _ _).alloc (Nat.le_refl _) _
  go_enter Tryz.func119, Tryz.ntmps119
  go_wp2
  go_ret
  exact ⟨rfl, hB⟩

set_option maxRecDepth 100000 in
theorem fix1_2 (w : World) : Calls Tryz.prog 119 #[.int .i64 2] w fun e w' => e = .returned (.string ⟨#[48, 50]⟩) ∧ Below w.heap.size w w' := by
  have hcv : (convert 187 9 (.slice (some ⟨w.heap.size, 0, none⟩) 2 2)).run Tryz.prog (w.alloc (.cells #[.int .u8 48, .int .u8 50] 5)) = .ok (.string ⟨#[48, 50]⟩) (w.alloc (.cells #[.int .u8 48, .int .u8 50] 5)) :=
    run_convert_bytes_arg _ _ 5 Tryz.underlying187 Tryz.underlying5 w.heap.size 0 2 2 [48, 50] rfl (fun i hi => by
      have hc := alloc_cells w [.int .u8 48, .int .u8 50] 5
      rcases Nat.lt_or_ge i 1 with h | h
      · obtain rfl : i = 0 := by omega
        exact hc 0 _ rfl
      · obtain rfl : i = 1 := by omega
        exact hc 1 _ rfl) _ Tryz.underlying9
  have hB : Below w.heap.size w (w.alloc (.cells #[.int .u8 48, .int .u8 50] 5)) := (Below.refl _ _).alloc (Nat.le_refl _) _
  go_enter Tryz.func119, Tryz.ntmps119
  go_wp2
  go_ret
  exact ⟨rfl, hB⟩

set_option maxRecDepth 100000 in
set_option maxHeartbeats 2000000 in
theorem fixedA (w : World) : Calls Tryz.prog 53 #[.string ⟨#[65]⟩, .int .i64 3600] w fun e w' => e = .returned (.tuple #[.agg #[.string ⟨#[65]⟩, .int .i64 3600, .int .i64 0, .string ⟨#[43, 48, 49, 48, 48]⟩, .slice none 0 0, .slice none 0 0, .int .i64 0, .string ⟨#[]⟩, .int .i64 0], .int .i64 0]) ∧ Below w.heap.size w w' := by
  have HN := Lib.hid (fun W => show Calls Tryz.prog 61 #[.string ⟨#[65]⟩] W fun e w' => e = .returned (.bool true) ∧ W = w' from by
    have h := zoneName ⟨#[65]⟩ W
    rwa [show Cv.nameZ ⟨#[65]⟩ = true by decide +kernel] at h)
  have H0 := Lib.hid (fun W => fix1_0 W)
  have H1 := Lib.hid (fun W => fix1_1 W)
  go_enter Tryz.func53, Tryz.ntmps53
  have bz := Blk.new w #[.string ⟨#[]⟩, .int .i64 0, .int .i64 0, .string ⟨#[]⟩, .slice none 0 0, .slice none 0 0, .int .i64 0, .string ⟨#[]⟩, .int .i64 0] 27
  have hB : Below w.heap.size w (w.alloc (.cells #[.string ⟨#[]⟩, .int .i64 0, .int .i64 0, .string ⟨#[]⟩, .slice none 0 0, .slice none 0 0, .int .i64 0, .string ⟨#[]⟩, .int .i64 0] 27)) := (Below.refl _ _).alloc (Nat.le_refl _) _
  go_wp2_with (first
    | (go_at_call 61; refine (HN.out _).mono ?_; rintro e w1 ⟨rfl, rfl⟩; clear HN)
    | (go_at_call 119; refine (H1.out _).mono ?_; rintro e w1 ⟨rfl, hb1⟩; clear H1)
    | (go_at_call 119; refine (H0.out _).mono ?_; rintro e w2 ⟨rfl, hb2⟩; have b2 := (bz.below hb1 bz.lt).below hb2 (Nat.lt_of_lt_of_le bz.lt hb1.size); have hB2 := hB.trans ((hb1.trans (hb2.mono hb1.size)).mono hB.size); have l2 := b2.lt; have r0 := blk_cl b2 0 _ rfl; have r1 := blk_cl b2 1 _ rfl; have r2 := blk_cl b2 2 _ rfl; have r3 := blk_cl b2 3 _ rfl; have r4 := blk_cl b2 4 _ rfl; have r5 := blk_cl b2 5 _ rfl; have r6 := blk_cl b2 6 _ rfl; have r7 := blk_cl b2 7 _ rfl; have r8 := blk_cl b2 8 _ rfl; have rf := fun i => Blk.frozen b2 i; clear H0))
  have q := ((((((((b2.setAt 0 (.string ⟨#[65]⟩)).setAt 1 (.int .i64 3600)).setAt 2 (.int .i64 0)).setAt 3 (.string (⟨#[43]⟩ ++ (⟨#[48, 49]⟩ ++ ⟨#[48, 48]⟩)))).setAt 4 (.slice none 0 0)).setAt 5 (.slice none 0 0)).setAt 6 (.int .i64 0)).setAt 7 (.string ⟨#[]⟩)).setAt 8 (.int .i64 0)
  have q0 := q.cell 0 (v := .string ⟨#[65]⟩) rfl
  have q1 := q.cell 1 (v := .int .i64 3600) rfl
  have q2 := q.cell 2 (v := .int .i64 0) rfl
  have q3 := q.cell 3 (v := .string (⟨#[43]⟩ ++ (⟨#[48, 49]⟩ ++ ⟨#[48, 48]⟩))) rfl
  have q4 := q.cell 4 (v := .slice none 0 0) rfl
  have q5 := q.cell 5 (v := .slice none 0 0) rfl
  have q6 := q.cell 6 (v := .int .i64 0) rfl
  have q7 := q.cell 7 (v := .string ⟨#[]⟩) rfl
  have q8 := q.cell 8 (v := .int .i64 0) rfl
  have hBq := ((((((((hB2.setCell (p := ⟨w.heap.size, 0, none⟩) (Nat.le_refl _) (.string ⟨#[65]⟩)).setCell (p := ⟨w.heap.size, 1, none⟩) (Nat.le_refl _) (.int .i64 3600)).setCell (p := ⟨w.heap.size, 2, none⟩) (Nat.le_refl _) (.int .i64 0)).setCell (p := ⟨w.heap.size, 3, none⟩) (Nat.le_refl _) (.string (⟨#[43]⟩ ++ (⟨#[48, 49]⟩ ++ ⟨#[48, 48]⟩)))).setCell (p := ⟨w.heap.size, 4, none⟩) (Nat.le_refl _) (.slice none 0 0)).setCell (p := ⟨w.heap.size, 5, none⟩) (Nat.le_refl _) (.slice none 0 0)).setCell (p := ⟨w.heap.size, 6, none⟩) (Nat.le_refl _) (.int .i64 0)).setCell (p := ⟨w.heap.size, 7, none⟩) (Nat.le_refl _) (.string ⟨#[]⟩)).setCell (p := ⟨w.heap.size, 8, none⟩) (Nat.le_refl _) (.int .i64 0)
  have hst : (⟨#[43]⟩ ++ (⟨#[48, 49]⟩ ++ ⟨#[48, 48]⟩) : ByteArray) = ⟨#[43, 48, 49, 48, 48]⟩ := by decide +kernel
  clear q b2 r0 r1 r2 r3 r4 r5 r6 r7 r8 rf
  generalize (((((((((w2.setCell ⟨w.heap.size, 0, none⟩ (.string ⟨#[65]⟩)).setCell ⟨w.heap.size, 1, none⟩ (.int .i64 3600)).setCell ⟨w.heap.size, 2, none⟩ (.int .i64 0)).setCell ⟨w.heap.size, 3, none⟩ (.string (⟨#[43]⟩ ++ (⟨#[48, 49]⟩ ++ ⟨#[48, 48]⟩)))).setCell ⟨w.heap.size, 4, none⟩ (.slice none 0 0)).setCell ⟨w.heap.size, 5, none⟩ (.slice none 0 0)).setCell ⟨w.heap.size, 6, none⟩ (.int .i64 0)).setCell ⟨w.heap.size, 7, none⟩ (.string ⟨#[]⟩)).setCell ⟨w.heap.size, 8, none⟩ (.int .i64 0)) = w9 at *
  rw [hst] at q3
  exact bodyPost_ret (v := .tuple #[.agg #[.string ⟨#[65]⟩, .int .i64 3600, .int .i64 0, .string ⟨#[43, 48, 49, 48, 48]⟩, .slice none 0 0, .slice none 0 0, .int .i64 0, .string ⟨#[]⟩, .int .i64 0], .int .i64 0]) (by simp [results, Tryz.results53, go_sem, q0, q1, q2, q3, q4, q5, q6, q7, q8]) rfl ⟨rfl, hBq⟩

set_option maxRecDepth 100000 in
set_option maxHeartbeats 2000000 in
theorem fixedB (w : World) : Calls Tryz.prog 53 #[.string ⟨#[66]⟩, .int .i64 7200] w fun e w' => e = .returned (.tuple #[.agg #[.string ⟨#[66]⟩, .int .i64 7200, .int .i64 0, .string ⟨#[43, 48, 50, 48, 48]⟩, .slice none 0 0, .slice none 0 0, .int .i64 0, .string ⟨#[]⟩, .int .i64 0], .int .i64 0]) ∧ Below w.heap.size w w' := by
  have HN := Lib.hid (fun W => show Calls Tryz.prog 61 #[.string ⟨#[66]⟩] W fun e w' => e = .returned (.bool true) ∧ W = w' from by
    have h := zoneName ⟨#[66]⟩ W
    rwa [show Cv.nameZ ⟨#[66]⟩ = true by decide +kernel] at h)
  have H0 := Lib.hid (fun W => fix1_0 W)
  have H1 := Lib.hid (fun W => fix1_2 W)
  go_enter Tryz.func53, Tryz.ntmps53
  have bz := Blk.new w #[.string ⟨#[]⟩, .int .i64 0, .int .i64 0, .string ⟨#[]⟩, .slice none 0 0, .slice none 0 0, .int .i64 0, .string ⟨#[]⟩, .int .i64 0] 27
  have hB : Below w.heap.size w (w.alloc (.cells #[.string ⟨#[]⟩, .int .i64 0, .int .i64 0, .string ⟨#[]⟩, .slice none 0 0, .slice none 0 0, .int .i64 0, .string ⟨#[]⟩, .int .i64 0] 27)) := (Below.refl _ _).alloc (Nat.le_refl _) _
  go_wp2_with (first
    | (go_at_call 61; refine (HN.out _).mono ?_; rintro e w1 ⟨rfl, rfl⟩; clear HN)
    | (go_at_call 119; refine (H1.out _).mono ?_; rintro e w1 ⟨rfl, hb1⟩; clear H1)
    | (go_at_call 119; refine (H0.out _).mono ?_; rintro e w2 ⟨rfl, hb2⟩; have b2 := (bz.below hb1 bz.lt).below hb2 (Nat.lt_of_lt_of_le bz.lt hb1.size); have hB2 := hB.trans ((hb1.trans (hb2.mono hb1.size)).mono hB.size); have l2 := b2.lt; have r0 := blk_cl b2 0 _ rfl; have r1 := blk_cl b2 1 _ rfl; have r2 := blk_cl b2 2 _ rfl; have r3 := blk_cl b2 3 _ rfl; have r4 := blk_cl b2 4 _ rfl; have r5 := blk_cl b2 5 _ rfl; have r6 := blk_cl b2 6 _ rfl; have r7 := blk_cl b2 7 _ rfl; have r8 := blk_cl b2 8 _ rfl; have rf := fun i => Blk.frozen b2 i; clear H0))
  have q := ((((((((b2.setAt 0 (.string ⟨#[66]⟩)).setAt 1 (.int .i64 7200)).setAt 2 (.int .i64 0)).setAt 3 (.string (⟨#[43]⟩ ++ (⟨#[48, 50]⟩ ++ ⟨#[48, 48]⟩)))).setAt 4 (.slice none 0 0)).setAt 5 (.slice none 0 0)).setAt 6 (.int .i64 0)).setAt 7 (.string ⟨#[]⟩)).setAt 8 (.int .i64 0)
  have q0 := q.cell 0 (v := .string ⟨#[66]⟩) rfl
  have q1 := q.cell 1 (v := .int .i64 7200) rfl
  have q2 := q.cell 2 (v := .int .i64 0) rfl
  have q3 := q.cell 3 (v := .string (⟨#[43]⟩ ++ (⟨#[48, 50]⟩ ++ ⟨#[48, 48]⟩))) rfl
  have q4 := q.cell 4 (v := .slice none 0 0) rfl
  have q5 := q.cell 5 (v := .slice none 0 0) rfl
  have q6 := q.cell 6 (v := .int .i64 0) rfl
  have q7 := q.cell 7 (v := .string ⟨#[]⟩) rfl
  have q8 := q.cell 8 (v := .int .i64 0) rfl
  have hBq := ((((((((hB2.setCell (p := ⟨w.heap.size, 0, none⟩) (Nat.le_refl _) (.string ⟨#[66]⟩)).setCell (p := ⟨w.heap.size, 1, none⟩) (Nat.le_refl _) (.int .i64 7200)).setCell (p := ⟨w.heap.size, 2, none⟩) (Nat.le_refl _) (.int .i64 0)).setCell (p := ⟨w.heap.size, 3, none⟩) (Nat.le_refl _) (.string (⟨#[43]⟩ ++ (⟨#[48, 50]⟩ ++ ⟨#[48, 48]⟩)))).setCell (p := ⟨w.heap.size, 4, none⟩) (Nat.le_refl _) (.slice none 0 0)).setCell (p := ⟨w.heap.size, 5, none⟩) (Nat.le_refl _) (.slice none 0 0)).setCell (p := ⟨w.heap.size, 6, none⟩) (Nat.le_refl _) (.int .i64 0)).setCell (p := ⟨w.heap.size, 7, none⟩) (Nat.le_refl _) (.string ⟨#[]⟩)).setCell (p := ⟨w.heap.size, 8, none⟩) (Nat.le_refl _) (.int .i64 0)
  have hst : (⟨#[43]⟩ ++ (⟨#[48, 50]⟩ ++ ⟨#[48, 48]⟩) : ByteArray) = ⟨#[43, 48, 50, 48, 48]⟩ := by decide +kernel
  clear q b2 r0 r1 r2 r3 r4 r5 r6 r7 r8 rf
  generalize (((((((((w2.setCell ⟨w.heap.size, 0, none⟩ (.string ⟨#[66]⟩)).setCell ⟨w.heap.size, 1, none⟩ (.int .i64 7200)).setCell ⟨w.heap.size, 2, none⟩ (.int .i64 0)).setCell ⟨w.heap.size, 3, none⟩ (.string (⟨#[43]⟩ ++ (⟨#[48, 50]⟩ ++ ⟨#[48, 48]⟩)))).setCell ⟨w.heap.size, 4, none⟩ (.slice none 0 0)).setCell ⟨w.heap.size, 5, none⟩ (.slice none 0 0)).setCell ⟨w.heap.size, 6, none⟩ (.int .i64 0)).setCell ⟨w.heap.size, 7, none⟩ (.string ⟨#[]⟩)).setCell ⟨w.heap.size, 8, none⟩ (.int .i64 0)) = w9 at *
  rw [hst] at q3
  exact bodyPost_ret (v := .tuple #[.agg #[.string ⟨#[66]⟩, .int .i64 7200, .int .i64 0, .string ⟨#[43, 48, 50, 48, 48]⟩, .slice none 0 0, .slice none 0 0, .int .i64 0, .string ⟨#[]⟩, .int .i64 0], .int .i64 0]) (by simp [results, Tryz.results53, go_sem, q0, q1, q2, q3, q4, q5, q6, q7, q8]) rfl ⟨rfl, hBq⟩

end Go.Proofs.YtoonaidpmahgcaaGreat

/- slices.Grow at nil, slices.Concat of three lists of events. -/
import Derived.Test.YtjpjmlljgcpbkaaGreatYear
import Derived.Lib.AppendZerosOnto
namespace Go.Proofs.YtjpjmlljgcpbkaaGreat
set_option linter.unusedSimpArgs false
set_option linter.unusedVariables false
open Go.ChangeShapes Go.WideShapes Go.ChangeAt Go.RowKit

set_option maxRecDepth 100000 in
set_option maxHeartbeats 1000000 in
theorem Grow_nil (n : Nat) (w : World) (hn : n ≤ 4000000) :
    Calls Tryz.prog 102 #[.slice none 0 0, .int .i64 n] w fun e w' => ∃ v, e = .returned v ∧ w'.ownsRow w.heap.size 44 2 v 0 [] ∧ Below w.heap.size w w' := by
  rcases Nat.eq_zero_or_pos n with rfl | h0
  · go_enter Tryz.func102, Tryz.ntmps102
    go_wp2
    go_ret
    exact ⟨_, rfl, ⟨rfl, .inl ⟨rfl, rfl⟩⟩, Below.refl _ _⟩
  · obtain ⟨i0, hi0, hz0, hz1, hz2⟩ := info_parts infoE
    have hold : (Builtin.firstCells i0.size 0 (.slice none 0 0)).run Tryz.prog w.drew = .ok ([] : List Value).toArray w.drew := run_firstCells_none w.drew i0.size 0 0 0
    have hrz : ∀ ty, (Builtin.append_ #[42, 3] ty #[.slice none 0 0, .int .i64 (n : Int)]).run Tryz.prog w =
        .ok (.slice (some ⟨w.heap.size, 0, none⟩) n (grownCap w n 0 44)) (w.drew.alloc (.cells (([] : List Value).toArray ++ Builtin.zeroCells (Value.agg #[.int .i64 0, .int .i64 0]).cells n ++ Builtin.zeroCells (Value.agg #[.int .i64 0, .int .i64 0]).cells (grownCap w n 0 44 - n)) 44)) := fun ty => by
      have h := Lib.run_append_grow_zeros w 42 3 ty 44 i0 _ .i64 .i64 Tryz.underlying42 Tryz.underlying3 hi0 hz0 none 0 0 [] hold n h0 (by omega) (by omega) (by omega) (by rw [hz2]; omega) (by rw [Nat.zero_add]; exact growslice_fits h0 (by rw [hz2]; omega))
      rw [Nat.zero_add] at h
      exact h
    have hG1 := grownCap_ge w n 0 44
    have hG2 := grownCap_le_maxLen w n 0 44 (by unfold maxLen; omega)
    have hG3 : grownCap w n 0 44 ≤ 9223372036854775807 := by unfold maxLen at hG2; exact hG2
    generalize grownCap w n 0 44 = G at *
    clear hold
    go_enter Tryz.func102, Tryz.ntmps102
    go_wp2_with (at_builtin; refine Lib.wpList_append_run _ rfl _ _ _ _ rfl _ _ rfl rfl _ _ (hrz _) ?_)
    all_goals go_ret
    all_goals exact ⟨_, rfl, ⟨rfl, .inr ⟨w.heap.size, G, _, rfl, Nat.le_refl _, heap_alloc_new w _, by omega, hG2, by rw [Array.size_append, size_zeroCells, size_zeroCells]; show n * 2 + (G - n) * 2 = G * 2; omega, by simp⟩⟩, ((Below.refl _ _).alloc (Nat.le_refl _) _).drew⟩

theorem rd_len {w : World} {v : Value} {es : List (Int × Int)} (h : Rd encE 2 w v es) : ∃ A c, v = .slice A es.length c := by
  rcases h with ⟨rfl, A, c, rfl⟩ | ⟨g, off, c, rfl, _⟩
  · exact ⟨A, c, rfl⟩
  · exact ⟨_, c, rfl⟩
set_option maxRecDepth 100000 in
set_option maxHeartbeats 4000000 in
theorem Concat_three (B : Nat) (x0 x1 x2 : Value) (e0 e1 e2 : List (Int × Int)) (w : World) (hB : B < w.heap.size) (l0 : e0.length ≤ 1000000) (l1 : e1.length ≤ 1000000) (l2 : e2.length ≤ 1000000)
    (r0 : Rd encE 2 w x0 e0) (r1 : Rd encE 2 w x1 e1) (r2 : Rd encE 2 w x2 e2)
    (c0 : w.cell? ⟨B, 0, none⟩ = some x0) (c1 : w.cell? ⟨B, 1, none⟩ = some x1) (c2 : w.cell? ⟨B, 2, none⟩ = some x2) :
    Calls Tryz.prog 76 #[.slice (some ⟨B, 0, none⟩) 3 3] w fun e w' => ∃ v, e = .returned v ∧ Rd encE 2 w' v (e0 ++ e1 ++ e2) ∧ Below w.heap.size w w' := by
  obtain ⟨i0, hi0, hz0, hz1, hz2⟩ := info_parts infoE
  obtain ⟨A0, d0, rfl⟩ := rd_len r0
  obtain ⟨A1, d1, rfl⟩ := rd_len r1
  obtain ⟨A2, d2, rfl⟩ := rd_len r2
  have R0 := Lib.hid r0
  have R1 := Lib.hid r1
  have R2 := Lib.hid r2
  clear r0 r1 r2
  go_enter Tryz.func76, Tryz.ntmps76
  go_wp2
  refine wp_loop_rounds 4 ?_
  rw [rounds_succ]
  go_wp2
  rw [rounds_succ]
  go_wp2
  rw [rounds_succ]
  go_wp2
  rw [rounds_succ]
  have hn3 : ((e0.length + e1.length + e2.length : Nat) : Int) = (e0.length : Int) + e1.length + e2.length := by omega
  have hG := Grow_nil (e0.length + e1.length + e2.length) w (by omega)
  rw [hn3] at hG
  have HG := Lib.hid hG
  clear hG hn3
  go_wp2_with (go_at_call 102; refine HG.out.mono ?_; rintro e w1 ⟨v1, rfl, hown1, hb1⟩; have k0 := (hb1.cell (p := ⟨B, 0, none⟩) hB).trans c0; have k1 := (hb1.cell (p := ⟨B, 1, none⟩) hB).trans c1; have k2 := (hb1.cell (p := ⟨B, 2, none⟩) hB).trans c2; have HO1 := Lib.hid hown1; clear hown1)
  refine wp_loop_rounds 4 ?_
  rw [rounds_succ]
  go_wp2_with (at_builtin; refine wpList_append_rd rfl (.tmp 31) (.tmp 32) _ rfl w.heap.size 44 i0 _ 2 16 Tryz.underlying42 hi0 hz0 hz1 hz2 rfl (by decide) _ _ _ rfl HO1.out encE encE_len encE_one _ rfl e0 (R0.out.on hb1) (by simp only [maxLen]; omega) (by omega) hb1.size ?_; intro v2 w2 hown2 hg2)
  have hb2 : Below w.heap.size w w2 := below_app HO1.out (Nat.le_refl _) hb1 hg2
  have m1 := (hb2.cell (p := ⟨B, 1, none⟩) hB).trans c1
  have m2 := (hb2.cell (p := ⟨B, 2, none⟩) hB).trans c2
  have HO2 := Lib.hid hown2
  clear hown2
  rw [rounds_succ]
  go_wp2_with (at_builtin; refine wpList_append_rd rfl (.tmp 31) (.tmp 32) _ rfl w.heap.size 44 i0 _ 2 16 Tryz.underlying42 hi0 hz0 hz1 hz2 rfl (by decide) _ _ _ rfl HO2.out encE encE_len encE_one _ rfl e1 (R1.out.on hb2) (by simp only [maxLen]; omega) (by omega) hb2.size ?_; intro v3 w3 hown3 hg3)
  have hb3 : Below w.heap.size w w3 := below_app HO2.out (Nat.le_refl _) hb2 hg3
  have n2 := (hb3.cell (p := ⟨B, 2, none⟩) hB).trans c2
  have HO3 := Lib.hid hown3
  clear hown3
  rw [rounds_succ]
  go_wp2_with (at_builtin; refine wpList_append_rd rfl (.tmp 31) (.tmp 32) _ rfl w.heap.size 44 i0 _ 2 16 Tryz.underlying42 hi0 hz0 hz1 hz2 rfl (by decide) _ _ _ rfl HO3.out encE encE_len encE_one _ rfl e2 (R2.out.on hb3) (by simp only [maxLen]; omega) (by omega) hb3.size ?_; intro v4 w4 hown4 hg4)
  have hb4 : Below w.heap.size w w4 := below_app HO3.out (Nat.le_refl _) hb3 hg4
  have HO4 := Lib.hid hown4
  clear hown4
  rw [rounds_succ]
  go_wp2
  go_ret
  refine ⟨_, rfl, rd_of_own encE_len (n := 0 + e0.length + e1.length + e2.length) (base := w.heap.size) (e := 44) ?_ (by simp; omega), hb4⟩
  have h := HO4.out
  simpa using h

end Go.Proofs.YtjpjmlljgcpbkaaGreat

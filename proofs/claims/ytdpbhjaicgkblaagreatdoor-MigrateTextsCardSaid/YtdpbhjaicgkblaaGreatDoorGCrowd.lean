/- Joined by merge.py: Concat, Crowd, SpacedP, All. -/
import Derived.Test.YtdpbhjaicgkblaaGreatDoorGValid
import Derived.Lib.AppendZerosOnto
import Derived.Test.YtdpbhjaicgkblaaGreatDoorGOrd
import Derived.Lib.SlicesCompact
import Derived.Lib.RowBridge
/- slices.Grow at nil, slices.Concat of three lists of events. -/
namespace Go.Proofs.YtdpbhjaicgkblaaGreatDoor
set_option linter.unusedSimpArgs false
set_option linter.unusedVariables false
open Go.ChangeShapes Go.WideShapes Go.ChangeAt Go.RowKit
set_option maxRecDepth 100000 in
set_option maxHeartbeats 1000000 in
theorem Grow_nil (n : Nat) (w : World) (hn : n ≤ 4000000) :
  Calls Tryz.prog 170 #[.slice none 0 0, .int .i64 n] w fun e w' => ∃ v, e = .returned v ∧ w'.ownsRow w.heap.size 206 2 v 0 [] ∧ Below w.heap.size w w' := by
 rcases Nat.eq_zero_or_pos n with rfl | h0
 ·go_enter Tryz.func170, Tryz.ntmps170
  go_wp2
  go_ret
  exact ⟨_, rfl, ⟨rfl, .inl ⟨rfl, rfl⟩⟩, Below.refl _ _⟩
 ·obtain ⟨i0, hi0, hz0, hz1, hz2⟩ := info_parts infoE
  have hold : (Builtin.firstCells i0.size 0 (.slice none 0 0)).run Tryz.prog w.drew = .ok ([] : List Value).toArray w.drew := run_firstCells_none w.drew i0.size 0 0 0
  have hrz : ∀ ty, (Builtin.append_ #[201, 3] ty #[.slice none 0 0, .int .i64 (n : Int)]).run Tryz.prog w =
    .ok (.slice (some ⟨w.heap.size, 0, none⟩) n (grownCap w n 0 206)) (w.drew.alloc (.cells (([] : List Value).toArray ++ Builtin.zeroCells (Value.agg #[.int .i64 0, .int .i64 0]).cells n ++ Builtin.zeroCells (Value.agg #[.int .i64 0, .int .i64 0]).cells (grownCap w n 0 206 - n)) 206)) := fun ty => by
   have h := Lib.run_append_grow_zeros w 201 3 ty 206 i0 _ .i64 .i64 Tryz.underlying201 Tryz.underlying3 hi0 hz0 none 0 0 [] hold n h0 (by omega) (by omega) (by omega) (by rw [hz2]; omega) (by rw [Nat.zero_add]; exact growslice_fits h0 (by rw [hz2]; omega))
   rw [Nat.zero_add] at h
   exact h
  have hG1 := grownCap_ge w n 0 206
  have hG2 := grownCap_le_maxLen w n 0 206 (by unfold maxLen; omega)
  have hG3 : grownCap w n 0 206 ≤ 9223372036854775807 := by unfold maxLen at hG2; exact hG2
  generalize grownCap w n 0 206 = G at *
  clear hold
  go_enter Tryz.func170, Tryz.ntmps170
  go_wp2_with (at_builtin; refine Lib.wpList_append_run _ rfl _ _ _ _ rfl _ _ rfl rfl _ _ (hrz _) ?_)
  all_goals go_ret
  all_goals exact ⟨_, rfl, ⟨rfl, .inr ⟨w.heap.size, G, _, rfl, Nat.le_refl _, heap_alloc_new w _, by omega, hG2, by rw [Array.size_append, size_zeroCells, size_zeroCells]; show n * 2 + (G - n) * 2 = G * 2; omega, by simp⟩⟩, ((Below.refl _ _).alloc (Nat.le_refl _) _).drew⟩
theorem rd_len {w : World} {v : Value} {es : List (Int × Int)} (h : Rd encE 2 w v es) : ∃ A c, v = .slice A es.length c := by
 rcases h with ⟨rfl, A, c, rfl⟩ | ⟨g, off, c, rfl, _⟩
 ·exact ⟨A, c, rfl⟩
 ·exact ⟨_, c, rfl⟩
set_option maxRecDepth 100000 in
set_option maxHeartbeats 4000000 in
theorem Concat_three (B : Nat) (x0 x1 x2 : Value) (e0 e1 e2 : List (Int × Int)) (w : World) (hB : B < w.heap.size) (l0 : e0.length ≤ 1000000) (l1 : e1.length ≤ 1000000) (l2 : e2.length ≤ 1000000)
  (r0 : Rd encE 2 w x0 e0) (r1 : Rd encE 2 w x1 e1) (r2 : Rd encE 2 w x2 e2)
  (c0 : w.cell? ⟨B, 0, none⟩ = some x0) (c1 : w.cell? ⟨B, 1, none⟩ = some x1) (c2 : w.cell? ⟨B, 2, none⟩ = some x2) :
  Calls Tryz.prog 150 #[.slice (some ⟨B, 0, none⟩) 3 3] w fun e w' => ∃ v, e = .returned v ∧ Rd encE 2 w' v (e0 ++ e1 ++ e2) ∧ Below w.heap.size w w' := by
 obtain ⟨i0, hi0, hz0, hz1, hz2⟩ := info_parts infoE
 obtain ⟨A0, d0, rfl⟩ := rd_len r0
 obtain ⟨A1, d1, rfl⟩ := rd_len r1
 obtain ⟨A2, d2, rfl⟩ := rd_len r2
 have R0 := Lib.hid r0
 have R1 := Lib.hid r1
 have R2 := Lib.hid r2
 clear r0 r1 r2
 go_enter Tryz.func150, Tryz.ntmps150
 go_wp2
 refine wp_loop_rounds 4 ?_
 rw [rounds_succ]
 go_wp2
 rw [rounds_succ]
 go_wp2
 rw [rounds_succ]
 go_wp2
 rw [rounds_succ]
 have hn3 : ((e0.length + e1.length + e2.length : Nat) : Int) = (e0.length : Int) + e1.length + e2.length := by omega
 have hG := Grow_nil (e0.length + e1.length + e2.length) w (by omega)
 rw [hn3] at hG
 have HG := Lib.hid hG
 clear hG hn3
 go_wp2_with (go_at_call 170; refine HG.out.mono ?_; rintro e w1 ⟨v1, rfl, hown1, hb1⟩; have k0 := (hb1.cell (p := ⟨B, 0, none⟩) hB).trans c0; have k1 := (hb1.cell (p := ⟨B, 1, none⟩) hB).trans c1; have k2 := (hb1.cell (p := ⟨B, 2, none⟩) hB).trans c2; have HO1 := Lib.hid hown1; clear hown1)
 refine wp_loop_rounds 4 ?_
 rw [rounds_succ]
 go_wp2_with (at_builtin; refine wpList_append_rd rfl (.tmp 31) (.tmp 32) _ rfl w.heap.size 206 i0 _ 2 16 Tryz.underlying201 hi0 hz0 hz1 hz2 rfl (by decide) _ _ _ rfl HO1.out encE encE_len encE_one _ rfl e0 (R0.out.on hb1) (by simp only [maxLen]; omega) (by omega) hb1.size ?_; intro v2 w2 hown2 hg2)
 have hb2 : Below w.heap.size w w2 := below_app HO1.out (Nat.le_refl _) hb1 hg2
 have m1 := (hb2.cell (p := ⟨B, 1, none⟩) hB).trans c1
 have m2 := (hb2.cell (p := ⟨B, 2, none⟩) hB).trans c2
 have HO2 := Lib.hid hown2
 clear hown2
 rw [rounds_succ]
 go_wp2_with (at_builtin; refine wpList_append_rd rfl (.tmp 31) (.tmp 32) _ rfl w.heap.size 206 i0 _ 2 16 Tryz.underlying201 hi0 hz0 hz1 hz2 rfl (by decide) _ _ _ rfl HO2.out encE encE_len encE_one _ rfl e1 (R1.out.on hb2) (by simp only [maxLen]; omega) (by omega) hb2.size ?_; intro v3 w3 hown3 hg3)
 have hb3 : Below w.heap.size w w3 := below_app HO2.out (Nat.le_refl _) hb2 hg3
 have n2 := (hb3.cell (p := ⟨B, 2, none⟩) hB).trans c2
 have HO3 := Lib.hid hown3
 clear hown3
 rw [rounds_succ]
 go_wp2_with (at_builtin; refine wpList_append_rd rfl (.tmp 31) (.tmp 32) _ rfl w.heap.size 206 i0 _ 2 16 Tryz.underlying201 hi0 hz0 hz1 hz2 rfl (by decide) _ _ _ rfl HO3.out encE encE_len encE_one _ rfl e2 (R2.out.on hb3) (by simp only [maxLen]; omega) (by omega) hb3.size ?_; intro v4 w4 hown4 hg4)
 have hb4 : Below w.heap.size w w4 := below_app HO3.out (Nat.le_refl _) hb3 hg4
 have HO4 := Lib.hid hown4
 clear hown4
 rw [rounds_succ]
 go_wp2
 go_ret
 refine ⟨_, rfl, rd_of_own encE_len (n := 0 + e0.length + e1.length + e2.length) (base := w.heap.size) (e := 206) ?_ (by simp; omega), hb4⟩
 have h := HO4.out
 simpa using h
end Go.Proofs.YtdpbhjaicgkblaaGreatDoor
/- yearrule.crowded, all. -/
namespace Go.Proofs.YtdpbhjaicgkblaaGreatDoor
set_option linter.unusedSimpArgs false
set_option linter.unusedVariables false
open Go.ChangeShapes Go.WideShapes Go.ChangeAt Go.RowKit
theorem alloc_below (w : World) (o : Obj) : Below w.heap.size w (w.alloc o) := (Below.refl _ _).alloc (Nat.le_refl _) _
theorem alloc3_0 (w : World) (a b c : Value) (t : TypeId) : (w.alloc (.cells #[a, b, c] t)).cell? ⟨w.heap.size, 0, none⟩ = some a := by simp only [World.cell?, heap_alloc_new]; rfl
theorem alloc3_1 (w : World) (a b c : Value) (t : TypeId) : (w.alloc (.cells #[a, b, c] t)).cell? ⟨w.heap.size, 1, none⟩ = some b := by simp only [World.cell?, heap_alloc_new]; rfl
theorem alloc3_2 (w : World) (a b c : Value) (t : TypeId) : (w.alloc (.cells #[a, b, c] t)).cell? ⟨w.heap.size, 2, none⟩ = some c := by simp only [World.cell?, heap_alloc_new]; rfl
def FarF (es : List (Int × Int)) (m : Nat) : Prop := ∀ j, j < m → ¬ (es[j + 1]!).1 - (es[j]!).1 < 604800
theorem FarF.succ {es : List (Int × Int)} {m : Nat} (h : FarF es m) (h2 : ¬ (es[m + 1]!).1 - (es[m]!).1 < 604800) : FarF es (m + 1) := fun j hj => by
 rcases Nat.lt_or_ge j m with h1 | h1
 ·exact h j h1
 ·have : j = m := by omega
  subst this; exact h2
theorem FarF.no {es : List (Int × Int)} {m : Nat} (h : FarF es m) (h2 : ¬ m + 1 < es.length) : closeF es = false := closeF_no (fun j hj => h j (by omega))
set_option maxRecDepth 100000 in
set_option maxHeartbeats 2000000 in
theorem crowded_any (rs : List Rule) (y : Int) (v : Value) (w : World) (hl : rs.length ≤ 300000) (hy : -1000000 ≤ y ∧ y ≤ 1000000) (h : Rd Rule.cells 11 w v rs) :
  Calls Tryz.prog 133 #[v, .int .i64 y] w fun e w' => e = .returned (.bool (crowdF rs y)) ∧ Below w.heap.size w w' := by
 obtain ⟨y1, y2⟩ := hy
 have hY := fun y W h => Year_any rs y v W (by omega) h
 have HY := Lib.hid hY
 have H := Lib.hid h
 have l0 := crowd_len rs (y - 1)
 have l1 := crowd_len rs y
 have l2 := crowd_len rs (y + 1)
 have hbd : BdE (yearF rs (y - 1) ++ yearF rs y ++ yearF rs (y + 1)) := ((yearF_bd _ _).append (yearF_bd _ _)).append (yearF_bd _ _)
 have hle : (yearF rs (y - 1) ++ yearF rs y ++ yearF rs (y + 1)).length ≤ 900000 := by simp; omega
 have hcr := Lib.hid (show crowdF rs y = closeF (yearF rs (y - 1) ++ yearF rs y ++ yearF rs (y + 1)) from rfl)
 rw [hcr.out]
 clear hcr hY h
 have T0 : ∃ E, Hid (yearF rs (y - 1) = E) := ⟨_, rfl⟩
 have T1 : ∃ E, Hid (yearF rs y = E) := ⟨_, rfl⟩
 have T2 : ∃ E, Hid (yearF rs (y + 1) = E) := ⟨_, rfl⟩
 obtain ⟨E0, T0⟩ := T0
 obtain ⟨E1, T1⟩ := T1
 obtain ⟨E2, T2⟩ := T2
 rw [T0.out] at l0 hbd hle ⊢
 rw [T1.out] at l1 hbd hle ⊢
 rw [T2.out] at l2 hbd hle ⊢
 obtain ⟨E, hE⟩ : ∃ E, Hid (E0 ++ E1 ++ E2 = E) := ⟨_, rfl⟩
 rw [hE.out] at hle hbd ⊢
 have HBD := Lib.hid hbd
 clear hbd
 go_enter Tryz.func133, Tryz.ntmps133
 go_wp2_with fail
 refine (HY.out _ _ H.out).mono ?_
 rintro e w1 ⟨v1, rfl, r1, b1⟩
 rw [T0.out] at r1
 have R1 := Lib.hid r1
 obtain ⟨A1, d1, rfl⟩ := rd_len r1
 clear r1
 go_wp2_with fail
 refine (HY.out _ _ (H.out.on b1)).mono ?_
 rintro e w2 ⟨v2, rfl, r2, b2⟩
 rw [T1.out] at r2
 have R2 := Lib.hid r2
 obtain ⟨A2, d2, rfl⟩ := rd_len r2
 have b12 := b1.trans (b2.mono b1.size)
 clear r2
 go_wp2_with fail
 refine (HY.out _ _ (H.out.on b12)).mono ?_
 rintro e w3 ⟨v3, rfl, r3, b3⟩
 rw [T2.out] at r3
 have R3 := Lib.hid r3
 obtain ⟨A3, d3, rfl⟩ := rd_len r3
 have b13 := b12.trans (b3.mono b12.size)
 clear r3
 have F := Concat_three w3.heap.size _ _ _ E0 E1 E2 (w3.alloc (.cells #[.slice A1 E0.length d1, .slice A2 E1.length d2, .slice A3 E2.length d3] 201)) (by simp) (by omega) (by omega) (by omega) (((R1.out.on b2).on b3).on (alloc_below _ _)) ((R2.out.on b3).on (alloc_below _ _)) (R3.out.on (alloc_below _ _)) (alloc3_0 _ _ _ _ _) (alloc3_1 _ _ _ _ _) (alloc3_2 _ _ _ _ _)
 have HF := Lib.hid F
 clear F
 go_wp2_with fail
 refine HF.out.mono ?_
 rintro e w4 ⟨v4, rfl, r4, b4⟩
 have B4 : Below w.heap.size w w4 := (b13.alloc b13.size _).trans (b4.mono (by have := b13.size; simp; omega))
 rw [hE.out] at r4
 have R4 := Lib.hid r4
 clear r4 HF R1 R2 R3 HY H T0 T1 T2
 obtain ⟨A4, d4, rfl⟩ := rd_len R4.out
 go_wp2_with fail
 go_loopw [4, 6] (fun r i wr => ∃ m : Nat, i = .int .i64 ((m : Int) + 1) ∧ (m = 0 ∨ m < E.length) ∧ FarF E m ∧ Rd encE 2 wr (.slice A4 E.length d4) E ∧ Below w.heap.size w wr) (fun _ i _ => E.length + 1 - (intOf i).toNat)
 case atStart => exact ⟨0, rfl, .inl rfl, (fun j hj => absurd hj (by omega)), R4.out, B4⟩
 case round =>
  obtain ⟨m, rfl, hm, hno, hrd, hbw⟩ := hrel
  by_cases hlt : m + 1 < E.length
  ·rcases hrd with ⟨e1, _⟩ | ⟨g, off, c, e1, hg, hc⟩
   ·rw [e1] at hlt; exact absurd hlt (by simp)
   ·cases e1
    have c0 : wr.cell? ⟨g, off + m * 2, none⟩ = some (.int .i64 (E[m]!).1) := hc m (by omega) 0 _ rfl
    have c1 : wr.cell? ⟨g, off + (m + 1) * 2, none⟩ = some (.int .i64 (E[m + 1]!).1) := hc (m + 1) hlt 0 _ rfl
    have d0 := HBD.out.at (i := m) (by omega)
    have d1' := HBD.out.at hlt
    have HF := Lib.hid (fun h => closeF_yes hlt h)
    have HN := Lib.hid (fun h => hno.succ h)
    have HR := Lib.hid (show Rd encE 2 wr (.slice (some ⟨g, off, none⟩) E.length d4) E from .inr ⟨g, off, d4, rfl, hg, hc⟩)
    clear hc hno
    generalize (E[m]!).1 = X0 at *
    generalize (E[m + 1]!).1 = X1 at *
    have e1 : ((m : Int) + 1).toNat = m + 1 := by omega
    have e2 : ((m : Int) + 1 - 1).toNat = m := by omega
    by_cases h : X1 - X0 < 604800
    ·go_wp2_with (go_quiet (fail))
     go_ret
     rw [HF.out h]
     exact ⟨rfl, below_drewN hbw _⟩
    ·have HN2 := Lib.hid (HN.out h)
     clear HN HF
     go_wp2_with (go_quiet (fail))
     go_roundw
     case rel => exact ⟨m + 1, by go_num, .inr (by omega), HN2.out, HR.out.on (below_drewN (Below.refl _ _) _), below_drewN hbw _⟩
     case measure => simp [intOf]; omega
  ·have hcl := Lib.hid (hno.no hlt)
   go_wp2
   go_ret
   rw [hcl.out]
   exact ⟨rfl, hbw⟩
end Go.Proofs.YtdpbhjaicgkblaaGreatDoor
/- Spaced, as the code counts: no program in sight. -/
namespace Go.Proofs.YtdpbhjaicgkblaaGreatDoor
set_option linter.unusedSimpArgs false
set_option linter.unusedVariables false
open Go.Sort
def cutsL (rs : List Rule) : List Int := rs.flatMap fun r => [r.fr, r.to + 1]
theorem cutsL_len (rs : List Rule) : (cutsL rs).length = 2 * rs.length := by
 induction rs with
 | nil => rfl
 | cons r rs ih => simp [cutsL] at *; omega
theorem cutsL_take (rs : List Rule) (k : Nat) (h : k < rs.length) : cutsL (rs.take (k + 1)) = cutsL (rs.take k) ++ [rs[k]!.fr, rs[k]!.to + 1] := by
 rw [List.take_succ_eq_append_getElem h, getElem!_pos rs k h]
 unfold cutsL
 rw [List.flatMap_append]
 rfl
def cutsF (rs : List Rule) : List Int := Lib.compact ((cutsL rs).mergeSort fun x y => decide (x ≤ y))
theorem cutsF_def (rs : List Rule) : cutsF rs = Lib.compact ((cutsL rs).mergeSort fun x y => decide (x ≤ y)) := rfl
theorem mem_compact (zs : List Int) (x : Int) (h : x ∈ Lib.compact zs) : x ∈ zs := by
 unfold Lib.compact Lib.compactUpTo at h
 rw [List.mem_map] at h
 obtain ⟨j, hj, rfl⟩ := h
 have := List.mem_range.1 (List.mem_filter.1 hj).1
 simp [getElem!_pos, this]
theorem mem_cutsF (rs : List Rule) (x : Int) (h : x ∈ cutsF rs) : x ∈ cutsL rs := (List.mergeSort_perm _ _).mem_iff.1 (mem_compact _ _ h)
theorem cutsF_len (rs : List Rule) : (cutsF rs).length ≤ 2 * rs.length := by
 refine Nat.le_trans (Lib.compact_length_le _) ?_
 rw [List.length_mergeSort, cutsL_len]
 exact Nat.le_refl _
theorem cutsF_bd {rs : List Rule} (h : ∀ r ∈ rs, 1 ≤ r.fr ∧ r.fr ≤ 9999 ∧ 1 ≤ r.to ∧ r.to ≤ 9999) {i : Nat} (hi : i < (cutsF rs).length) : 1 ≤ (cutsF rs)[i]! ∧ (cutsF rs)[i]! ≤ 10000 := by
 have hm : (cutsF rs)[i]! ∈ cutsF rs := by rw [getElem!_pos _ i hi]; exact List.getElem_mem hi
 have h2 := mem_cutsF _ _ hm
 unfold cutsL at h2
 rw [List.mem_flatMap] at h2
 obtain ⟨r, hr, hx⟩ := h2
 have := h r hr
 generalize (cutsF rs)[i]! = x at *
 simp at hx
 omega
def toF (C : List Int) (i : Nat) : Int := if i + 1 < C.length then C[i + 1]! else C[i]!
def busyF (rs : List Rule) (a : Int) (n : Nat) : Bool := (List.range n).any fun k => crowdF rs (a + k)
theorem busyF_succ (rs : List Rule) (a : Int) (n : Nat) : busyF rs a (n + 1) = (busyF rs a n || crowdF rs (a + n)) := by simp [busyF, List.range_succ]
theorem busyF_mono {rs : List Rule} {a : Int} {n m : Nat} (h : busyF rs a n = true) (hm : n ≤ m) : busyF rs a m = true := by
 unfold busyF at *
 rw [List.any_eq_true] at *
 obtain ⟨k, hk, hc⟩ := h
 exact ⟨k, List.mem_range.2 (by have := List.mem_range.1 hk; omega), hc⟩
def spanF (C : List Int) (i : Nat) : Nat := (min (toF C i) (C[i]! + 402) - C[i]!).toNat
def badF (rs : List Rule) (C : List Int) (i : Nat) : Bool := busyF rs C[i]! (spanF C i) || crowdF rs (toF C i - 1)
def badsF (rs : List Rule) (C : List Int) (n : Nat) : Bool := (List.range n).any (badF rs C)
theorem badsF_succ (rs : List Rule) (C : List Int) (n : Nat) : badsF rs C (n + 1) = (badsF rs C n || badF rs C n) := by simp [badsF, List.range_succ]
theorem badsF_yes {rs : List Rule} {C : List Int} {i : Nat} (hi : i < C.length) (h : badF rs C i = true) : badsF rs C C.length = true := by
 unfold badsF
 rw [List.any_eq_true]
 exact ⟨i, List.mem_range.2 hi, h⟩
def allV (rs : List Rule) : Bool := rs.all Rule.valid
def spacedF (rs : List Rule) : Bool := allV rs && !badsF rs (cutsF rs) (cutsF rs).length
theorem spacedF_no {rs : List Rule} (h : allV rs = false) : spacedF rs = false := by simp [spacedF, h]
theorem spacedF_ok {rs : List Rule} (h : allV rs = true) : spacedF rs = !badsF rs (cutsF rs) (cutsF rs).length := by simp [spacedF, h]
theorem badF_busy {rs : List Rule} {C : List Int} {i : Nat} {n : Nat} (h : busyF rs C[i]! n = true) (hn : n ≤ spanF C i) : badF rs C i = true := by unfold badF; rw [busyF_mono h hn]; rfl
theorem badF_last {rs : List Rule} {C : List Int} {i : Nat} (h : crowdF rs (toF C i - 1) = true) : badF rs C i = true := by unfold badF; rw [h]; simp
theorem badF_no {rs : List Rule} {C : List Int} {i : Nat} (h : busyF rs C[i]! (spanF C i) = false) (h2 : crowdF rs (toF C i - 1) = false) : badF rs C i = false := by unfold badF; rw [h, h2]; rfl
theorem allV_bd {rs : List Rule} (h : allV rs = true) : ∀ r ∈ rs, 1 ≤ r.fr ∧ r.fr ≤ 9999 ∧ 1 ≤ r.to ∧ r.to ≤ 9999 := fun r hr => by
 have ho := Rule.valid_ok (List.all_eq_true.1 h r hr)
 have h1 := ho.fr
 have h2 := ho.to
 have h3 := ho.max
 omega
end Go.Proofs.YtdpbhjaicgkblaaGreatDoor
/- yearrule.all. -/
namespace Go.Proofs.YtdpbhjaicgkblaaGreatDoor
set_option linter.unusedSimpArgs false
set_option linter.unusedVariables false
open Go.ChangeShapes Go.WideShapes Go.ChangeAt Go.RowKit
theorem isAggR (w : World) : (isAgg 74).run Tryz.prog w = .ok true w := by kernel_rfl
theorem sizeOfR (w : World) : (Go.sizeOf 74).run Tryz.prog w = .ok 11 w := by kernel_rfl
theorem all1_any (r : Rule) (w : World) : Calls Tryz.prog 147 #[r.v] w fun e w' => e = .returned (.bool (!r.valid)) ∧ Below w.heap.size w w' := by
 have hV := fun w => Valid_any r w
 have HV := Lib.hid hV
 clear hV
 show Calls Tryz.prog 147 #[.agg #[.string r.nm, .int .i64 r.fr, .int .i64 r.to, .int .i64 r.mo, .int .i64 r.k, .int .i64 r.wk, .int .i64 r.d, .int .i64 r.at_, .int .i64 r.cl, .int .i64 r.sv, .string r.lt]] w _
 go_enter Tryz.func147, Tryz.ntmps147
 go_wp2_with (go_at_call 114; refine (HV.out _).mono ?_; rintro e w1 ⟨rfl, hb1⟩)
 go_ret
 exact ⟨ret1 (vbool (by simp)), ((Below.refl _ _).alloc (Nat.le_refl _) _).trans (hb1.mono (by simp))⟩
theorem IndexFunc_none (A : Option Addr) (c : Nat) (f : Value) (w : World) : Calls Tryz.prog 41 #[.slice A 0 c, f] w fun e w' => e = .returned (.int .i64 (-1)) ∧ w' = w := by
 go_enter Tryz.func41, Tryz.ntmps41
 go_wp2
 refine wp_loop_rounds 1 ?_
 rw [rounds_succ]
 go_wp2
 go_ret
 exact ⟨rfl, rfl⟩
theorem ContainsFunc_none (A : Option Addr) (c : Nat) (f : Value) (w : World) : Calls Tryz.prog 22 #[.slice A 0 c, f] w fun e w' => e = .returned (.bool false) ∧ w' = w := by
 go_enter Tryz.func22, Tryz.ntmps22
 go_wp2_with (go_at_call 41; refine (IndexFunc_none _ _ _ _).mono ?_; rintro e w' ⟨rfl, rfl⟩)
 go_ret
 exact ⟨rfl, rfl⟩
theorem not_any (rs : List Rule) : (!(rs.any fun r => !r.valid)) = allV rs := by simp [allV, List.all_eq_not_any_not]
theorem all_any (rs : List Rule) (v : Value) (w : World) (hl : rs.length ≤ 1000000) (h : Rd Rule.cells 11 w v rs) :
  Calls Tryz.prog 130 #[v] w fun e w' => e = .returned (.bool (allV rs)) ∧ Below w.heap.size w w' := by
 rw [← not_any]
 rcases h with ⟨rfl, A, c, rfl⟩ | ⟨g, off, c, rfl, hg, hc⟩
 ·go_enter Tryz.func130, Tryz.ntmps130
  go_wp2_with (go_at_call 22; refine (ContainsFunc_none _ _ _ _).mono ?_; rintro e w' ⟨rfl, rfl⟩)
  go_ret
  exact ⟨ret1 (vbool (by simp)), Below.refl _ _⟩
 ·have hC := Tryz.slices_ContainsFunc_f22 11 isAggR sizeOfR Rule.cells (fun _ => rfl) (fun r => !r.valid) 147 #[] (enters_of Tryz.func147 (by kernel_rfl) rfl) g off rs.length c rs w (fun W x hb => (all1_any x W).mono fun _ _ h => ⟨h.1, hb.trans (h.2.mono hb.size)⟩) (Nat.le_refl _) (by omega) hg hc
  rw [List.take_length] at hC
  have HC := Lib.hid hC
  generalize (rs.any fun r => !r.valid) = B at *
  clear hC hc
  go_enter Tryz.func130, Tryz.ntmps130
  go_wp2_with (go_at_call 22; refine HC.out.mono ?_; rintro e w1 ⟨rfl, hb1⟩)
  go_ret
  exact ⟨ret1 (vbool (by simp)), hb1⟩
end Go.Proofs.YtdpbhjaicgkblaaGreatDoor

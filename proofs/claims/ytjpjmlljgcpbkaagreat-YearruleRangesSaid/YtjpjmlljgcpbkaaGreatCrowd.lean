/- yearrule.crowded, all. -/
import Derived.Test.YtjpjmlljgcpbkaaGreatConcat
namespace Go.Proofs.YtjpjmlljgcpbkaaGreat
set_option linter.unusedSimpArgs false
set_option linter.unusedVariables false
open Go.ChangeShapes Go.WideShapes Go.ChangeAt Go.RowKit

theorem alloc_below (w : World) (o : Obj) : Below w.heap.size w (w.alloc o) := (Below.refl _ _).alloc (Nat.le_refl _) _
theorem alloc3_0 (w : World) (a b c : Value) (t : TypeId) : (w.alloc (.cells #[a, b, c] t)).cell? ⟨w.heap.size, 0, none⟩ = some a := by simp only [World.cell?, heap_alloc_new]; rfl
theorem alloc3_1 (w : World) (a b c : Value) (t : TypeId) : (w.alloc (.cells #[a, b, c] t)).cell? ⟨w.heap.size, 1, none⟩ = some b := by simp only [World.cell?, heap_alloc_new]; rfl
theorem alloc3_2 (w : World) (a b c : Value) (t : TypeId) : (w.alloc (.cells #[a, b, c] t)).cell? ⟨w.heap.size, 2, none⟩ = some c := by simp only [World.cell?, heap_alloc_new]; rfl
def FarF (es : List (Int × Int)) (m : Nat) : Prop := ∀ j, j < m → ¬ (es[j + 1]!).1 - (es[j]!).1 < 604800
theorem FarF.succ {es : List (Int × Int)} {m : Nat} (h : FarF es m) (h2 : ¬ (es[m + 1]!).1 - (es[m]!).1 < 604800) : FarF es (m + 1) := fun j hj => by
  rcases Nat.lt_or_ge j m with h1 | h1
  · exact h j h1
  · have : j = m := by omega
    subst this; exact h2
theorem FarF.no {es : List (Int × Int)} {m : Nat} (h : FarF es m) (h2 : ¬ m + 1 < es.length) : closeF es = false := closeF_no (fun j hj => h j (by omega))
set_option maxRecDepth 100000 in
set_option maxHeartbeats 2000000 in
/-- the loop of crowded, over a list that lies in memory -/
theorem crowded_any (rs : List Rule) (y : Int) (v : Value) (w : World) (hl : rs.length ≤ 300000) (hy : -1000000 ≤ y ∧ y ≤ 1000000) (h : Rd Rule.cells 11 w v rs) :
    Calls Tryz.prog 46 #[v, .int .i64 y] w fun e w' => e = .returned (.bool (crowdF rs y)) ∧ Below w.heap.size w w' := by
  obtain ⟨y1, y2⟩ := hy
  have hY := fun y W h => Year_any rs y v W (by omega) h
  have HY := Lib.hid hY
  have H := Lib.hid h
  have l0 := crowd_len rs (y - 1)
  have l1 := crowd_len rs y
  have l2 := crowd_len rs (y + 1)
  have hbd : BdE (yearF rs (y - 1) ++ yearF rs y ++ yearF rs (y + 1)) := ((yearF_bd _ _).append (yearF_bd _ _)).append (yearF_bd _ _)
  have hle : (yearF rs (y - 1) ++ yearF rs y ++ yearF rs (y + 1)).length ≤ 900000 := by simp; omega
  have hcr := Lib.hid (show crowdF rs y = closeF (yearF rs (y - 1) ++ yearF rs y ++ yearF rs (y + 1)) from rfl)
  rw [hcr.out]
  clear hcr hY h
  have T0 : ∃ E, Hid (yearF rs (y - 1) = E) := ⟨_, rfl⟩
  have T1 : ∃ E, Hid (yearF rs y = E) := ⟨_, rfl⟩
  have T2 : ∃ E, Hid (yearF rs (y + 1) = E) := ⟨_, rfl⟩
  obtain ⟨E0, T0⟩ := T0
  obtain ⟨E1, T1⟩ := T1
  obtain ⟨E2, T2⟩ := T2
  rw [T0.out] at l0 hbd hle ⊢
  rw [T1.out] at l1 hbd hle ⊢
  rw [T2.out] at l2 hbd hle ⊢
  obtain ⟨E, hE⟩ : ∃ E, Hid (E0 ++ E1 ++ E2 = E) := ⟨_, rfl⟩
  rw [hE.out] at hle hbd ⊢
  have HBD := Lib.hid hbd
  clear hbd
  go_enter Tryz.func46, Tryz.ntmps46
  go_wp2_with fail
  refine (HY.out _ _ H.out).mono ?_
  rintro e w1 ⟨v1, rfl, r1, b1⟩
  rw [T0.out] at r1
  have R1 := Lib.hid r1
  obtain ⟨A1, d1, rfl⟩ := rd_len r1
  clear r1
  go_wp2_with fail
  refine (HY.out _ _ (H.out.on b1)).mono ?_
  rintro e w2 ⟨v2, rfl, r2, b2⟩
  rw [T1.out] at r2
  have R2 := Lib.hid r2
  obtain ⟨A2, d2, rfl⟩ := rd_len r2
  have b12 := b1.trans (b2.mono b1.size)
  clear r2
  go_wp2_with fail
  refine (HY.out _ _ (H.out.on b12)).mono ?_
  rintro e w3 ⟨v3, rfl, r3, b3⟩
  rw [T2.out] at r3
  have R3 := Lib.hid r3
  obtain ⟨A3, d3, rfl⟩ := rd_len r3
  have b13 := b12.trans (b3.mono b12.size)
  clear r3
  have F := Concat_three w3.heap.size _ _ _ E0 E1 E2 (w3.alloc (.cells #[.slice A1 E0.length d1, .slice A2 E1.length d2, .slice A3 E2.length d3] 42)) (by simp) (by omega) (by omega) (by omega) (((R1.out.on b2).on b3).on (alloc_below _ _)) ((R2.out.on b3).on (alloc_below _ _)) (R3.out.on (alloc_below _ _)) (alloc3_0 _ _ _ _ _) (alloc3_1 _ _ _ _ _) (alloc3_2 _ _ _ _ _)
  have HF := Lib.hid F
  clear F
  go_wp2_with fail
  refine HF.out.mono ?_
  rintro e w4 ⟨v4, rfl, r4, b4⟩
  have B4 : Below w.heap.size w w4 := (b13.alloc b13.size _).trans (b4.mono (by have := b13.size; simp; omega))
  rw [hE.out] at r4
  have R4 := Lib.hid r4
  clear r4 HF R1 R2 R3 HY H T0 T1 T2
  obtain ⟨A4, d4, rfl⟩ := rd_len R4.out
  go_wp2_with fail
  go_loopw [4, 6] (fun r i wr => ∃ m : Nat, i = .int .i64 ((m : Int) + 1) ∧ (m = 0 ∨ m < E.length) ∧ FarF E m ∧ Rd encE 2 wr (.slice A4 E.length d4) E ∧ Below w.heap.size w wr) (fun _ i _ => E.length + 1 - (intOf i).toNat)
  case atStart => exact ⟨0, rfl, .inl rfl, (fun j hj => absurd hj (by omega)), R4.out, B4⟩
  case round =>
    obtain ⟨m, rfl, hm, hno, hrd, hbw⟩ := hrel
    by_cases hlt : m + 1 < E.length
    · rcases hrd with ⟨e1, _⟩ | ⟨g, off, c, e1, hg, hc⟩
      · rw [e1] at hlt; exact absurd hlt (by simp)
      · cases e1
        have c0 : wr.cell? ⟨g, off + m * 2, none⟩ = some (.int .i64 (E[m]!).1) := hc m (by omega) 0 _ rfl
        have c1 : wr.cell? ⟨g, off + (m + 1) * 2, none⟩ = some (.int .i64 (E[m + 1]!).1) := hc (m + 1) hlt 0 _ rfl
        have d0 := HBD.out.at (i := m) (by omega)
        have d1' := HBD.out.at hlt
        have HF := Lib.hid (fun h => closeF_yes hlt h)
        have HN := Lib.hid (fun h => hno.succ h)
        have HR := Lib.hid (show Rd encE 2 wr (.slice (some ⟨g, off, none⟩) E.length d4) E from .inr ⟨g, off, d4, rfl, hg, hc⟩)
        clear hc hno
        generalize (E[m]!).1 = X0 at *
        generalize (E[m + 1]!).1 = X1 at *
        have e1 : ((m : Int) + 1).toNat = m + 1 := by omega
        have e2 : ((m : Int) + 1 - 1).toNat = m := by omega
        by_cases h : X1 - X0 < 604800
        · go_wp2_with (go_quiet (fail))
          go_ret
          rw [HF.out h]
          exact ⟨rfl, below_drewN hbw _⟩
        · have HN2 := Lib.hid (HN.out h)
          clear HN HF
          go_wp2_with (go_quiet (fail))
          go_roundw
          case rel => exact ⟨m + 1, by go_num, .inr (by omega), HN2.out, HR.out.on (below_drewN (Below.refl _ _) _), below_drewN hbw _⟩
          case measure => simp [intOf]; omega
    · have hcl := Lib.hid (hno.no hlt)
      go_wp2
      go_ret
      rw [hcl.out]
      exact ⟨rfl, hbw⟩

end Go.Proofs.YtjpjmlljgcpbkaaGreat

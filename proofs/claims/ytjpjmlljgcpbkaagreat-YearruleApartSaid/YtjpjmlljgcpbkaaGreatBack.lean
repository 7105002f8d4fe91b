/- A copy of a list of rules, and the same turned. -/
import Derived.Test.YtjpjmlljgcpbkaaGreatYears
import Derived.Test.YtjpjmlljgcpbkaaGreatAll
import Derived.Test.YtjpjmlljgcpbkaaGreatStable4
namespace Go.Proofs.YtjpjmlljgcpbkaaGreat
set_option linter.unusedSimpArgs false
set_option linter.unusedVariables false
open Go.ChangeShapes Go.WideShapes Go.ChangeAt Go.RowKit Go.Lib Go.Sort

theorem infoR : (Tryz.prog.info? 25).map (fun i => (i.zero.map (·.cells.size), i.size, decide (i.bytes ≤ 1000))) = some (some 11, 11, true) := by kernel_rfl
theorem rule_one (r : Rule) : ∀ u ∈ Rule.cells r, u.oneCell' = true := by
  intro u hu
  simp [Rule.cells] at hu
  rcases hu with rfl | rfl | rfl | rfl | rfl | rfl | rfl | rfl | rfl | rfl | rfl <;> rfl
theorem rule_len (x : Rule) : (Rule.cells x).length = 11 := rfl
theorem info_rule : ∃ i0 z, Tryz.prog.info? 25 = some i0 ∧ i0.zero = some z ∧ i0.size = 11 ∧ z.cells.size = 11 ∧ i0.bytes ≤ 1000 := by
  have h := infoR
  cases hi : Tryz.prog.info? 25 with
  | none => rw [hi] at h; cases h
  | some i0 =>
    rw [hi] at h
    simp only [Option.map_some, Option.some.injEq, Prod.mk.injEq, decide_eq_true_eq] at h
    obtain ⟨h1, h2, h3⟩ := h
    cases hz : i0.zero with
    | none => rw [hz] at h1; cases h1
    | some z =>
      rw [hz] at h1
      simp only [Option.map_some, Option.some.injEq] at h1
      exact ⟨i0, z, rfl, hz, h2, h1, h3⟩
theorem rules_flat {rs : List Rule} {b off : Nat} {w : World} (hc : ∀ j, j < rs.length → ∀ i u, (Rule.cells rs[j]!)[i]? = some u → w.cell? ⟨b, off + j * 11 + i, none⟩ = some u) :
    ∀ j u, (rs.flatMap Rule.cells)[j]? = some u → w.cell? ⟨b, off + j, none⟩ = some u := by
  intro j u hu
  have hj : j < (rs.flatMap Rule.cells).length := (List.getElem?_eq_some_iff.1 hu).1
  rw [flat_len rule_len] at hj
  have hq : j / 11 < rs.length := by omega
  have hm : j % 11 < 11 := by omega
  have hg := flat_get rule_len rs (j / 11) (j % 11) hq hm
  rw [show j / 11 * 11 + j % 11 = j by omega] at hg
  rw [hg] at hu
  have h := hc (j / 11) hq (j % 11) u (by rw [← hu]; have hm2 : j % 11 < (Rule.cells rs[j / 11]!).length := hm; rw [List.getElem?_eq_getElem hm2, getElem!_pos (Rule.cells rs[j / 11]!) (j % 11) hm2])
  rw [show off + j / 11 * 11 + j % 11 = off + j by omega] at h
  exact h
theorem Clone_some (rs : List Rule) (b off c : Nat) (w : World) (hl : rs.length ≤ 1000) 
    (hc : ∀ j, j < rs.length → ∀ i u, (Rule.cells rs[j]!)[i]? = some u → w.cell? ⟨b, off + j * 11 + i, none⟩ = some u) :
    Calls Tryz.prog 25 #[.slice (some ⟨b, off, none⟩) rs.length c] w fun e w' => ∃ g cap, e = .returned (.slice (some ⟨g, 0, none⟩) rs.length cap) ∧ w.heap.size ≤ g ∧ g < w'.heap.size ∧ HoldsK Rule.cells 11 w' g 0 rs.toArray ∧ Below w.heap.size w w' := by
  obtain ⟨i0, z, hi, hz0, hz1, hz2, hz3⟩ := info_rule
  refine (Tryz.slices_Clone i0 z 11 i0.bytes hi hz0 hz1 rfl hz2 (by decide) sizeOfR b off rs.length c (rs.flatMap Rule.cells) w (flat_len rule_len rs) (by simp only [maxLen]; omega) ?_ (rules_flat hc) ?_).mono ?_
  · have := Nat.mul_le_mul hl hz3
    omega
  · intro u hu
    obtain ⟨r, _, h⟩ := List.mem_flatMap.1 hu
    exact rule_one r u h
  · rintro e w' ⟨v, rfl, h1, h2, h3⟩
    obtain ⟨g, cap, rfl, h4, h5, _, _, h6⟩ := holdsK_of_own rule_len h1 rfl h2
    exact ⟨g, cap, rfl, h4, h5, h6, h3⟩
/-- a copy, turned -/
theorem Reverse_own (rs : List Rule) (g cap : Nat) (w : World) (hg : g < w.heap.size) (hl : rs.length ≤ 1000) (hH : HoldsK Rule.cells 11 w g 0 rs.toArray) :
    Calls Tryz.prog 26 #[.slice (some ⟨g, 0, none⟩) rs.length cap] w fun e w' => e = .returned (.tuple #[]) ∧ Rd Rule.cells 11 w' (.slice (some ⟨g, 0, none⟩) rs.length cap) rs.reverse ∧ ∀ B w0, B ≤ g → B ≤ w.heap.size → Below B w0 w → Below B w0 w' := by
  refine (Tryz.slices_Reverse 11 isAggR sizeOfR Rule.cells rule_len rule_one g 0 cap rs.toArray w hH (by simp; omega)).mono ?_
  rintro e w' ⟨rfl, n, rfl⟩
  have hw : putRowK Rule.cells 11 (Sort.ahead w n) g 0 rs.toArray.reverse = sortWorldK Rule.cells 11 w g 0 n rs.reverse.toArray #[] := by
    unfold sortWorldK grow
    rw [List.reverse_toArray, Array.append_empty]
  rw [hw]
  exact ⟨rfl, rd_sorted rule_len hH (List.length_reverse) hg, fun B w0 h1 h2 h3 => below_sorted h3 h1 h2⟩
set_option maxRecDepth 100000 in
set_option maxHeartbeats 2000000 in
theorem Clone_empty (A : Option Addr) (c : Nat) (w : World) :
    Calls Tryz.prog 25 #[.slice A 0 c] w fun e w' => ∃ A' c', e = .returned (.slice A' 0 c') ∧ Below w.heap.size w w' := by
  cases A with
  | none =>
    refine (Tryz.slices_Clone_nil 0 c w).mono ?_
    rintro e w' ⟨rfl, rfl⟩
    exact ⟨none, 0, rfl, Below.refl _ _⟩
  | some a =>
    obtain ⟨i0, z, hi, hz0, hz1, hz2, hz3⟩ := info_rule
    have q37 : ∀ (w : World) (a : Option Addr) (n c n' c' : Nat), (binOp .eql 37 (.slice a n c) (.slice none n' c')).run Tryz.prog w = .ok (.bool a.isNone) w := fun w a n c n' c' => Lib.run_eql_slice_nil w _ _ a n c n' c' Tryz.underlying37
    go_enter Tryz.func25, Tryz.ntmps25
    go_wp2_with (at_builtin; refine wpList_append_own _ rfl _ _ 37 rfl w.heap.size 25 i0 z 11 i0.bytes Tryz.underlying37 hi hz0 hz1 rfl hz2 (by decide) _ _ _ rfl (World.ownsRow_made w #[] 0 (Nat.le_refl _) (Nat.zero_le _) (by simp)) a 0 c [] rfl ?qc1 ?qc2 ?qc3 ?qc4 ?qc5 ?qc6 ?_)
    case qc1 => rfl
    case qc2 => intro j u hj; simp at hj
    case qc3 => intro u hu; cases hu
    case qc4 => simp [maxLen]
    case qc5 => simp
    case qc6 => simp
    intro v' w1 hown hgrow hnil
    go_wp2
    go_ret
    have hv : ∃ A' c', v' = .slice A' 0 c' := by
      rcases hown.2 with ⟨rfl, _⟩ | ⟨g, cap, cur, rfl, _⟩
      · exact ⟨none, 0, rfl⟩
      · exact ⟨_, cap, rfl⟩
    obtain ⟨A', c', rfl⟩ := hv
    exact ⟨A', c', rfl, ((Below.refl _ w).alloc (Nat.le_refl _) _).grown hgrow (by simp) (by intro k hk; simp [Value.ownBlock] at hk; omega)⟩
def Copied (B : Nat) (w : World) (A : Option Addr) (rs : List Rule) : Prop := rs = [] ∨ ∃ g, A = some ⟨g, 0, none⟩ ∧ B ≤ g ∧ g < w.heap.size ∧ HoldsK Rule.cells 11 w g 0 rs.toArray
theorem Clone_any (rs : List Rule) (A : Option Addr) (c : Nat) (w : World) (hl : rs.length ≤ 1000) (h : Rd Rule.cells 11 w (.slice A rs.length c) rs) :
    Calls Tryz.prog 25 #[.slice A rs.length c] w fun e w' => ∃ A' c', e = .returned (.slice A' rs.length c') ∧ Copied w.heap.size w' A' rs ∧ Below w.heap.size w w' := by
  by_cases h0 : rs = []
  · subst h0
    refine (Clone_empty A c w).mono ?_
    rintro e w' ⟨A', c', rfl, h1⟩
    exact ⟨A', c', rfl, .inl rfl, h1⟩
  · rcases h with ⟨h1, _⟩ | ⟨g, off, c', hv, hg, hc⟩
    · exact absurd h1 h0
    · cases hv
      refine (Clone_some rs g off c w hl hc).mono ?_
      rintro e w' ⟨g', cap, rfl, h1, h2, h3, h4⟩
      exact ⟨_, cap, rfl, .inr ⟨g', rfl, h1, h2, h3⟩, h4⟩
theorem Reverse_any (rs : List Rule) (A : Option Addr) (c B : Nat) (w : World) (hl : rs.length ≤ 1000) (hB : B ≤ w.heap.size) (h : Copied B w A rs) :
    Calls Tryz.prog 26 #[.slice A rs.length c] w fun e w' => e = .returned (.tuple #[]) ∧ Rd Rule.cells 11 w' (.slice A rs.length c) rs.reverse ∧ ∀ w0, Below B w0 w → Below B w0 w' := by
  by_cases h0 : rs = []
  · subst h0
    refine (Tryz.slices_Reverse_empty (α := Rule) A c w).mono ?_
    rintro e w' ⟨rfl, rfl⟩
    exact ⟨rfl, .inl ⟨rfl, A, c, rfl⟩, fun _ h => h⟩
  · rcases h with h1 | ⟨g, rfl, h1, h2, h3⟩
    · exact absurd h1 h0
    · refine (Reverse_own rs g c w h2 hl h3).mono ?_
      rintro e w' ⟨rfl, h4, h5⟩
      exact ⟨rfl, h4, fun w0 h6 => h5 B w0 h1 hB h6⟩

end Go.Proofs.YtjpjmlljgcpbkaaGreat

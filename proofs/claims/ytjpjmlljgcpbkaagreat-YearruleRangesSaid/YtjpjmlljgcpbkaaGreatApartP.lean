/- The events of the years of a spaced list are far apart. No program in sight. -/
import Derived.Test.YtjpjmlljgcpbkaaGreatRange
import Derived.Test.YtjpjmlljgcpbkaaGreatFarP
import Derived.Test.YtjpjmlljgcpbkaaGreatYears
namespace Go.Proofs.YtjpjmlljgcpbkaaGreat
set_option linter.unusedSimpArgs false
set_option linter.unusedVariables false
open Go.Sort

theorem mem_evY {rs : List Rule} {a : Int} {x : Int × Int} : ∀ {n : Nat}, x ∈ evY rs a n ↔ ∃ j : Nat, j < n ∧ x ∈ yearF rs (a + j)
  | 0 => by simp [evY]
  | n + 1 => by
    rw [evY, List.mem_append, mem_evY]
    constructor
    · rintro (⟨j, h1, h2⟩ | h)
      · exact ⟨j, by omega, h2⟩
      · exact ⟨n, by omega, h⟩
    · rintro ⟨j, h1, h2⟩
      rcases Nat.lt_or_eq_of_le (show j ≤ n by omega) with h3 | rfl
      · exact .inl ⟨j, h3, h2⟩
      · exact .inr h2
theorem first_many {y : Int} (h : 1 ≤ y) : ∀ k : Nat, y + k ≤ 10000 → Cv.first y + 365 * (k : Int) ≤ Cv.first (y + k)
  | 0, _ => by simp
  | k + 1, hk => by
    have h1 := first_many h k (by omega)
    have h2 := first_year (y := y + k) (by omega)
    rw [show y + (k : Int) + 1 = y + ((k + 1 : Nat) : Int) by omega] at h2
    omega
/-- events of two years, the later of which is not the next one -/
theorem at_farN {r q : Rule} {y z : Int} (hz : y + 2 ≤ z) (h : (r.at y).2 = 0) (h2 : (q.at z).2 = 0) : 604800 ≤ (q.at z).1 - (r.at y).1 := by
  obtain ⟨_, y1, m1, _, b1⟩ := at_month h
  obtain ⟨_, y2, m2, b2, _⟩ := at_month h2
  have f1 := first_many y1.1 (z - y).toNat (by omega)
  rw [show y + ((z - y).toNat : Int) = z by omega] at f1
  omega
theorem mem_yearF {rs : List Rule} {y : Int} {x : Int × Int} (h : x ∈ yearF rs y) : x.1 ∈ tms rs y := mem_year.2 ⟨x, h, rfl⟩
theorem evY_far {rs : List Rule} (h : ∀ y, FarT rs y) (a : Int) : ∀ n, (evY rs a n).Pairwise farE
  | 0 => List.Pairwise.nil
  | n + 1 => by
    rw [evY, List.pairwise_append]
    refine ⟨evY_far h a n, (year_far _ _).2 (h _).1, fun x hx z hz => ?_⟩
    obtain ⟨j, hj, hx⟩ := mem_evY.1 hx
    have h1 := mem_yearF hx
    have h2 := mem_yearF hz
    show 604800 ≤ z.1 - x.1
    by_cases hn : j + 1 = n
    · refine (h (a + j)).2 _ h1 _ ?_
      rw [show a + (j : Int) + 1 = a + (n : Int) by omega]; exact h2
    · obtain ⟨r, _, h3, h4⟩ := mem_tms.1 h1
      obtain ⟨q, _, h5, h6⟩ := mem_tms.1 h2
      rw [← h4, ← h6]
      exact at_farN (by omega) h3 h5
theorem srt_far {l : List (Int × Int)} (h : l.Pairwise farE) : srt l = l := by
  refine List.Perm.eq_of_pairwise (fun a b _ _ h1 h2 => leE_anti h1 h2) (sorted_E _) (h.imp fun {a b} h => ?_) (List.mergeSort_perm _ _)
  have h' : 604800 ≤ b.1 - a.1 := h
  simp [leE, ltE]; omega
/-- two events in sequence -/
theorem srt_gap {rs : List Rule} (h : ∀ y, FarT rs y) (a : Int) (n j : Nat) (hj : j + 1 < (srt (evY rs a n)).length) : 604800 ≤ ((srt (evY rs a n))[j + 1]!).1 - ((srt (evY rs a n))[j]!).1 := by
  have hp := evY_far h a n
  rw [srt_far hp] at hj ⊢
  rw [getElem!_pos _ (j + 1) hj, getElem!_pos _ j (by omega)]
  exact (List.pairwise_iff_getElem.1 hp) j (j + 1) (by omega) hj (by omega)
theorem srt_bd (rs : List Rule) (a : Int) (n j : Nat) (hj : j < (srt (evY rs a n)).length) : -300000000000 ≤ ((srt (evY rs a n))[j]!).1 ∧ ((srt (evY rs a n))[j]!).1 ≤ 300000000000 := by
  have hm : (srt (evY rs a n))[j]! ∈ srt (evY rs a n) := by rw [getElem!_pos _ j hj]; exact List.getElem_mem hj
  have h1 := (List.mergeSort_perm _ _).mem_iff.1 hm
  obtain ⟨i, _, h2⟩ := mem_evY.1 h1
  obtain ⟨r, _, h3, h4⟩ := mem_tms.1 (mem_yearF h2)
  rw [← h4]
  exact at_bd
theorem spaced_rev {rs : List Rule} (hg : mxF rs * (rs.length : Int) ≤ 600) (h : spacedF rs = true) : spacedF rs.reverse = true := by
  have hv : allV rs = true := by cases hv : allV rs; rw [spacedF_no hv] at h; cases h; rfl
  have hs := years_guard hg hv
  have hf := (spaced_far hv hs).1 h
  refine (spaced_far (by unfold allV at *; rw [List.all_reverse]; exact hv) ?_).2 fun y => far_reverse.2 (hf y)
  rcases hs with h1 | h1
  · exact .inl (by rw [List.length_reverse]; exact h1)
  · exact .inr fun r hr => h1 r (List.mem_reverse.1 hr)
theorem spaced_tail {r : Rule} {rs : List Rule} (hg : mxF (r :: rs) * ((r :: rs).length : Int) ≤ 600) (h : spacedF (r :: rs) = true) : spacedF rs = true := by
  have hv : allV (r :: rs) = true := by cases hv : allV (r :: rs); rw [spacedF_no hv] at h; cases h; rfl
  have hs := years_guard hg hv
  have hf := (spaced_far hv hs).1 h
  have hv2 : allV rs = true := by unfold allV at *; rw [List.all_cons] at hv; simp only [Bool.and_eq_true] at hv; exact hv.2
  refine (spaced_far hv2 ?_).2 fun y => far_tail (hf y)
  rcases hs with h1 | h1
  · exact .inl (by rw [List.length_cons] at h1; omega)
  · exact .inr fun r hr => h1 r (List.mem_cons_of_mem _ hr)
theorem spaced_all {rs : List Rule} (hg : mxF rs * (rs.length : Int) ≤ 600) (h : spacedF rs = true) : allV rs = true ∧ ∀ y, FarT rs y := by
  have hv : allV rs = true := by cases hv : allV rs; rw [spacedF_no hv] at h; cases h; rfl
  exact ⟨hv, (spaced_far hv (years_guard hg hv)).1 h⟩

end Go.Proofs.YtjpjmlljgcpbkaaGreat

/- What the reference's Spaced looks at. No program in sight. -/
import Derived.Test.YtjpjmlljgcpbkaaGreatApartP
namespace Go.Proofs.YtjpjmlljgcpbkaaGreat
set_option linter.unusedSimpArgs false
set_option linter.unusedVariables false
open Go.Sort

def nearB (a b : Int) : Bool := decide (a - b < 604800) && decide (-604800 < a - b)
/-- two events of a year, or of it and the one before, are near -/
def Viol (rs : List Rule) (y : Int) : Prop :=
  (∃ i k, i < k ∧ k < (yearF rs y).length ∧ nearB ((yearF rs y)[i]!).1 ((yearF rs y)[k]!).1 = true) ∨
  (∃ i k, i < (yearF rs y).length ∧ k < (yearF rs (y - 1)).length ∧ ((yearF rs y)[i]!).1 - ((yearF rs (y - 1))[k]!).1 < 604800)
theorem viol_no {rs : List Rule} (h : ∀ y, FarT rs y) (y : Int) : ¬ Viol rs y := by
  rintro (⟨i, k, hik, hk, hn⟩ | ⟨i, k, hi, hk, hn⟩)
  · have h1 := (List.pairwise_iff_getElem.1 ((year_far rs y).2 (h y).1)) i k (by omega) hk hik
    rw [getElem!_pos _ i (by omega), getElem!_pos _ k hk] at hn
    unfold farE at h1
    unfold nearB at hn
    simp at hn
    omega
  · have h1 := (h (y - 1)).2 ((yearF rs (y - 1))[k]!).1 (mem_year.2 ⟨_, by rw [getElem!_pos _ k hk]; exact List.getElem_mem hk, rfl⟩) ((yearF rs y)[i]!).1 (by
      rw [show y - 1 + 1 = y by omega]
      exact mem_year.2 ⟨_, by rw [getElem!_pos _ i hi]; exact List.getElem_mem hi, rfl⟩)
    omega

def loF (rs : List Rule) : Int := rs.foldl (fun n r => if r.fr < n then r.fr else n) 10000
def hiF (rs : List Rule) : Int := rs.foldl (fun n r => if n < r.to then r.to else n) 0
theorem loF_take {rs : List Rule} {k : Nat} (h : k < rs.length) : loF (rs.take (k + 1)) = if (rs[k]!).fr < loF (rs.take k) then (rs[k]!).fr else loF (rs.take k) := by
  unfold loF
  rw [List.take_succ_eq_append_getElem h, List.foldl_append, getElem!_pos rs k h]; rfl
theorem hiF_take {rs : List Rule} {k : Nat} (h : k < rs.length) : hiF (rs.take (k + 1)) = if hiF (rs.take k) < (rs[k]!).to then (rs[k]!).to else hiF (rs.take k) := by
  unfold hiF
  rw [List.take_succ_eq_append_getElem h, List.foldl_append, getElem!_pos rs k h]; rfl
theorem lo_le : ∀ (rs : List Rule) (n : Int), rs.foldl (fun n r => if r.fr < n then r.fr else n) n ≤ n ∧ ∀ r ∈ rs, rs.foldl (fun n r => if r.fr < n then r.fr else n) n ≤ r.fr
  | [], n => ⟨Int.le_refl _, fun r h => by cases h⟩
  | q :: rs, n => by
    rw [List.foldl_cons]
    obtain ⟨h1, h2⟩ := lo_le rs (if q.fr < n then q.fr else n)
    have h3 : (if q.fr < n then q.fr else n) ≤ n ∧ (if q.fr < n then q.fr else n) ≤ q.fr := by split <;> omega
    refine ⟨by omega, fun r hr => ?_⟩
    rcases List.mem_cons.1 hr with rfl | hr
    · omega
    · exact h2 r hr
theorem hi_ge : ∀ (rs : List Rule) (n : Int), n ≤ rs.foldl (fun n r => if n < r.to then r.to else n) n ∧ ∀ r ∈ rs, r.to ≤ rs.foldl (fun n r => if n < r.to then r.to else n) n
  | [], n => ⟨Int.le_refl _, fun r h => by cases h⟩
  | q :: rs, n => by
    rw [List.foldl_cons]
    obtain ⟨h1, h2⟩ := hi_ge rs (if n < q.to then q.to else n)
    have h3 : n ≤ (if n < q.to then q.to else n) ∧ q.to ≤ (if n < q.to then q.to else n) := by split <;> omega
    refine ⟨by omega, fun r hr => ?_⟩
    rcases List.mem_cons.1 hr with rfl | hr
    · omega
    · exact h2 r hr
theorem lo_bd : ∀ (rs : List Rule) (n : Int), 1 ≤ n → (∀ r ∈ rs, 1 ≤ r.fr) → 1 ≤ rs.foldl (fun n r => if r.fr < n then r.fr else n) n
  | [], _, h, _ => h
  | q :: rs, n, h, hr => by
    rw [List.foldl_cons]
    have h1 := hr q List.mem_cons_self
    exact lo_bd rs _ (by split <;> omega) fun r h => hr r (List.mem_cons_of_mem _ h)
theorem hi_bd : ∀ (rs : List Rule) (n : Int), n ≤ 9999 → (∀ r ∈ rs, r.to ≤ 9999) → rs.foldl (fun n r => if n < r.to then r.to else n) n ≤ 9999
  | [], _, h, _ => h
  | q :: rs, n, h, hr => by
    rw [List.foldl_cons]
    have h1 := hr q List.mem_cons_self
    exact hi_bd rs _ (by split <;> omega) fun r h => hr r (List.mem_cons_of_mem _ h)
theorem lohi_bd {rs : List Rule} (hv : allV rs = true) : 1 ≤ loF rs ∧ loF rs ≤ 10000 ∧ 0 ≤ hiF rs ∧ hiF rs ≤ 9999 := by
  have h : ∀ r ∈ rs, 1 ≤ r.fr ∧ r.fr ≤ r.to ∧ r.to ≤ 9999 := fun r hr => valid_years ((List.all_eq_true.1 hv) r hr)
  exact ⟨lo_bd rs _ (by decide) fun r hr => (h r hr).1, (lo_le rs _).1, (hi_ge rs _).1, hi_bd rs _ (by decide) fun r hr => (h r hr).2.2⟩
theorem allV_take {rs : List Rule} (hv : allV rs = true) (k : Nat) : allV (rs.take k) = true :=
  List.all_eq_true.2 fun r hr => (List.all_eq_true.1 hv) r (List.mem_of_mem_take hr)
theorem year_none {rs : List Rule} {y : Int} (h : y < loF rs ∨ hiF rs < y) : tms rs y = [] :=
  tms_none fun r hr hy => by
    have h1 := (lo_le rs 10000).2 r hr
    have h2 := (hi_ge rs 0).2 r hr
    unfold loF hiF at h
    omega
theorem before_none (rs : List Rule) : yearF rs (loF rs - 1) = [] := by
  have h := year_none (rs := rs) (y := loF rs - 1) (.inl (by omega))
  have h2 := (year_perm rs (loF rs - 1)).length_eq
  rw [h] at h2
  simpa using h2
theorem far_of {rs : List Rule} (h : ∀ y, loF rs ≤ y → y ≤ hiF rs → ¬ Viol rs y) (y : Int) : FarT rs y := by
  constructor
  · by_cases hy : loF rs ≤ y ∧ y ≤ hiF rs
    · rw [← (year_perm rs y).pairwise_iff (fun h => Apt.symm h), List.pairwise_map, List.pairwise_iff_getElem]
      intro i k hi hk hik
      have h1 := h y hy.1 hy.2
      have h2 : ¬ nearB ((yearF rs y)[i]!).1 ((yearF rs y)[k]!).1 = true := fun hn => h1 (.inl ⟨i, k, hik, hk, hn⟩)
      rw [getElem!_pos _ i hi, getElem!_pos _ k hk] at h2
      unfold nearB at h2
      simp at h2
      unfold Apt
      omega
    · rw [year_none (by omega)]; exact List.Pairwise.nil
  · intro a ha c hc
    by_cases hy : loF rs ≤ y + 1 ∧ y + 1 ≤ hiF rs
    · obtain ⟨x, hx, rfl⟩ := mem_year.1 ha
      obtain ⟨z, hz, rfl⟩ := mem_year.1 hc
      obtain ⟨k, hk, rfl⟩ := List.getElem_of_mem hx
      obtain ⟨i, hi, rfl⟩ := List.getElem_of_mem hz
      have h1 := h (y + 1) hy.1 hy.2
      have h2 : ¬ ((yearF rs (y + 1))[i]!).1 - ((yearF rs (y + 1 - 1))[k]!).1 < 604800 := fun hn => h1 (.inr ⟨i, k, hi, by rw [show y + 1 - 1 = y by omega]; exact hk, hn⟩)
      rw [show y + 1 - 1 = y by omega, getElem!_pos _ i hi, getElem!_pos _ k hk] at h2
      omega
    · rw [year_none (y := y + 1) (by omega)] at hc
      cases hc
/-- no two of a list's first events and the events behind them are near -/
def NoA (E : List (Int × Int)) (i : Nat) : Prop := ∀ p k, p < i → p < k → k < E.length → nearB (E[p]!).1 (E[k]!).1 = false
/-- the first events of a list are behind another list's -/
def NoB (E P : List (Int × Int)) (i : Nat) : Prop := ∀ p k, p < i → k < P.length → 604800 ≤ (E[p]!).1 - (P[k]!).1
theorem NoA.succ {E : List (Int × Int)} {i q : Nat} (h : NoA E i) (h2 : ∀ k, i < k → k < q → nearB (E[i]!).1 (E[k]!).1 = false) (hq : ¬ q < E.length) : NoA E (i + 1) := fun p k hp hk hl => by
  rcases Nat.lt_or_eq_of_le (show p ≤ i by omega) with h3 | rfl
  · exact h p k h3 hk hl
  · exact h2 k hk (by omega)
theorem NoB.succ {E P : List (Int × Int)} {i q : Nat} (h : NoB E P i) (h2 : ∀ k, k < q → 604800 ≤ (E[i]!).1 - (P[k]!).1) (hq : ¬ q < P.length) : NoB E P (i + 1) := fun p k hp hk => by
  rcases Nat.lt_or_eq_of_le (show p ≤ i by omega) with h3 | rfl
  · exact h p k h3 hk
  · exact h2 k (by omega)
theorem all_succ {Q : Nat → Prop} {lo q : Nat} (h : ∀ k, lo < k → k < q → Q k) (hq : Q q) : ∀ k, lo < k → k < q + 1 → Q k := fun k h1 h2 => by
  rcases Nat.lt_or_eq_of_le (show k ≤ q by omega) with h3 | rfl
  · exact h k h1 h3
  · exact hq
theorem all_succ0 {Q : Nat → Prop} {q : Nat} (h : ∀ k, k < q → Q k) (hq : Q q) : ∀ k, k < q + 1 → Q k := fun k h2 => by
  rcases Nat.lt_or_eq_of_le (show k ≤ q by omega) with h3 | rfl
  · exact h k h3
  · exact hq
theorem viol_split {rs : List Rule} {y : Int} {E P : List (Int × Int)} (hE : yearF rs y = E) (hP : yearF rs (y - 1) = P) (h1 : NoA E E.length) (h2 : NoB E P E.length) : ¬ Viol rs y := by
  subst hE hP
  rintro (⟨i, k, hik, hk, hn⟩ | ⟨i, k, hi, hk, hn⟩)
  · rw [h1 i k (by omega) hik hk] at hn; cases hn
  · have := h2 i k hi hk; omega
theorem viol_one {rs : List Rule} {y : Int} {E : List (Int × Int)} (hE : yearF rs y = E) {i k : Nat} (h1 : i < k) (h2 : k < E.length) (h3 : nearB (E[i]!).1 (E[k]!).1 = true) : Viol rs y := by
  subst hE; exact .inl ⟨i, k, h1, h2, h3⟩
theorem viol_two {rs : List Rule} {y : Int} {E P : List (Int × Int)} (hE : yearF rs y = E) (hP : yearF rs (y - 1) = P) {i k : Nat} (h1 : i < E.length) (h2 : k < P.length) (h3 : (E[i]!).1 - (P[k]!).1 < 604800) : Viol rs y := by
  subst hE hP; exact .inr ⟨i, k, h1, h2, h3⟩
theorem spaced_viol {rs : List Rule} (hv : allV rs = true) (hg : mxF rs * (rs.length : Int) ≤ 600) {y : Int} (h : Viol rs y) : spacedF rs = false := by
  cases hs : spacedF rs
  · rfl
  · exact absurd h (viol_no ((spaced_far hv (years_guard hg hv)).1 hs) y)
theorem spaced_free {rs : List Rule} (hv : allV rs = true) (hg : mxF rs * (rs.length : Int) ≤ 600) (h : ∀ y, loF rs ≤ y → y ≤ hiF rs → ¬ Viol rs y) : spacedF rs = true :=
  (spaced_far hv (years_guard hg hv)).2 (far_of h)

end Go.Proofs.YtjpjmlljgcpbkaaGreat

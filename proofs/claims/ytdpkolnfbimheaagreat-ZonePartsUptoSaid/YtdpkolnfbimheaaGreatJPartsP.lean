/- Each transition of a span is the next one behind the one before. No program in sight. -/
import Derived.Test.YtdpkolnfbimheaaGreatGZc
namespace Go.Proofs.YtdpkolnfbimheaaGreat
set_option linter.unusedSimpArgs false
set_option linter.unusedVariables false
open Go.Sort

theorem find_mid {α : Type} {p : α → Bool} {A B : List α} {x : α} (h : ∀ y ∈ A, p y = false) (hx : p x = true) : (A ++ x :: B).find? p = some x := by
  rw [List.find?_append, List.find?_eq_none.2 fun y hy => by rw [h y hy]; decide, List.find?_cons, hx]; rfl
theorem asc_mid {l : List Trn} (h : l.Pairwise (fun x y => x.at_ < y.at_)) {a c : Int} : ∃ A C, l = A ++ (l.filter (fun x => decide (a ≤ x.at_ ∧ x.at_ < c)) ++ C) ∧ (∀ x ∈ A, x.at_ < a) := by
  induction l with
  | nil => exact ⟨[], [], rfl, fun x hx => by cases hx⟩
  | cons x l ih =>
    obtain ⟨h1, h2⟩ := List.pairwise_cons.1 h
    obtain ⟨A, C, e, hA⟩ := ih h2
    rw [List.filter_cons]
    by_cases g1 : x.at_ < a
    · rw [decide_eq_false (show ¬ (a ≤ x.at_ ∧ x.at_ < c) by omega), if_neg (by decide)]
      exact ⟨x :: A, C, by rw [List.cons_append, ← e], fun y hy => by
        rcases List.mem_cons.1 hy with rfl | hy
        · exact g1
        · exact hA y hy⟩
    · by_cases g2 : x.at_ < c
      · rw [decide_eq_true (show a ≤ x.at_ ∧ x.at_ < c by omega), if_pos rfl]
        have hA0 : A = [] := by
          cases A with
          | nil => rfl
          | cons y A =>
            exfalso
            have hy : y ∈ l := by rw [e]; simp
            have := h1 y hy
            have := hA y List.mem_cons_self
            omega
        subst hA0
        exact ⟨[], C, by rw [List.nil_append, List.cons_append]; congr 1, fun y hy => by cases hy⟩
      · have e0 : l.filter (fun x => decide (a ≤ x.at_ ∧ x.at_ < c)) = [] := List.filter_eq_nil_iff.2 fun y hy => by
          have := h1 y hy
          simp; omega
        rw [decide_eq_false (show ¬ (a ≤ x.at_ ∧ x.at_ < c) by omega), if_neg (by decide), e0]
        exact ⟨[], x :: l, rfl, fun y hy => by cases hy⟩
theorem bet_next0 {z : Zn} (hv : z.valid = true) {a c : Int} (h : 0 < (z.betF a c).length) : z.nextF (a - 1) = some (z.betF a c)[0]! := by
  obtain ⟨A, C, e, hA⟩ := asc_mid (T_asc hv) (a := a) (c := c)
  have hb : ∀ x ∈ z.betF a c, a ≤ x.at_ := fun x hx => by
    have := (List.mem_filter.1 hx).2
    simp at this; omega
  unfold Zn.nextF
  change z.T = A ++ (z.betF a c ++ C) at e
  rw [e]
  cases hB : z.betF a c with
  | nil => rw [hB] at h; simp at h
  | cons x B =>
    rw [hB] at hb
    have := hb x List.mem_cons_self
    rw [List.cons_append, find_mid (fun y hy => by have := hA y hy; simp; omega) (by simp; omega)]
    rfl
theorem bet_nextS {z : Zn} (hv : z.valid = true) {a c : Int} {i : Nat} (h : i + 1 < (z.betF a c).length) : z.nextF ((z.betF a c)[i]!).at_ = some (z.betF a c)[i + 1]! := by
  obtain ⟨A, C, e, hA⟩ := asc_mid (T_asc hv) (a := a) (c := c)
  have hp : (z.betF a c).Pairwise (fun x y => x.at_ < y.at_) := (T_asc hv).filter _
  have hb : ∀ x ∈ z.betF a c, a ≤ x.at_ := fun x hx => by
    have := (List.mem_filter.1 hx).2
    simp at this; omega
  unfold Zn.nextF
  change z.T = A ++ (z.betF a c ++ C) at e
  rw [e]
  generalize z.betF a c = B at *
  have hpi := List.pairwise_iff_getElem.1 hp
  have eB : B = B.take (i + 1) ++ B[i + 1] :: B.drop (i + 2) := by rw [List.getElem_cons_drop, List.take_append_drop]
  rw [getElem!_pos B i (by omega), getElem!_pos B (i + 1) h]
  have hi : a ≤ (B[i]'(by omega)).at_ := hb _ (List.getElem_mem _)
  have hs : (B[i]'(by omega)).at_ < (B[i + 1]'h).at_ := hpi i (i + 1) (by omega) h (by omega)
  have ht : ∀ y ∈ B.take (i + 1), y.at_ ≤ (B[i]'(by omega)).at_ := fun y hy => by
    obtain ⟨j, hj, rfl⟩ := List.getElem_of_mem hy
    rw [List.length_take] at hj
    rw [List.getElem_take]
    rcases Nat.lt_or_eq_of_le (show j ≤ i by omega) with h5 | h5
    · exact Int.le_of_lt (hpi j i (by omega) (by omega) h5)
    · simp only [h5]; exact Int.le_refl _
  generalize B[i]'(by omega) = u at *
  rw [show A ++ (B ++ C) = (A ++ B.take (i + 1)) ++ B[i + 1] :: (B.drop (i + 2) ++ C) by
    conv => lhs; rw [eB]
    simp only [List.append_assoc, List.cons_append]]
  exact find_mid (fun y hy => by
    rcases List.mem_append.1 hy with hy | hy
    · have := hA y hy; simp; omega
    · have := ht y hy; simp; omega) (by simp; exact hs)

end Go.Proofs.YtdpkolnfbimheaaGreat

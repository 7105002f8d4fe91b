/- The stable sort's pieces: exchanging, rotating, merging. No program in sight. -/
import Derived.Sort.Lot0
import Derived.Sort.LotA
namespace Go.Proofs.YtjpjmlljgcpbkaaGreat.St
set_option linter.unusedSimpArgs false
set_option linter.unusedVariables false
open Go.Sort
variable {α : Type} [Inhabited α]

/-- d' is d with [a, m) and [m, b) exchanged -/
def Rot (a m b : Nat) (d d' : Array α) : Prop :=
  d'.size = d.size ∧ ∀ t : Nat, d'[t]! = if a ≤ t ∧ t < a + (b - m) then d[t + (m - a)]! else if a + (b - m) ≤ t ∧ t < b then d[t - (b - m)]! else d[t]!
theorem Rot.self (a m : Nat) (d : Array α) : Rot a m m d d := ⟨rfl, fun t => by
  rw [if_neg (by omega)]; split
  · congr 1; omega
  · rfl⟩
theorem Rot.self' (m b : Nat) (d : Array α) : Rot m m b d d := ⟨rfl, fun t => by
  split
  · congr 1; omega
  · rw [if_neg (by omega)]⟩

def swpR (a b : Nat) : Nat → Array α → Array α
  | 0, d => d
  | n + 1, d => swp (swpR a b n d) (a + n) (b + n)
theorem swpR_size (a b : Nat) (d : Array α) : ∀ n, (swpR a b n d).size = d.size
  | 0 => rfl
  | n + 1 => by rw [swpR, size_swp, swpR_size a b d n]
theorem swpR_at (a b : Nat) (d : Array α) : ∀ n, a + n ≤ b → b + n ≤ d.size → ∀ t : Nat,
    (swpR a b n d)[t]! = if a ≤ t ∧ t < a + n then d[t + (b - a)]! else if b ≤ t ∧ t < b + n then d[t - (b - a)]! else d[t]!
  | 0, _, _, t => by rw [if_neg (by omega), if_neg (by omega)]; rfl
  | n + 1, h1, h2, t => by
    have ih := swpR_at a b d n (by omega) (by omega)
    have hs := swpR_size a b d n
    rw [swpR]
    by_cases e1 : t = a + n
    · subst e1
      rw [swp_left _ _ _ (by omega) (by omega), ih, if_neg (by omega), if_neg (by omega), if_pos (by omega)]
      congr 1; omega
    · by_cases e2 : t = b + n
      · subst e2
        rw [swp_right _ _ _ (by omega), ih, if_neg (by omega), if_neg (by omega), if_neg (by omega), if_pos (by omega)]
        congr 1; omega
      · rw [swp_other _ _ _ _ e1 e2, ih]
        by_cases c1 : a ≤ t ∧ t < a + n
        · rw [if_pos c1, if_pos (by omega)]
        · by_cases c2 : b ≤ t ∧ t < b + n
          · rw [if_neg c1, if_pos c2, if_neg (by omega), if_pos (by omega)]
          · rw [if_neg c1, if_neg c2, if_neg (by omega), if_neg (by omega)]

theorem rot_more {m i j : Nat} {d d' : Array α} (hi : i ≤ m) (hij : j < i) (hm : m + j ≤ d.size) (h : Rot (m - i + j) m (m + j) (swpR (m - i) m j d) d') : Rot (m - i) m (m + j) d d' := by
  obtain ⟨h1, h2⟩ := h
  refine ⟨h1.trans (swpR_size _ _ _ _), fun t => ?_⟩
  have hs := swpR_at (m - i) m d j (by omega) hm
  rw [h2]
  by_cases c1 : m - i ≤ t ∧ t < m - i + (m + j - m)
  · rw [if_pos c1, if_neg (by omega), if_neg (by omega), hs, if_pos (by omega)]
  · rw [if_neg c1]
    by_cases c2 : m - i + (m + j - m) ≤ t ∧ t < m + j
    · rw [if_pos c2]
      by_cases c3 : m - i + j ≤ t ∧ t < m - i + j + (m + j - m)
      · rw [if_pos c3, hs, if_neg (by omega), if_pos (by omega)]; congr 1; omega
      · rw [if_neg c3, if_pos (by omega), hs, if_neg (by omega), if_neg (by omega)]
    · rw [if_neg c2, if_neg (by omega), if_neg (by omega), hs, if_neg (by omega), if_neg (by omega)]
theorem rot_less {m i j : Nat} {d d' : Array α} (hi : i ≤ m) (hij : i < j) (hm : m + j ≤ d.size) (h : Rot (m - i) m (m + (j - i)) (swpR (m - i) (m + j - i) i d) d') : Rot (m - i) m (m + j) d d' := by
  obtain ⟨h1, h2⟩ := h
  refine ⟨h1.trans (swpR_size _ _ _ _), fun t => ?_⟩
  have hs := swpR_at (m - i) (m + j - i) d i (by omega) (by omega)
  rw [h2]
  by_cases c1 : m - i ≤ t ∧ t < m - i + (m + (j - i) - m)
  · rw [if_pos c1, if_pos (by omega), hs]
    by_cases c3 : m + j - i ≤ t + (m - (m - i)) ∧ t + (m - (m - i)) < m + j - i + i
    · exfalso; omega
    · rw [if_neg (by omega), if_neg c3]
  · rw [if_neg c1]
    by_cases c2 : m - i + (m + (j - i) - m) ≤ t ∧ t < m + (j - i)
    · rw [if_pos c2, hs, if_pos (by omega), if_pos (by omega)]; congr 1; omega
    · rw [if_neg c2, hs, if_neg (by omega)]
      by_cases c3 : m + j - i ≤ t ∧ t < m + j - i + i
      · rw [if_pos c3, if_neg (by omega), if_pos (by omega)]; congr 1; omega
      · rw [if_neg c3, if_neg (by omega), if_neg (by omega)]
theorem rot_end {m i : Nat} {d : Array α} (hi : i ≤ m) (hm : m + i ≤ d.size) : Rot (m - i) m (m + i) d (swpR (m - i) m i d) := by
  refine ⟨swpR_size _ _ _ _, fun t => ?_⟩
  rw [swpR_at (m - i) m d i (by omega) hm]
  by_cases c1 : m - i ≤ t ∧ t < m - i + i
  · rw [if_pos c1, if_pos (by omega)]
  · by_cases c2 : m ≤ t ∧ t < m + i
    · rw [if_neg c1, if_pos c2, if_neg (by omega), if_pos (by omega)]; congr 1; omega
    · rw [if_neg c1, if_neg c2, if_neg (by omega), if_neg (by omega)]
theorem rot_up {a k : Nat} {d e : Array α} (h : Rot a (a + 1) (k + 1) d e) (hk : a ≤ k) (hs : k + 1 < d.size) : Rot a (a + 1) (k + 2) d (swp e k (k + 1)) := by
  obtain ⟨h1, h2⟩ := h
  refine ⟨by rw [size_swp]; exact h1, fun t => ?_⟩
  by_cases e1 : t = k
  · subst e1
    rw [swp_left _ _ _ (by omega) (by omega), h2, if_neg (by omega), if_neg (by omega), if_pos (by omega)]; congr 1; omega
  · by_cases e2 : t = k + 1
    · subst e2
      rw [swp_right _ _ _ (by omega), h2, if_neg (by omega), if_pos (by omega), if_neg (by omega), if_pos (by omega)]; congr 1; omega
    · rw [swp_other _ _ _ _ e1 e2, h2]
      by_cases c1 : a ≤ t ∧ t < a + (k + 1 - (a + 1))
      · rw [if_pos c1, if_pos (by omega)]
      · rw [if_neg c1, if_neg (by omega), if_neg (by omega), if_neg (by omega)]
theorem rot_down {k m : Nat} {d e : Array α} (h : Rot (k + 1) m (m + 1) d e) (hk : k + 1 ≤ m) (hs : m < d.size) : Rot k m (m + 1) d (swp e (k + 1) k) := by
  obtain ⟨h1, h2⟩ := h
  refine ⟨by rw [size_swp]; exact h1, fun t => ?_⟩
  by_cases e1 : t = k + 1
  · subst e1
    rw [swp_left _ _ _ (by omega) (by omega), h2, if_neg (by omega), if_neg (by omega), if_neg (by omega), if_pos (by omega)]; congr 1; omega
  · by_cases e2 : t = k
    · subst e2
      rw [swp_right _ _ _ (by omega), h2, if_pos (by omega), if_pos (by omega)]; congr 1; omega
    · rw [swp_other _ _ _ _ e1 e2, h2]
      by_cases c1 : k + 1 + (m + 1 - m) ≤ t ∧ t < m + 1
      · rw [if_neg (by omega), if_pos c1, if_neg (by omega), if_pos (by omega)]
      · rw [if_neg (by omega), if_neg c1, if_neg (by omega), if_neg (by omega)]
theorem rot_perm {a m b : Nat} {d e : Array α} (h : Rot a m b d e) (h1 : a ≤ m) (h2 : m ≤ b) (hb : b ≤ d.size) : PermIn a b d e := by
  obtain ⟨hs, ht⟩ := h
  refine ⟨hs, fun i hi => by rw [ht, if_neg (by omega), if_neg (by omega)], ?_⟩
  rw [extract_toList _ _ _ (by omega), extract_toList _ _ _ hb]
  have e1 : List.range' a (b - a) = List.range' a (b - m) ++ List.range' (a + (b - m)) (m - a) := by
    rw [List.range'_append_1]; congr 1; omega
  have e2 : List.range' a (b - a) = List.range' a (m - a) ++ List.range' m (b - m) := by
    have := List.range'_append_1 (s := a) (m := m - a) (n := b - m)
    rw [show a + (m - a) = m by omega] at this
    rw [this]; congr 1; omega
  conv => lhs; rw [e1, List.map_append]
  conv => rhs; rw [e2, List.map_append]
  have f1 : (List.range' a (b - m)).map (fun i => e[i]!) = (List.range' m (b - m)).map (fun i => d[i]!) := by
    apply List.ext_getElem
    · simp
    · intro i hi _
      simp only [List.length_map, List.length_range'] at hi
      simp only [List.getElem_map, List.getElem_range', Nat.one_mul]
      rw [ht, if_pos (by omega)]; congr 1; omega
  have f2 : (List.range' (a + (b - m)) (m - a)).map (fun i => e[i]!) = (List.range' a (m - a)).map (fun i => d[i]!) := by
    apply List.ext_getElem
    · simp
    · intro i hi _
      simp only [List.length_map, List.length_range'] at hi
      simp only [List.getElem_map, List.getElem_range', Nat.one_mul]
      rw [ht, if_neg (by omega), if_pos (by omega)]; congr 1; omega
  rw [f1, f2]
  exact List.perm_append_comm

section
variable {lt : α → α → Bool} (hO : SWO lt)
include hO
omit [Inhabited α] in
theorem asym {x y : α} (h : lt x y = true) : lt y x = false := by
  cases h2 : lt y x
  · rfl
  · have := hO.trans _ _ _ h h2; rw [hO.irrefl] at this; cases this
theorem sorted_le {a b i j : Nat} {d : Array α} (h : SortedIn lt a b d) (h1 : a ≤ i) (h2 : i ≤ j) (h3 : j < b) : lt d[j]! d[i]! = false := by
  rcases Nat.lt_or_eq_of_le h2 with e | e
  · exact h i j h1 e h3
  · subst e; exact hO.irrefl _
theorem merge1 {a i b : Nat} {d e : Array α} (h : SortedIn lt (a + 1) b d) (h1 : a + 1 ≤ i) (h2 : i ≤ b) (F1 : i = b ∨ lt d[i]! d[a]! = false) (F2 : i = a + 1 ∨ lt d[i - 1]! d[a]! = true) (hr : Rot a (a + 1) i d e) : SortedIn lt a b e := by
  intro x y hx hxy hy
  rw [hr.2, hr.2]
  by_cases y1 : y < i - 1
  · rw [if_pos (by omega), if_pos (by omega)]; exact sorted_le hO h (by omega) (by omega) (by omega)
  · by_cases y2 : y = i - 1
    · rw [if_neg (by omega), if_pos (by omega), if_pos (by omega)]
      rw [show y - (i - (a + 1)) = a by omega]
      refine asym hO ?_
      rcases F2 with F2 | F2
      · omega
      · cases hc : lt d[x + (a + 1 - a)]! d[a]!
        · have := hO.ntrans _ _ _ (sorted_le hO h (i := x + (a + 1 - a)) (j := i - 1) (by omega) (by omega) (by omega)) hc
          rw [this] at F2; cases F2
        · rfl
    · rw [if_neg (by omega), if_neg (by omega)]
      have F1' := F1.resolve_left (by omega)
      by_cases x1 : x < i - 1
      · rw [if_pos (by omega)]; exact sorted_le hO h (by omega) (by omega) (by omega)
      · by_cases x2 : x = i - 1
        · rw [if_neg (by omega), if_pos (by omega), show x - (i - (a + 1)) = a by omega]
          exact hO.ntrans _ _ _ (sorted_le hO h (i := i) (j := y) (by omega) (by omega) (by omega)) F1'
        · rw [if_neg (by omega), if_neg (by omega)]; exact sorted_le hO h (by omega) (by omega) (by omega)
theorem merge2 {a i m : Nat} {d e : Array α} (h : SortedIn lt a m d) (h1 : a ≤ i) (h2 : i ≤ m) (F1 : i = m ∨ lt d[m]! d[i]! = true) (F2 : i = a ∨ lt d[m]! d[i - 1]! = false) (hr : Rot i m (m + 1) d e) : SortedIn lt a (m + 1) e := by
  intro x y hx hxy hy
  rw [hr.2, hr.2]
  by_cases y1 : y < i
  · rw [if_neg (by omega), if_neg (by omega), if_neg (by omega), if_neg (by omega)]; exact sorted_le hO h (by omega) (by omega) (by omega)
  · by_cases y2 : y = i
    · rw [if_pos (by omega), if_neg (by omega), if_neg (by omega), show y + (m - i) = m by omega]
      exact hO.ntrans _ _ _ (F2.resolve_left (by omega)) (sorted_le hO h (i := x) (j := i - 1) (by omega) (by omega) (by omega))
    · rw [if_neg (by omega), if_pos (by omega)]
      by_cases x1 : x < i
      · rw [if_neg (by omega), if_neg (by omega)]; exact sorted_le hO h (by omega) (by omega) (by omega)
      · by_cases x2 : x = i
        · rw [if_pos (by omega), show x + (m - i) = m by omega]
          refine asym hO ?_
          cases hc : lt d[m]! d[y - (m + 1 - m)]!
          · have := hO.ntrans _ _ _ hc (sorted_le hO h (i := i) (j := y - (m + 1 - m)) (by omega) (by omega) (by omega))
            rw [this] at F1
            exact absurd (F1.resolve_left (by omega)) (by simp)
          · rfl
        · rw [if_neg (by omega), if_pos (by omega)]; exact sorted_le hO h (by omega) (by omega) (by omega)
theorem halves {a s m t b mid : Nat} {d e : Array α} (g1 : a ≤ s) (g2 : s ≤ m) (g3 : m ≤ t) (g4 : t ≤ b) (hmid : mid + m = s + t) (h1 : SortedIn lt a m d) (h2 : SortedIn lt m b d)
    (F1 : s = a ∨ t = b ∨ lt d[t]! d[s - 1]! = false) (F2 : s = m ∨ t = m ∨ lt d[t - 1]! d[s]! = true) (hr : Rot s m t d e) :
    (SortedIn lt a s e ∧ SortedIn lt s mid e ∧ SortedIn lt mid t e ∧ SortedIn lt t b e) ∧ ∀ x y, a ≤ x → x < mid → mid ≤ y → y < b → lt e[y]! e[x]! = false := by
  have r0 : ∀ x, x < s → e[x]! = d[x]! := fun x hx => by rw [hr.2, if_neg (by omega), if_neg (by omega)]
  have r1 : ∀ x, s ≤ x → x < mid → e[x]! = d[x + (m - s)]! := fun x hx hx2 => by rw [hr.2, if_pos (by omega)]
  have r2 : ∀ x, mid ≤ x → x < t → e[x]! = d[x - (t - m)]! := fun x hx hx2 => by rw [hr.2, if_neg (by omega), if_pos (by omega)]
  have r3 : ∀ x, t ≤ x → e[x]! = d[x]! := fun x hx => by rw [hr.2, if_neg (by omega), if_neg (by omega)]
  refine ⟨⟨fun x y hx hxy hy => ?_, fun x y hx hxy hy => ?_, fun x y hx hxy hy => ?_, fun x y hx hxy hy => ?_⟩, fun x y hx hx2 hy hy2 => ?_⟩
  · rw [r0 y hy, r0 x (by omega)]; exact h1 x y hx hxy (by omega)
  · rw [r1 y (by omega) hy, r1 x hx (by omega)]; exact h2 _ _ (by omega) (by omega) (by omega)
  · rw [r2 y (by omega) hy, r2 x hx (by omega)]; exact h1 _ _ (by omega) (by omega) (by omega)
  · rw [r3 y (by omega), r3 x hx]; exact h2 _ _ (by omega) hxy hy
  · by_cases x1 : x < s
    · rw [r0 x x1]
      by_cases y1 : y < t
      · rw [r2 y hy y1]; exact sorted_le hO h1 hx (by omega) (by omega)
      · rw [r3 y (by omega)]
        have F := (F1.resolve_left (by omega)).resolve_left (by omega)
        exact hO.ntrans _ _ _ (sorted_le hO h2 (i := t) (j := y) (by omega) (by omega) hy2) (hO.ntrans _ _ _ F (sorted_le hO h1 (i := x) (j := s - 1) hx (by omega) (by omega)))
    · rw [r1 x (by omega) hx2]
      by_cases y1 : y < t
      · rw [r2 y hy y1]
        have F := (F2.resolve_left (by omega)).resolve_left (by omega)
        refine asym hO ?_
        have k1 := sorted_le hO h2 (i := x + (m - s)) (j := t - 1) (by omega) (by omega) (by omega)
        have k2 := sorted_le hO h1 (i := s) (j := y - (t - m)) (by omega) (by omega) (by omega)
        cases hc : lt d[x + (m - s)]! d[y - (t - m)]!
        · have := hO.ntrans _ _ _ k1 (hO.ntrans _ _ _ hc k2)
          rw [this] at F; cases F
        · rfl
      · rw [r3 y (by omega)]; exact sorted_le hO h2 (by omega) (by omega) hy2
omit hO in
theorem joined {a mid b : Nat} {d1 d2 d3 : Array α} (h1 : a ≤ mid) (h2 : mid ≤ b) (hb : b ≤ d1.size) (hc : ∀ x y, a ≤ x → x < mid → mid ≤ y → y < b → lt d1[y]! d1[x]! = false)
    (p1 : PermIn a mid d1 d2) (s1 : SortedIn lt a mid d2) (p2 : PermIn mid b d2 d3) (s2 : SortedIn lt mid b d3) : SortedIn lt a b d3 := by
  have c1 : ∀ x y, a ≤ x → x < mid → mid ≤ y → y < b → lt d2[y]! d2[x]! = false := fun x y hx hx2 hy hy2 => by
    rw [p1.2.1 y (.inr hy)]
    exact permIn_all d1 d2 a mid (fun z => lt d1[y]! z = false) (by omega) p1 (fun i hi hi2 => hc i y hi hi2 hy hy2) x hx hx2
  have c2 : ∀ x y, a ≤ x → x < mid → mid ≤ y → y < b → lt d3[y]! d3[x]! = false := fun x y hx hx2 hy hy2 => by
    rw [p2.2.1 x (.inl hx2)]
    exact permIn_all d2 d3 mid b (fun z => lt z d2[x]! = false) (by rw [p1.1]; exact hb) p2 (fun i hi hi2 => c1 x i hx hx2 hi hi2) y hy hy2
  intro x y hx hxy hy
  by_cases y1 : y < mid
  · rw [p2.2.1 y (.inl y1), p2.2.1 x (.inl (by omega))]; exact s1 x y hx hxy y1
  · by_cases x1 : x < mid
    · exact c2 x y hx x1 (by omega) hy
    · exact s2 x y (by omega) hxy hy
omit hO in
theorem sorted_perm_out {a b a' b' : Nat} {d e : Array α} (h : SortedIn lt a b d) (p : PermIn a' b' d e) (ho : b ≤ a' ∨ b' ≤ a) : SortedIn lt a b e := fun x y hx hxy hy => by
  rw [p.2.1 x (by omega), p.2.1 y (by omega)]; exact h x y hx hxy hy
end

end Go.Proofs.YtjpjmlljgcpbkaaGreat.St

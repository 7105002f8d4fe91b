/- Joined by merge.py: StableP, Stable, Stable2. -/
import Derived.Sort.Lot0
import Derived.Sort.LotA
import Derived.Test.YtdpbhjaicgkblaaGreatDoorJCivil
import Derived.Shelf.SlSortCmp.PdqK
import Derived.Deep.LoopGhost
/- The stable sort's pieces: exchanging, rotating, merging. No program in sight. -/
namespace Go.Proofs.YtdpbhjaicgkblaaGreatDoor.St
set_option linter.unusedSimpArgs false
set_option linter.unusedVariables false
open Go.Sort
variable {α : Type} [Inhabited α]
def Rot (a m b : Nat) (d d' : Array α) : Prop :=
 d'.size = d.size ∧ ∀ t : Nat, d'[t]! = if a ≤ t ∧ t < a + (b - m) then d[t + (m - a)]! else if a + (b - m) ≤ t ∧ t < b then d[t - (b - m)]! else d[t]!
theorem Rot.self (a m : Nat) (d : Array α) : Rot a m m d d := ⟨rfl, fun t => by
 rw [if_neg (by omega)]; split
 ·congr 1; omega
 ·rfl⟩
theorem Rot.self' (m b : Nat) (d : Array α) : Rot m m b d d := ⟨rfl, fun t => by
 split
 ·congr 1; omega
 ·rw [if_neg (by omega)]⟩
def swpR (a b : Nat) : Nat → Array α → Array α
 | 0, d => d
 | n + 1, d => swp (swpR a b n d) (a + n) (b + n)
theorem swpR_size (a b : Nat) (d : Array α) : ∀ n, (swpR a b n d).size = d.size
 | 0 => rfl
 | n + 1 => by rw [swpR, size_swp, swpR_size a b d n]
theorem swpR_at (a b : Nat) (d : Array α) : ∀ n, a + n ≤ b → b + n ≤ d.size → ∀ t : Nat,
  (swpR a b n d)[t]! = if a ≤ t ∧ t < a + n then d[t + (b - a)]! else if b ≤ t ∧ t < b + n then d[t - (b - a)]! else d[t]!
 | 0, _, _, t => by rw [if_neg (by omega), if_neg (by omega)]; rfl
 | n + 1, h1, h2, t => by
  have ih := swpR_at a b d n (by omega) (by omega)
  have hs := swpR_size a b d n
  rw [swpR]
  by_cases e1 : t = a + n
  ·subst e1
   rw [swp_left _ _ _ (by omega) (by omega), ih, if_neg (by omega), if_neg (by omega), if_pos (by omega)]
   congr 1; omega
  ·by_cases e2 : t = b + n
   ·subst e2
    rw [swp_right _ _ _ (by omega), ih, if_neg (by omega), if_neg (by omega), if_neg (by omega), if_pos (by omega)]
    congr 1; omega
   ·rw [swp_other _ _ _ _ e1 e2, ih]
    by_cases c1 : a ≤ t ∧ t < a + n
    ·rw [if_pos c1, if_pos (by omega)]
    ·by_cases c2 : b ≤ t ∧ t < b + n
     ·rw [if_neg c1, if_pos c2, if_neg (by omega), if_pos (by omega)]
     ·rw [if_neg c1, if_neg c2, if_neg (by omega), if_neg (by omega)]
theorem rot_more {m i j : Nat} {d d' : Array α} (hi : i ≤ m) (hij : j < i) (hm : m + j ≤ d.size) (h : Rot (m - i + j) m (m + j) (swpR (m - i) m j d) d') : Rot (m - i) m (m + j) d d' := by
 obtain ⟨h1, h2⟩ := h
 refine ⟨h1.trans (swpR_size _ _ _ _), fun t => ?_⟩
 have hs := swpR_at (m - i) m d j (by omega) hm
 rw [h2]
 by_cases c1 : m - i ≤ t ∧ t < m - i + (m + j - m)
 ·rw [if_pos c1, if_neg (by omega), if_neg (by omega), hs, if_pos (by omega)]
 ·rw [if_neg c1]
  by_cases c2 : m - i + (m + j - m) ≤ t ∧ t < m + j
  ·rw [if_pos c2]
   by_cases c3 : m - i + j ≤ t ∧ t < m - i + j + (m + j - m)
   ·rw [if_pos c3, hs, if_neg (by omega), if_pos (by omega)]; congr 1; omega
   ·rw [if_neg c3, if_pos (by omega), hs, if_neg (by omega), if_neg (by omega)]
  ·rw [if_neg c2, if_neg (by omega), if_neg (by omega), hs, if_neg (by omega), if_neg (by omega)]
theorem rot_less {m i j : Nat} {d d' : Array α} (hi : i ≤ m) (hij : i < j) (hm : m + j ≤ d.size) (h : Rot (m - i) m (m + (j - i)) (swpR (m - i) (m + j - i) i d) d') : Rot (m - i) m (m + j) d d' := by
 obtain ⟨h1, h2⟩ := h
 refine ⟨h1.trans (swpR_size _ _ _ _), fun t => ?_⟩
 have hs := swpR_at (m - i) (m + j - i) d i (by omega) (by omega)
 rw [h2]
 by_cases c1 : m - i ≤ t ∧ t < m - i + (m + (j - i) - m)
 ·rw [if_pos c1, if_pos (by omega), hs]
  by_cases c3 : m + j - i ≤ t + (m - (m - i)) ∧ t + (m - (m - i)) < m + j - i + i
  ·exfalso; omega
  ·rw [if_neg (by omega), if_neg c3]
 ·rw [if_neg c1]
  by_cases c2 : m - i + (m + (j - i) - m) ≤ t ∧ t < m + (j - i)
  ·rw [if_pos c2, hs, if_pos (by omega), if_pos (by omega)]; congr 1; omega
  ·rw [if_neg c2, hs, if_neg (by omega)]
   by_cases c3 : m + j - i ≤ t ∧ t < m + j - i + i
   ·rw [if_pos c3, if_neg (by omega), if_pos (by omega)]; congr 1; omega
   ·rw [if_neg c3, if_neg (by omega), if_neg (by omega)]
theorem rot_end {m i : Nat} {d : Array α} (hi : i ≤ m) (hm : m + i ≤ d.size) : Rot (m - i) m (m + i) d (swpR (m - i) m i d) := by
 refine ⟨swpR_size _ _ _ _, fun t => ?_⟩
 rw [swpR_at (m - i) m d i (by omega) hm]
 by_cases c1 : m - i ≤ t ∧ t < m - i + i
 ·rw [if_pos c1, if_pos (by omega)]
 ·by_cases c2 : m ≤ t ∧ t < m + i
  ·rw [if_neg c1, if_pos c2, if_neg (by omega), if_pos (by omega)]; congr 1; omega
  ·rw [if_neg c1, if_neg c2, if_neg (by omega), if_neg (by omega)]
theorem rot_up {a k : Nat} {d e : Array α} (h : Rot a (a + 1) (k + 1) d e) (hk : a ≤ k) (hs : k + 1 < d.size) : Rot a (a + 1) (k + 2) d (swp e k (k + 1)) := by
 obtain ⟨h1, h2⟩ := h
 refine ⟨by rw [size_swp]; exact h1, fun t => ?_⟩
 by_cases e1 : t = k
 ·subst e1
  rw [swp_left _ _ _ (by omega) (by omega), h2, if_neg (by omega), if_neg (by omega), if_pos (by omega)]; congr 1; omega
 ·by_cases e2 : t = k + 1
  ·subst e2
   rw [swp_right _ _ _ (by omega), h2, if_neg (by omega), if_pos (by omega), if_neg (by omega), if_pos (by omega)]; congr 1; omega
  ·rw [swp_other _ _ _ _ e1 e2, h2]
   by_cases c1 : a ≤ t ∧ t < a + (k + 1 - (a + 1))
   ·rw [if_pos c1, if_pos (by omega)]
   ·rw [if_neg c1, if_neg (by omega), if_neg (by omega), if_neg (by omega)]
theorem rot_down {k m : Nat} {d e : Array α} (h : Rot (k + 1) m (m + 1) d e) (hk : k + 1 ≤ m) (hs : m < d.size) : Rot k m (m + 1) d (swp e (k + 1) k) := by
 obtain ⟨h1, h2⟩ := h
 refine ⟨by rw [size_swp]; exact h1, fun t => ?_⟩
 by_cases e1 : t = k + 1
 ·subst e1
  rw [swp_left _ _ _ (by omega) (by omega), h2, if_neg (by omega), if_neg (by omega), if_neg (by omega), if_pos (by omega)]; congr 1; omega
 ·by_cases e2 : t = k
  ·subst e2
   rw [swp_right _ _ _ (by omega), h2, if_pos (by omega), if_pos (by omega)]; congr 1; omega
  ·rw [swp_other _ _ _ _ e1 e2, h2]
   by_cases c1 : k + 1 + (m + 1 - m) ≤ t ∧ t < m + 1
   ·rw [if_neg (by omega), if_pos c1, if_neg (by omega), if_pos (by omega)]
   ·rw [if_neg (by omega), if_neg c1, if_neg (by omega), if_neg (by omega)]
theorem rot_perm {a m b : Nat} {d e : Array α} (h : Rot a m b d e) (h1 : a ≤ m) (h2 : m ≤ b) (hb : b ≤ d.size) : PermIn a b d e := by
 obtain ⟨hs, ht⟩ := h
 refine ⟨hs, fun i hi => by rw [ht, if_neg (by omega), if_neg (by omega)], ?_⟩
 rw [extract_toList _ _ _ (by omega), extract_toList _ _ _ hb]
 have e1 : List.range' a (b - a) = List.range' a (b - m) ++ List.range' (a + (b - m)) (m - a) := by
  rw [List.range'_append_1]; congr 1; omega
 have e2 : List.range' a (b - a) = List.range' a (m - a) ++ List.range' m (b - m) := by
  have := List.range'_append_1 (s := a) (m := m - a) (n := b - m)
  rw [show a + (m - a) = m by omega] at this
  rw [this]; congr 1; omega
 conv => lhs; rw [e1, List.map_append]
 conv => rhs; rw [e2, List.map_append]
 have f1 : (List.range' a (b - m)).map (fun i => e[i]!) = (List.range' m (b - m)).map (fun i => d[i]!) := by
  apply List.ext_getElem
  ·simp
  ·intro i hi _
   simp only [List.length_map, List.length_range'] at hi
   simp only [List.getElem_map, List.getElem_range', Nat.one_mul]
   rw [ht, if_pos (by omega)]; congr 1; omega
 have f2 : (List.range' (a + (b - m)) (m - a)).map (fun i => e[i]!) = (List.range' a (m - a)).map (fun i => d[i]!) := by
  apply List.ext_getElem
  ·simp
  ·intro i hi _
   simp only [List.length_map, List.length_range'] at hi
   simp only [List.getElem_map, List.getElem_range', Nat.one_mul]
   rw [ht, if_neg (by omega), if_pos (by omega)]; congr 1; omega
 rw [f1, f2]
 exact List.perm_append_comm
section
variable {lt : α → α → Bool} (hO : SWO lt)
include hO
omit [Inhabited α] in
theorem asym {x y : α} (h : lt x y = true) : lt y x = false := by
 cases h2 : lt y x
 ·rfl
 ·have := hO.trans _ _ _ h h2; rw [hO.irrefl] at this; cases this
theorem sorted_le {a b i j : Nat} {d : Array α} (h : SortedIn lt a b d) (h1 : a ≤ i) (h2 : i ≤ j) (h3 : j < b) : lt d[j]! d[i]! = false := by
 rcases Nat.lt_or_eq_of_le h2 with e | e
 ·exact h i j h1 e h3
 ·subst e; exact hO.irrefl _
theorem merge1 {a i b : Nat} {d e : Array α} (h : SortedIn lt (a + 1) b d) (h1 : a + 1 ≤ i) (h2 : i ≤ b) (F1 : i = b ∨ lt d[i]! d[a]! = false) (F2 : i = a + 1 ∨ lt d[i - 1]! d[a]! = true) (hr : Rot a (a + 1) i d e) : SortedIn lt a b e := by
 intro x y hx hxy hy
 rw [hr.2, hr.2]
 by_cases y1 : y < i - 1
 ·rw [if_pos (by omega), if_pos (by omega)]; exact sorted_le hO h (by omega) (by omega) (by omega)
 ·by_cases y2 : y = i - 1
  ·rw [if_neg (by omega), if_pos (by omega), if_pos (by omega)]
   rw [show y - (i - (a + 1)) = a by omega]
   refine asym hO ?_
   rcases F2 with F2 | F2
   ·omega
   ·cases hc : lt d[x + (a + 1 - a)]! d[a]!
    ·have := hO.ntrans _ _ _ (sorted_le hO h (i := x + (a + 1 - a)) (j := i - 1) (by omega) (by omega) (by omega)) hc
     rw [this] at F2; cases F2
    ·rfl
  ·rw [if_neg (by omega), if_neg (by omega)]
   have F1' := F1.resolve_left (by omega)
   by_cases x1 : x < i - 1
   ·rw [if_pos (by omega)]; exact sorted_le hO h (by omega) (by omega) (by omega)
   ·by_cases x2 : x = i - 1
    ·rw [if_neg (by omega), if_pos (by omega), show x - (i - (a + 1)) = a by omega]
     exact hO.ntrans _ _ _ (sorted_le hO h (i := i) (j := y) (by omega) (by omega) (by omega)) F1'
    ·rw [if_neg (by omega), if_neg (by omega)]; exact sorted_le hO h (by omega) (by omega) (by omega)
theorem merge2 {a i m : Nat} {d e : Array α} (h : SortedIn lt a m d) (h1 : a ≤ i) (h2 : i ≤ m) (F1 : i = m ∨ lt d[m]! d[i]! = true) (F2 : i = a ∨ lt d[m]! d[i - 1]! = false) (hr : Rot i m (m + 1) d e) : SortedIn lt a (m + 1) e := by
 intro x y hx hxy hy
 rw [hr.2, hr.2]
 by_cases y1 : y < i
 ·rw [if_neg (by omega), if_neg (by omega), if_neg (by omega), if_neg (by omega)]; exact sorted_le hO h (by omega) (by omega) (by omega)
 ·by_cases y2 : y = i
  ·rw [if_pos (by omega), if_neg (by omega), if_neg (by omega), show y + (m - i) = m by omega]
   exact hO.ntrans _ _ _ (F2.resolve_left (by omega)) (sorted_le hO h (i := x) (j := i - 1) (by omega) (by omega) (by omega))
  ·rw [if_neg (by omega), if_pos (by omega)]
   by_cases x1 : x < i
   ·rw [if_neg (by omega), if_neg (by omega)]; exact sorted_le hO h (by omega) (by omega) (by omega)
   ·by_cases x2 : x = i
    ·rw [if_pos (by omega), show x + (m - i) = m by omega]
     refine asym hO ?_
     cases hc : lt d[m]! d[y - (m + 1 - m)]!
     ·have := hO.ntrans _ _ _ hc (sorted_le hO h (i := i) (j := y - (m + 1 - m)) (by omega) (by omega) (by omega))
      rw [this] at F1
      exact absurd (F1.resolve_left (by omega)) (by simp)
     ·rfl
    ·rw [if_neg (by omega), if_pos (by omega)]; exact sorted_le hO h (by omega) (by omega) (by omega)
theorem halves {a s m t b mid : Nat} {d e : Array α} (g1 : a ≤ s) (g2 : s ≤ m) (g3 : m ≤ t) (g4 : t ≤ b) (hmid : mid + m = s + t) (h1 : SortedIn lt a m d) (h2 : SortedIn lt m b d)
  (F1 : s = a ∨ t = b ∨ lt d[t]! d[s - 1]! = false) (F2 : s = m ∨ t = m ∨ lt d[t - 1]! d[s]! = true) (hr : Rot s m t d e) :
  (SortedIn lt a s e ∧ SortedIn lt s mid e ∧ SortedIn lt mid t e ∧ SortedIn lt t b e) ∧ ∀ x y, a ≤ x → x < mid → mid ≤ y → y < b → lt e[y]! e[x]! = false := by
 have r0 : ∀ x, x < s → e[x]! = d[x]! := fun x hx => by rw [hr.2, if_neg (by omega), if_neg (by omega)]
 have r1 : ∀ x, s ≤ x → x < mid → e[x]! = d[x + (m - s)]! := fun x hx hx2 => by rw [hr.2, if_pos (by omega)]
 have r2 : ∀ x, mid ≤ x → x < t → e[x]! = d[x - (t - m)]! := fun x hx hx2 => by rw [hr.2, if_neg (by omega), if_pos (by omega)]
 have r3 : ∀ x, t ≤ x → e[x]! = d[x]! := fun x hx => by rw [hr.2, if_neg (by omega), if_neg (by omega)]
 refine ⟨⟨fun x y hx hxy hy => ?_, fun x y hx hxy hy => ?_, fun x y hx hxy hy => ?_, fun x y hx hxy hy => ?_⟩, fun x y hx hx2 hy hy2 => ?_⟩
 ·rw [r0 y hy, r0 x (by omega)]; exact h1 x y hx hxy (by omega)
 ·rw [r1 y (by omega) hy, r1 x hx (by omega)]; exact h2 _ _ (by omega) (by omega) (by omega)
 ·rw [r2 y (by omega) hy, r2 x hx (by omega)]; exact h1 _ _ (by omega) (by omega) (by omega)
 ·rw [r3 y (by omega), r3 x hx]; exact h2 _ _ (by omega) hxy hy
 ·by_cases x1 : x < s
  ·rw [r0 x x1]
   by_cases y1 : y < t
   ·rw [r2 y hy y1]; exact sorted_le hO h1 hx (by omega) (by omega)
   ·rw [r3 y (by omega)]
    have F := (F1.resolve_left (by omega)).resolve_left (by omega)
    exact hO.ntrans _ _ _ (sorted_le hO h2 (i := t) (j := y) (by omega) (by omega) hy2) (hO.ntrans _ _ _ F (sorted_le hO h1 (i := x) (j := s - 1) hx (by omega) (by omega)))
  ·rw [r1 x (by omega) hx2]
   by_cases y1 : y < t
   ·rw [r2 y hy y1]
    have F := (F2.resolve_left (by omega)).resolve_left (by omega)
    refine asym hO ?_
    have k1 := sorted_le hO h2 (i := x + (m - s)) (j := t - 1) (by omega) (by omega) (by omega)
    have k2 := sorted_le hO h1 (i := s) (j := y - (t - m)) (by omega) (by omega) (by omega)
    cases hc : lt d[x + (m - s)]! d[y - (t - m)]!
    ·have := hO.ntrans _ _ _ k1 (hO.ntrans _ _ _ hc k2)
     rw [this] at F; cases F
    ·rfl
   ·rw [r3 y (by omega)]; exact sorted_le hO h2 (by omega) (by omega) hy2
omit hO in
theorem joined {a mid b : Nat} {d1 d2 d3 : Array α} (h1 : a ≤ mid) (h2 : mid ≤ b) (hb : b ≤ d1.size) (hc : ∀ x y, a ≤ x → x < mid → mid ≤ y → y < b → lt d1[y]! d1[x]! = false)
  (p1 : PermIn a mid d1 d2) (s1 : SortedIn lt a mid d2) (p2 : PermIn mid b d2 d3) (s2 : SortedIn lt mid b d3) : SortedIn lt a b d3 := by
 have c1 : ∀ x y, a ≤ x → x < mid → mid ≤ y → y < b → lt d2[y]! d2[x]! = false := fun x y hx hx2 hy hy2 => by
  rw [p1.2.1 y (.inr hy)]
  exact permIn_all d1 d2 a mid (fun z => lt d1[y]! z = false) (by omega) p1 (fun i hi hi2 => hc i y hi hi2 hy hy2) x hx hx2
 have c2 : ∀ x y, a ≤ x → x < mid → mid ≤ y → y < b → lt d3[y]! d3[x]! = false := fun x y hx hx2 hy hy2 => by
  rw [p2.2.1 x (.inl hx2)]
  exact permIn_all d2 d3 mid b (fun z => lt z d2[x]! = false) (by rw [p1.1]; exact hb) p2 (fun i hi hi2 => c1 x i hx hx2 hi hi2) y hy hy2
 intro x y hx hxy hy
 by_cases y1 : y < mid
 ·rw [p2.2.1 y (.inl y1), p2.2.1 x (.inl (by omega))]; exact s1 x y hx hxy y1
 ·by_cases x1 : x < mid
  ·exact c2 x y hx x1 (by omega) hy
  ·exact s2 x y (by omega) hxy hy
omit hO in
theorem sorted_perm_out {a b a' b' : Nat} {d e : Array α} (h : SortedIn lt a b d) (p : PermIn a' b' d e) (ho : b ≤ a' ∨ b' ≤ a) : SortedIn lt a b e := fun x y hx hxy hy => by
 rw [p.2.1 x (by omega), p.2.1 y (by omega)]; exact h x y hx hxy hy
end
end Go.Proofs.YtdpbhjaicgkblaaGreatDoor.St
/- slices.SortStableFunc at events: its callees' walks. -/
namespace Go.Proofs.YtdpbhjaicgkblaaGreatDoor
set_option linter.unusedSimpArgs false
set_option linter.unusedVariables false
open Go.Shelf Go.RowKit Go.Lib Go.Sort St
theorem aggE (w : World) : (isAgg 206).run Tryz.prog w = .ok true w := by kernel_rfl
theorem sizE (w : World) : (Go.sizeOf 206).run Tryz.prog w = .ok 2 w := by kernel_rfl
section
variable {α : Type} [Inhabited α] {k : Nat} {enc : α → List Value} {blk off cap : Nat} {d0 : Array α} {w0 : World} {g : Nat} {cb : Array Value}
set_option maxHeartbeats 4000000 in
set_option maxRecDepth 1000000 in
theorem swapRange_w (zE : ∀ w, (Go.sizeOf 206).run Tryz.prog w = .ok k w) (a b n : Nat) (d : Array α) (w : World) (R : RowK enc k w0 blk off d0) (hs : d0.size = d.size) (S : SWK enc k w0 blk off d w) (hab : a + n ≤ b) (hb : b + n ≤ d.size) (hsz : d.size < 4611686018427387904) :
  Calls Tryz.prog 215 #[.slice (some ⟨blk, off, none⟩) d.size cap, .int .i64 a, .int .i64 b, .int .i64 n, .func (.func g) #[] cb] w fun e w' => e = .returned (.tuple #[]) ∧ SWK enc k w0 blk off (swpR a b n d) w' := by
 have aE := aggE
 have mixed : Tryz.prog.follows .mixedOrders = true := by kernel_rfl
 have S0 : Aside (SWK enc k w0 blk off d w) := S
 clear S
 go_enter Tryz.func215, Tryz.ntmps215
 go_wp2
 go_loopg [10] n (fun kx s10 wr => ∃ (i : Nat), s10 = .int .i64 i ∧ i ≤ n ∧ n - i ≤ kx ∧ Aside (SWK enc k w0 blk off (swpR a b i d) wr))
 case atStart => exact ⟨0, rfl, by omega, by omega, S0⟩
 case round =>
  clear S0
  obtain ⟨i, rfl, hin, hkx, S1⟩ := hrel
  by_cases hlt : i < n
  ·have hz : (i : Int) < (n : Int) := by omega
   go_wp2_with fail
   have ea : ((a : Int) + (i : Int)).toNat = a + i := by omega
   have pa : (0 : Int) ≤ (a : Int) + (i : Int) := by omega
   have ba : (a : Int) + (i : Int) < (d.size : Int) := by omega
   have ra : IntKind.i64.wrap ((a : Int) + (i : Int)) = (a : Int) + (i : Int) := by rw [IntKind.wrap_i64]; omega
   have eb : ((b : Int) + (i : Int)).toNat = b + i := by omega
   have pb : (0 : Int) ≤ (b : Int) + (i : Int) := by omega
   have bb : (b : Int) + (i : Int) < (d.size : Int) := by omega
   have rb : IntKind.i64.wrap ((b : Int) + (i : Int)) = (b : Int) + (i : Int) := by rw [IntKind.wrap_i64]; omega
   have sz := swpR_size a b d i
   have S2 : Aside (SWK enc k w0 blk off (swpR a b (i + 1) d) ((wr.drew.setCells blk (off + (a + i) * k) (enc (swpR a b i d)[b + i]!)).setCells blk (off + (b + i) * k) (enc (swpR a b i d)[a + i]!))) := S1.out.swapped R (a + i) (b + i) (by omega) (by omega)
   have la := S1.out.ld1 R (by omega) Tryz.prog (a + i) (by omega)
   have lb := S1.out.ld1 R (by omega) Tryz.prog (b + i) (by omega)
   have sa := S1.out.st1 R (by omega) Tryz.prog (a + i) (by omega) (swpR a b i d)[b + i]!
   have sb := S1.out.st2 R (by omega) Tryz.prog (a + i) (b + i) (by omega) (by omega) (swpR a b i d)[b + i]! (swpR a b i d)[a + i]!
   have na : (enc (swpR a b i d)[a + i]!).length = k := R.hk _
   have nb : (enc (swpR a b i d)[b + i]!).length = k := R.hk _
   generalize enc (swpR a b i d)[a + i]! = cI at S2 la sb na
   generalize enc (swpR a b i d)[b + i]! = cJ at S2 lb sa sb nb
   clear S1 sz
   go_big_region_o
   clear la lb sa sb
   generalize (wr.drew.setCells blk (off + (a + i) * k) cJ).setCells blk (off + (b + i) * k) cI = w2 at S2 ⊢
   go_wp2
   go_roundg (n - (i + 1))
   case measure => omega
   case rel => exact ⟨i + 1, by go_num, by omega, by omega, S2⟩
  ·have hz : ¬ (i : Int) < (n : Int) := by omega
   obtain rfl : i = n := by omega
   go_wp2
   go_end0
   exact ⟨rfl, S1.out⟩
theorem swapRange_i (zE : ∀ w, (Go.sizeOf 206).run Tryz.prog w = .ok k w) (a b n : Nat) (d : Array α) (w : World) (R : RowK enc k w0 blk off d0) (hs : d0.size = d.size) (S : SWK enc k w0 blk off d w) (hab : a + n ≤ b) (hb : b + n ≤ d.size) (hsz : d.size < 4611686018427387904)
  (A B N : Int) (hA : A = a) (hB : B = b) (hN : N = n) :
  Calls Tryz.prog 215 #[.slice (some ⟨blk, off, none⟩) d.size cap, .int .i64 A, .int .i64 B, .int .i64 N, .func (.func g) #[] cb] w fun e w' => e = .returned (.tuple #[]) ∧ Aside (SWK enc k w0 blk off (swpR a b n d) w') := by
 subst hA hB hN
 exact swapRange_w zE a b n d w R hs S hab hb hsz
def RotOut (enc : α → List Value) (k : Nat) (w0 : World) (blk off : Nat) (a m b : Nat) (d : Array α) (w' : World) : Prop := ∃ d', Rot a m b d d' ∧ SWK enc k w0 blk off d' w'
set_option maxHeartbeats 4000000 in
set_option maxRecDepth 1000000 in
theorem rotate_w (zE : ∀ w, (Go.sizeOf 206).run Tryz.prog w = .ok k w) (a m b : Nat) (d : Array α) (w : World) (R : RowK enc k w0 blk off d0) (hs : d0.size = d.size) (S : SWK enc k w0 blk off d w) (h1 : a < m) (h2 : m < b) (hb : b ≤ d.size) (hsz : d.size < 4611686018427387904) :
  Calls Tryz.prog 207 #[.slice (some ⟨blk, off, none⟩) d.size cap, .int .i64 a, .int .i64 m, .int .i64 b, .func (.func g) #[] cb] w fun e w' => e = .returned (.tuple #[]) ∧ RotOut enc k w0 blk off a m b d w' := by
 have S0 : Aside (SWK enc k w0 blk off d w) := S
 clear S
 have HR := Lib.hid R
 have HE := Lib.hid zE
 clear R zE
 go_enter Tryz.func207, Tryz.ntmps207
 go_wp2
 go_loopg [10, 11] (m - a + (b - m)) (fun kx s10 s11 wr => ∃ (i j : Nat) (dk : Array α), s10 = .int .i64 i ∧ s11 = .int .i64 j ∧ 1 ≤ i ∧ 1 ≤ j ∧ i ≤ m ∧ m + j ≤ d.size ∧ i + j ≤ kx ∧ dk.size = d.size ∧ Aside (SWK enc k w0 blk off dk wr) ∧ Hid (∀ d', Rot (m - i) m (m + j) dk d' → Rot a m b d d'))
 case atStart => exact ⟨m - a, b - m, d, by congr 1; omega, by congr 1; omega, by omega, by omega, by omega, by omega, by omega, rfl, S0, fun d' h => by rw [show m - (m - a) = a by omega, show m + (b - m) = b by omega] at h; exact h⟩
 case round =>
  clear S0
  obtain ⟨i, j, dk, rfl, rfl, hi, hj, him, hjm, hkx, hds, S1, HT⟩ := hrel
  by_cases hne : i = j
  ·have hz : ((i : Int) != (j : Int)) = false := by simp [hne]
   have hzz : (i : Int) = (j : Int) := by omega
   have HJ := Lib.hid hne
   have hmi : m + i ≤ d.size := by omega
   clear hne hzz
   have S2 := fun W h => swapRange_i (cap := cap) (g := g) (cb := cb) HE.out (m - i) m i dk W HR.out (by omega) h (by omega) (by omega) (by omega)
   rw [hds] at S2
   have HS2 := Lib.hid S2
   clear S2
   go_wp2_with (go_at_call 215; refine (HS2.out _ S1.out _ _ _ (by omega) (by omega) (by omega)).mono ?_; rintro e w1 ⟨rfl, S3⟩)
   go_end0
   exact ⟨rfl, _, HT.out _ (by rw [← HJ.out]; exact rot_end (by omega) (by omega)), S3.out⟩
  ·have hz : ((i : Int) != (j : Int)) = true := by simp; omega
   by_cases hgt : j < i
   ·have hgz : (j : Int) < (i : Int) := by omega
    have S2 := fun W h => swapRange_i (cap := cap) (g := g) (cb := cb) HE.out (m - i) m j dk W HR.out (by omega) h (by omega) (by omega) (by omega)
    rw [hds] at S2
    have HS2 := Lib.hid S2
    clear S2 hne
    go_wp2_with (go_at_call 215; refine (HS2.out _ S1.out _ _ _ (by omega) (by omega) (by omega)).mono ?_; rintro e w1 ⟨rfl, S3⟩)
    go_roundg (i - j + j)
    case measure => omega
    case rel => exact ⟨i - j, j, _, by congr 1; omega, rfl, by omega, hj, by omega, hjm, by omega, by rw [swpR_size]; exact hds, S3, fun d' h => HT.out d' (rot_more him hgt (by omega) (by rw [show m - i + j = m - (i - j) by omega]; exact h))⟩
   ·have hgz : ¬ (j : Int) < (i : Int) := by omega
    have S2 := fun W h => swapRange_i (cap := cap) (g := g) (cb := cb) HE.out (m - i) (m + j - i) i dk W HR.out (by omega) h (by omega) (by omega) (by omega)
    rw [hds] at S2
    have HS2 := Lib.hid S2
    have hlt : i < j := by omega
    clear S2 hne hgt
    go_wp2_with (go_at_call 215; refine (HS2.out _ S1.out _ _ _ (by omega) (by omega) (by omega)).mono ?_; rintro e w1 ⟨rfl, S3⟩)
    go_roundg (i + (j - i))
    case measure => omega
    case rel => exact ⟨i, j - i, _, rfl, by congr 1; omega, hi, by omega, him, by omega, by omega, by rw [swpR_size]; exact hds, S3, fun d' h => HT.out d' (rot_less him hlt (by omega) h)⟩
end
end Go.Proofs.YtdpbhjaicgkblaaGreatDoor
/- slices.symMergeCmpFunc at events: its walk. -/
namespace Go.Proofs.YtdpbhjaicgkblaaGreatDoor
set_option linter.unusedSimpArgs false
set_option linter.unusedVariables false
open Go.Shelf Go.RowKit Go.Lib Go.Sort St
section
variable {α : Type} [Inhabited α] {k : Nat} {enc : α → List Value} {blk off cap : Nat} {d0 : Array α} {w0 : World} {g : Nat} {cb : Array Value} {cf : α → α → Int}
def MerOut (enc : α → List Value) (k : Nat) (w0 : World) (blk off : Nat) (lt : α → α → Bool) (a b : Nat) (d : Array α) (w' : World) : Prop := ∃ d', PermIn a b d d' ∧ SortedIn lt a b d' ∧ SWK enc k w0 blk off d' w'
set_option maxHeartbeats 4000000 in
set_option maxRecDepth 1000000 in
theorem symMerge_one (zE : ∀ w, (Go.sizeOf 206).run Tryz.prog w = .ok k w) (eg : ∀ args w, (callFunc g args).run Tryz.prog w = .ok (.enter g args) w) (hcmp : CmpLays Tryz.prog g cb enc k cf blk off d0.size w0) (hO : SWO (ltOf cf))
  (a b : Nat) (d : Array α) (w : World) (R : RowK enc k w0 blk off d0) (hs : d0.size = d.size) (S : SWK enc k w0 blk off d w) (hab : a + 1 < b) (hsort : SortedIn (ltOf cf) (a + 1) b d) (hb : b ≤ d.size) (hsz : d.size < 4611686018427387904) :
  Calls Tryz.prog 192 #[.slice (some ⟨blk, off, none⟩) d.size cap, .int .i64 a, .int .i64 ((a : Int) + 1), .int .i64 b, .func (.func g) #[] cb] w fun e w' => e = .returned (.tuple #[]) ∧ MerOut enc k w0 blk off (ltOf cf) a b d w' := by
 have aE := aggE
 have mixed : Tryz.prog.follows .mixedOrders = true := by kernel_rfl
 have HC : Aside _ := hcmp
 have S0 : Aside (SWK enc k w0 blk off d w) := S
 have HO : Aside _ := hO
 clear S hcmp hO
 have HSO : Aside _ := hsort
 clear hsort
 have h1 : ((a : Int) + 1 - (a : Int) == 1) = true := by simp; omega
 go_enter Tryz.func192, Tryz.ntmps192
 go_wp2
 go_loopg [10, 11] (b - a) (fun kx s10 s11 wr => ∃ (i j : Nat), s10 = .int .i64 i ∧ s11 = .int .i64 j ∧ a + 1 ≤ i ∧ i ≤ j ∧ j ≤ b ∧ j - i ≤ kx ∧ Aside (SWK enc k w0 blk off d wr) ∧ Hid (j = b ∨ ltOf cf d[j]! d[a]! = false) ∧ Hid (i = a + 1 ∨ ltOf cf d[i - 1]! d[a]! = true))
 case atStart => exact ⟨a + 1, b, by go_num, rfl, by omega, by omega, by omega, by omega, S0, .inl rfl, .inl rfl⟩
 case round =>
  clear S0
  obtain ⟨i, j, rfl, rfl, hai, hij, hjb, hkx, S1, F1, F2⟩ := hrel
  by_cases hlt : i < j
  ·have hz : (i : Int) < (j : Int) := by omega
   go_wp2_with fail
   obtain ⟨h, hh⟩ : ∃ h : Nat, ((i : Int) + (j : Int)) / 2 = (h : Int) := ⟨(i + j) / 2, by omega⟩
   have hih : i ≤ h := by omega
   have hhj : h < j := by omega
   rw [hh]
   clear hh
   cases hlv : ltOf cf d[h]! d[a]!
   ·have F1' : Hid (h = b ∨ ltOf cf d[h]! d[a]! = false) := .inr hlv
    clear F1
    have ea1 : ((h : Int)).toNat = h := by omega
    have pa1 : (0 : Int) ≤ (h : Int) := by omega
    have ba1 : (h : Int) < (d.size : Int) := by omega
    have ra1 : IntKind.i64.wrap ((h : Int)) = (h : Int) := by rw [IntKind.wrap_i64]; omega
    have ec1 : ((a : Int)).toNat = a := by omega
    have pc1 : (0 : Int) ≤ (a : Int) := by omega
    have bc1 : (a : Int) < (d.size : Int) := by omega
    have rc1 : IntKind.i64.wrap ((a : Int)) = (a : Int) := by rw [IntKind.wrap_i64]; omega
    obtain ⟨x1, hx1⟩ : ∃ x, x = d[h]! := ⟨_, rfl⟩
    obtain ⟨y1, hy1⟩ : ∃ x, x = d[a]! := ⟨_, rfl⟩
    have la1 := S1.out.ld R (by omega) Tryz.prog (h) (by omega)
    have lb1 := S1.out.ld R (by omega) Tryz.prog (a) (by omega)
    rw [← hx1] at la1
    rw [← hy1] at lb1
    have hc1 := S1.out.cmp HC.out (by omega) x1 y1
    have hv1 : ¬ cf x1 y1 < 0 := by rw [hx1, hy1]; exact of_decide_eq_false hlv
    have hd1 : decide (cf x1 y1 < 0) = false := decide_eq_false hv1
    have HLV := Lib.hid hlv
    clear hx1 hy1 hlv
    go_wp2_with fail
    go_quiet_grown (first | (go_at_fn g; refine Calls.grown_of (hc1 _ _)))
    have S1' : Aside (SWK enc k w0 blk off d (grow (wr.drewN nq) osq)) := S1.out.grown nq osq
    clear la1 lb1 hc1 S1
    generalize grow (wr.drewN nq) osq = wu at S1' ⊢
    clear nq osq
    go_wp2
    go_roundg (h - i)
    case measure => omega
    case rel => exact ⟨i, h, rfl, rfl, hai, hih, by omega, Nat.le_refl _, S1', F1', F2⟩
   ·have F2' : Hid (h + 1 = a + 1 ∨ ltOf cf d[h + 1 - 1]! d[a]! = true) := .inr hlv
    clear F2
    have ea1 : ((h : Int)).toNat = h := by omega
    have pa1 : (0 : Int) ≤ (h : Int) := by omega
    have ba1 : (h : Int) < (d.size : Int) := by omega
    have ra1 : IntKind.i64.wrap ((h : Int)) = (h : Int) := by rw [IntKind.wrap_i64]; omega
    have ec1 : ((a : Int)).toNat = a := by omega
    have pc1 : (0 : Int) ≤ (a : Int) := by omega
    have bc1 : (a : Int) < (d.size : Int) := by omega
    have rc1 : IntKind.i64.wrap ((a : Int)) = (a : Int) := by rw [IntKind.wrap_i64]; omega
    obtain ⟨x1, hx1⟩ : ∃ x, x = d[h]! := ⟨_, rfl⟩
    obtain ⟨y1, hy1⟩ : ∃ x, x = d[a]! := ⟨_, rfl⟩
    have la1 := S1.out.ld R (by omega) Tryz.prog (h) (by omega)
    have lb1 := S1.out.ld R (by omega) Tryz.prog (a) (by omega)
    rw [← hx1] at la1
    rw [← hy1] at lb1
    have hc1 := S1.out.cmp HC.out (by omega) x1 y1
    have hv1 : cf x1 y1 < 0 := by rw [hx1, hy1]; exact of_decide_eq_true hlv
    have hd1 : decide (cf x1 y1 < 0) = true := decide_eq_true hv1
    have HLV := Lib.hid hlv
    clear hx1 hy1 hlv
    go_wp2_with fail
    go_quiet_grown (first | (go_at_fn g; refine Calls.grown_of (hc1 _ _)))
    have S1' : Aside (SWK enc k w0 blk off d (grow (wr.drewN nq) osq)) := S1.out.grown nq osq
    clear la1 lb1 hc1 S1
    generalize grow (wr.drewN nq) osq = wu at S1' ⊢
    clear nq osq
    go_wp2
    go_roundg (j - (h + 1))
    case measure => omega
    case rel => exact ⟨h + 1, j, by go_num, rfl, by omega, by omega, hjb, Nat.le_refl _, S1', F1, F2'⟩
  ·have hz : ¬ (i : Int) < (j : Int) := by omega
   obtain rfl : i = j := by omega
   clear hlt hij hkx
   go_wp2_with fail
   go_loopg [13] (i - a) (fun kx s13 wr => ∃ (q : Nat) (dk : Array α), s13 = .int .i64 q ∧ a ≤ q ∧ q ≤ i - 1 ∧ i - 1 - q ≤ kx ∧ dk.size = d.size ∧ Aside (SWK enc k w0 blk off dk wr) ∧ Hid (Rot a (a + 1) (q + 1) d dk))
   case atStart => exact ⟨a, d, rfl, by omega, by omega, by omega, rfl, S1, Rot.self _ _ _⟩
   case round =>
    clear S1
    obtain ⟨q, dk, rfl, haq, hqi, hkx, hds, S1, HT⟩ := hrel
    by_cases hlt : q < i - 1
    ·have hz : (q : Int) < (i : Int) - 1 := by omega
     have ea2 : ((q : Int)).toNat = q := by omega
     have pa2 : (0 : Int) ≤ (q : Int) := by omega
     have ba2 : (q : Int) < (d.size : Int) := by omega
     have ra2 : IntKind.i64.wrap ((q : Int)) = (q : Int) := by rw [IntKind.wrap_i64]; omega
     have ec2 : ((q : Int) + 1).toNat = q + 1 := by omega
     have pc2 : (0 : Int) ≤ (q : Int) + 1 := by omega
     have bc2 : (q : Int) + 1 < (d.size : Int) := by omega
     have rc2 : IntKind.i64.wrap ((q : Int) + 1) = (q : Int) + 1 := by rw [IntKind.wrap_i64]; omega
     have S1' : Aside (SWK enc k w0 blk off (swp dk (q) (q + 1)) ((wr.drew.setCells blk (off + (q) * k) (enc dk[q + 1]!)).setCells blk (off + (q + 1) * k) (enc dk[q]!))) := S1.out.swapped R (q) (q + 1) (by omega) (by omega)
     have la2 := S1.out.ld1 R (by omega) Tryz.prog (q) (by omega)
     have lb2 := S1.out.ld1 R (by omega) Tryz.prog (q + 1) (by omega)
     have sa2 := S1.out.st1 R (by omega) Tryz.prog (q) (by omega) dk[q + 1]!
     have sb2 := S1.out.st2 R (by omega) Tryz.prog (q) (q + 1) (by omega) (by omega) dk[q + 1]! dk[q]!
     have na2 : (enc dk[q]!).length = k := R.hk _
     have nb2 : (enc dk[q + 1]!).length = k := R.hk _
     generalize enc dk[q]! = cI2 at S1' la2 sb2 na2
     generalize enc dk[q + 1]! = cJ2 at S1' lb2 sa2 sb2 nb2
     clear S1
     go_wp2_with fail
     go_big_region_o
     clear la2 lb2 sa2 sb2
     generalize (wr.drew.setCells blk (off + (q) * k) cJ2).setCells blk (off + (q + 1) * k) cI2 = wu at S1' ⊢
     go_wp2
     go_roundg (i - 1 - (q + 1))
     case measure => omega
     case rel => exact ⟨q + 1, _, by go_num, by omega, by omega, Nat.le_refl _, by rw [size_swp]; exact hds, S1', rot_up HT.out haq (by omega)⟩
    ·have hz : ¬ (q : Int) < (i : Int) - 1 := by omega
     go_wp2
     refine bodyPost_ret (results_none (by rfl) _ _ _) rfl ?_
     have HT2 := HT.out
     rw [show q + 1 = i by omega] at HT2
     exact ⟨rfl, _, permIn_mono _ _ _ _ _ _ (Nat.le_refl _) hjb hb (rot_perm HT2 (by omega) (by omega) (by omega)), merge1 HO.out HSO.out hai hjb F1.out F2.out HT2, S1.out⟩
set_option maxHeartbeats 4000000 in
set_option maxRecDepth 1000000 in
theorem symMerge_two (zE : ∀ w, (Go.sizeOf 206).run Tryz.prog w = .ok k w) (eg : ∀ args w, (callFunc g args).run Tryz.prog w = .ok (.enter g args) w) (hcmp : CmpLays Tryz.prog g cb enc k cf blk off d0.size w0) (hO : SWO (ltOf cf))
  (a m b : Nat) (d : Array α) (w : World) (R : RowK enc k w0 blk off d0) (hs : d0.size = d.size) (S : SWK enc k w0 blk off d w) (hbm : b = m + 1) (ham : a + 1 < m) (hsort : SortedIn (ltOf cf) a m d) (hb : b ≤ d.size) (hsz : d.size < 4611686018427387904) :
  Calls Tryz.prog 192 #[.slice (some ⟨blk, off, none⟩) d.size cap, .int .i64 a, .int .i64 m, .int .i64 b, .func (.func g) #[] cb] w fun e w' => e = .returned (.tuple #[]) ∧ MerOut enc k w0 blk off (ltOf cf) a b d w' := by
 have aE := aggE
 have mixed : Tryz.prog.follows .mixedOrders = true := by kernel_rfl
 have HC : Aside _ := hcmp
 have S0 : Aside (SWK enc k w0 blk off d w) := S
 have HO : Aside _ := hO
 clear S hcmp hO
 subst hbm
 have HSO : Aside _ := hsort
 clear hsort
 have h1 : ((m : Int) - (a : Int) == 1) = false := by simp; omega
 have h2 : ((m : Int) + 1 - (m : Int) == 1) = true := by simp; omega
 go_enter Tryz.func192, Tryz.ntmps192
 go_wp2
 go_loopg [14, 15] (m - a) (fun kx s10 s11 wr => ∃ (i j : Nat), s10 = .int .i64 i ∧ s11 = .int .i64 j ∧ a ≤ i ∧ i ≤ j ∧ j ≤ m ∧ j - i ≤ kx ∧ Aside (SWK enc k w0 blk off d wr) ∧ Hid (j = m ∨ ltOf cf d[m]! d[j]! = true) ∧ Hid (i = a ∨ ltOf cf d[m]! d[i - 1]! = false))
 case atStart => exact ⟨a, m, rfl, rfl, by omega, by omega, by omega, by omega, S0, .inl rfl, .inl rfl⟩
 case round =>
  clear S0
  obtain ⟨i, j, rfl, rfl, hai, hij, hjb, hkx, S1, F1, F2⟩ := hrel
  by_cases hlt : i < j
  ·have hz : (i : Int) < (j : Int) := by omega
   go_wp2_with fail
   obtain ⟨h, hh⟩ : ∃ h : Nat, ((i : Int) + (j : Int)) / 2 = (h : Int) := ⟨(i + j) / 2, by omega⟩
   have hih : i ≤ h := by omega
   have hhj : h < j := by omega
   rw [hh]
   clear hh
   cases hlv : ltOf cf d[m]! d[h]!
   ·have F2' : Hid (h + 1 = a ∨ ltOf cf d[m]! d[h + 1 - 1]! = false) := .inr hlv
    clear F2
    have ea1 : ((m : Int)).toNat = m := by omega
    have pa1 : (0 : Int) ≤ (m : Int) := by omega
    have ba1 : (m : Int) < (d.size : Int) := by omega
    have ra1 : IntKind.i64.wrap ((m : Int)) = (m : Int) := by rw [IntKind.wrap_i64]; omega
    have ec1 : ((h : Int)).toNat = h := by omega
    have pc1 : (0 : Int) ≤ (h : Int) := by omega
    have bc1 : (h : Int) < (d.size : Int) := by omega
    have rc1 : IntKind.i64.wrap ((h : Int)) = (h : Int) := by rw [IntKind.wrap_i64]; omega
    obtain ⟨x1, hx1⟩ : ∃ x, x = d[m]! := ⟨_, rfl⟩
    obtain ⟨y1, hy1⟩ : ∃ x, x = d[h]! := ⟨_, rfl⟩
    have la1 := S1.out.ld R (by omega) Tryz.prog (m) (by omega)
    have lb1 := S1.out.ld R (by omega) Tryz.prog (h) (by omega)
    rw [← hx1] at la1
    rw [← hy1] at lb1
    have hc1 := S1.out.cmp HC.out (by omega) x1 y1
    have hv1 : ¬ cf x1 y1 < 0 := by rw [hx1, hy1]; exact of_decide_eq_false hlv
    have hd1 : decide (cf x1 y1 < 0) = false := decide_eq_false hv1
    have HLV := Lib.hid hlv
    clear hx1 hy1 hlv
    go_wp2_with fail
    go_quiet_grown (first | (go_at_fn g; refine Calls.grown_of (hc1 _ _)))
    have S1' : Aside (SWK enc k w0 blk off d (grow (wr.drewN nq) osq)) := S1.out.grown nq osq
    clear la1 lb1 hc1 S1
    generalize grow (wr.drewN nq) osq = wu at S1' ⊢
    clear nq osq
    go_wp2
    go_roundg (j - (h + 1))
    case measure => omega
    case rel => exact ⟨h + 1, j, by go_num, rfl, by omega, by omega, hjb, Nat.le_refl _, S1', F1, F2'⟩
   ·have F1' : Hid (h = m ∨ ltOf cf d[m]! d[h]! = true) := .inr hlv
    clear F1
    have ea1 : ((m : Int)).toNat = m := by omega
    have pa1 : (0 : Int) ≤ (m : Int) := by omega
    have ba1 : (m : Int) < (d.size : Int) := by omega
    have ra1 : IntKind.i64.wrap ((m : Int)) = (m : Int) := by rw [IntKind.wrap_i64]; omega
    have ec1 : ((h : Int)).toNat = h := by omega
    have pc1 : (0 : Int) ≤ (h : Int) := by omega
    have bc1 : (h : Int) < (d.size : Int) := by omega
    have rc1 : IntKind.i64.wrap ((h : Int)) = (h : Int) := by rw [IntKind.wrap_i64]; omega
    obtain ⟨x1, hx1⟩ : ∃ x, x = d[m]! := ⟨_, rfl⟩
    obtain ⟨y1, hy1⟩ : ∃ x, x = d[h]! := ⟨_, rfl⟩
    have la1 := S1.out.ld R (by omega) Tryz.prog (m) (by omega)
    have lb1 := S1.out.ld R (by omega) Tryz.prog (h) (by omega)
    rw [← hx1] at la1
    rw [← hy1] at lb1
    have hc1 := S1.out.cmp HC.out (by omega) x1 y1
    have hv1 : cf x1 y1 < 0 := by rw [hx1, hy1]; exact of_decide_eq_true hlv
    have hd1 : decide (cf x1 y1 < 0) = true := decide_eq_true hv1
    have HLV := Lib.hid hlv
    clear hx1 hy1 hlv
    go_wp2_with fail
    go_quiet_grown (first | (go_at_fn g; refine Calls.grown_of (hc1 _ _)))
    have S1' : Aside (SWK enc k w0 blk off d (grow (wr.drewN nq) osq)) := S1.out.grown nq osq
    clear la1 lb1 hc1 S1
    generalize grow (wr.drewN nq) osq = wu at S1' ⊢
    clear nq osq
    go_wp2
    go_roundg (h - i)
    case measure => omega
    case rel => exact ⟨i, h, rfl, rfl, hai, hih, by omega, Nat.le_refl _, S1', F1', F2⟩
  ·have hz : ¬ (i : Int) < (j : Int) := by omega
   obtain rfl : i = j := by omega
   clear hlt hij hkx
   go_wp2_with fail
   go_loopg [17] (m - a) (fun kx s13 wr => ∃ (q : Nat) (dk : Array α), s13 = .int .i64 q ∧ i ≤ q ∧ q ≤ m ∧ q - i ≤ kx ∧ dk.size = d.size ∧ Aside (SWK enc k w0 blk off dk wr) ∧ Hid (Rot q m (m + 1) d dk))
   case atStart => exact ⟨m, d, rfl, by omega, by omega, by omega, rfl, S1, Rot.self' _ _ _⟩
   case round =>
    clear S1
    obtain ⟨q, dk, rfl, haq, hqi, hkx, hds, S1, HT⟩ := hrel
    by_cases hlt : i < q
    ·obtain ⟨q, rfl⟩ : ∃ x, q = x + 1 := ⟨q - 1, by omega⟩
     have hz : (i : Int) < ((q + 1 : Nat) : Int) := by omega
     have hz2 : (i : Int) < (q : Int) + 1 := by omega
     have ea2 : ((q : Int) + 1).toNat = q + 1 := by omega
     have pa2 : (0 : Int) ≤ (q : Int) + 1 := by omega
     have ba2 : (q : Int) + 1 < (d.size : Int) := by omega
     have ra2 : IntKind.i64.wrap ((q : Int) + 1) = (q : Int) + 1 := by rw [IntKind.wrap_i64]; omega
     have ec2 : ((q : Int)).toNat = q := by omega
     have pc2 : (0 : Int) ≤ (q : Int) := by omega
     have bc2 : (q : Int) < (d.size : Int) := by omega
     have rc2 : IntKind.i64.wrap ((q : Int)) = (q : Int) := by rw [IntKind.wrap_i64]; omega
     have S1' : Aside (SWK enc k w0 blk off (swp dk (q + 1) (q)) ((wr.drew.setCells blk (off + (q + 1) * k) (enc dk[q]!)).setCells blk (off + (q) * k) (enc dk[q + 1]!))) := S1.out.swapped R (q + 1) (q) (by omega) (by omega)
     have la2 := S1.out.ld1 R (by omega) Tryz.prog (q + 1) (by omega)
     have lb2 := S1.out.ld1 R (by omega) Tryz.prog (q) (by omega)
     have sa2 := S1.out.st1 R (by omega) Tryz.prog (q + 1) (by omega) dk[q]!
     have sb2 := S1.out.st2 R (by omega) Tryz.prog (q + 1) (q) (by omega) (by omega) dk[q]! dk[q + 1]!
     have na2 : (enc dk[q + 1]!).length = k := R.hk _
     have nb2 : (enc dk[q]!).length = k := R.hk _
     generalize enc dk[q + 1]! = cI2 at S1' la2 sb2 na2
     generalize enc dk[q]! = cJ2 at S1' lb2 sa2 sb2 nb2
     clear S1
     go_wp2_with fail
     go_big_region_o
     clear la2 lb2 sa2 sb2
     generalize (wr.drew.setCells blk (off + (q + 1) * k) cJ2).setCells blk (off + (q) * k) cI2 = wu at S1' ⊢
     go_wp2
     go_roundg (q - i)
     case measure => omega
     case rel => exact ⟨q, _, by go_num, by omega, by omega, Nat.le_refl _, by rw [size_swp]; exact hds, S1', rot_down HT.out (by omega) (by omega)⟩
    ·have hz : ¬ (i : Int) < (q : Int) := by omega
     obtain rfl : i = q := by omega
     go_wp2
     refine bodyPost_ret (results_none (by rfl) _ _ _) rfl ?_
     exact ⟨rfl, _, permIn_mono _ _ _ _ _ _ hai (Nat.le_refl _) hb (rot_perm HT.out (by omega) (by omega) (by omega)), merge2 HO.out HSO.out hai hjb F1.out F2.out HT.out, S1.out⟩
end
end Go.Proofs.YtdpbhjaicgkblaaGreatDoor

/- Going through two lists of canonical runs at the same time. No program in sight. -/
import Derived.Test.YtoonaidpmahgcaaGreatGLa
namespace Go.Proofs.YtoonaidpmahgcaaGreat
set_option linter.unusedSimpArgs false
set_option linter.unusedVariables false

/-- the n-th end of a list of runs -/
def endF (l : List Spn) (n : Nat) : Int := if n = 2 * l.length then 8796093022208 else if n % 2 = 0 then (l[n / 2]!).fr else (l[n / 2]!).to
/-- how many ends are behind -/
structure Behind (l : List Spn) (i : Nat) (p : Int) : Prop where
  le : i ≤ 2 * l.length
  lo : ∀ j, j < i → endF l j ≤ p
  hi : ∀ j, i ≤ j → j < 2 * l.length → p < endF l j
theorem end_fr {l : List Spn} {m : Nat} (h : m < l.length) : endF l (2 * m) = (l[m]!).fr := by
  unfold endF
  rw [if_neg (by omega), if_pos (by omega), show 2 * m / 2 = m by omega]
theorem end_to {l : List Spn} {m : Nat} (h : m < l.length) : endF l (2 * m + 1) = (l[m]!).to := by
  unfold endF
  rw [if_neg (by omega), if_neg (by omega), show (2 * m + 1) / 2 = m by omega]
theorem behind_has {l : List Spn} {i : Nat} {p x : Int} (h : Behind l i p) (h1 : p ≤ x) (h2 : i = 2 * l.length ∨ x < endF l i) (hA : ∀ j k, j < k → k < 2 * l.length → endF l j < endF l k) : hasL l x ↔ i % 2 = 1 := by
  have hle := h.le
  have hx : ∀ j, i ≤ j → j < 2 * l.length → x < endF l j := fun j hj hl => by
    rcases h2 with h2 | h2
    · omega
    · rcases Nat.lt_or_eq_of_le hj with h3 | h3
      · have := hA i j h3 hl
        omega
      · rw [← h3]; exact h2
  constructor
  · rintro ⟨s, hs, h3, h4⟩
    obtain ⟨m, hm, rfl⟩ := List.getElem_of_mem hs
    have e : l[m] = l[m]! := (getElem!_pos l m hm).symm
    rw [e] at h3 h4
    have g1 : 2 * m < i := Nat.not_le.1 fun hn => by
      have := hx (2 * m) hn (by omega)
      rw [end_fr hm] at this
      omega
    have g2 : i ≤ 2 * m + 1 := Nat.not_lt.1 fun hn => by
      have := h.lo (2 * m + 1) hn
      rw [end_to hm] at this
      omega
    omega
  · intro ho
    obtain ⟨m, rfl⟩ : ∃ m, i = 2 * m + 1 := ⟨i / 2, by omega⟩
    have hm : m < l.length := by omega
    refine ⟨l[m]!, by rw [getElem!_pos l m hm]; exact List.getElem_mem hm, ?_, ?_⟩
    · have := h.lo (2 * m) (by omega)
      rw [end_fr hm] at this
      omega
    · have := hx (2 * m + 1) (by omega) (by omega)
      rwa [end_to hm] at this
/-- a list of valid canonical runs -/
structure Runs (l : List Spn) : Prop where
  c : Canon l
  o : ∀ s ∈ l, s.ok = true
theorem runs_of {l : List Spn} (h : runsB l = true) : Runs l := ⟨(runsB_canon h).1, (runsB_canon h).2⟩
theorem Runs.at {l : List Spn} (h : Runs l) {m : Nat} (hm : m < l.length) : -4398046511104 ≤ (l[m]!).fr ∧ (l[m]!).to ≤ 4398046511104 ∧ (l[m]!).fr < (l[m]!).to := by
  rw [getElem!_pos l m hm]
  exact Spn.ok_iff.1 (h.o _ (List.getElem_mem hm))
theorem Runs.bd {l : List Spn} (h : Runs l) {j : Nat} (hj : j < 2 * l.length) : -4398046511104 ≤ endF l j ∧ endF l j ≤ 4398046511104 := by
  have hm : j / 2 < l.length := by omega
  have := h.at hm
  rcases Nat.mod_two_eq_zero_or_one j with h2 | h2
  · rw [show j = 2 * (j / 2) by omega, end_fr hm]; omega
  · rw [show j = 2 * (j / 2) + 1 by omega, end_to hm]; omega
theorem Runs.bd' {l : List Spn} (h : Runs l) {j : Nat} (hj : j ≤ 2 * l.length) : -4398046511104 ≤ endF l j ∧ endF l j ≤ 8796093022208 := by
  by_cases e : j = 2 * l.length
  · unfold endF
    rw [if_pos e]
    decide
  · have := h.bd (j := j) (by omega)
    omega
theorem Runs.step {l : List Spn} (h : Runs l) {j : Nat} (hj : j + 1 < 2 * l.length) : endF l j < endF l (j + 1) := by
  rcases Nat.mod_two_eq_zero_or_one j with h2 | h2
  · obtain ⟨m, rfl⟩ : ∃ m, j = 2 * m := ⟨j / 2, by omega⟩
    have hm : m < l.length := by omega
    have := h.at hm
    rw [end_fr hm, end_to hm]; omega
  · obtain ⟨m, rfl⟩ : ∃ m, j = 2 * m + 1 := ⟨j / 2, by omega⟩
    have hm : m + 1 < l.length := by omega
    have h3 := List.pairwise_iff_getElem.1 h.c.asc m (m + 1) (by omega) hm (by omega)
    rw [show 2 * m + 1 + 1 = 2 * (m + 1) by omega, end_fr hm, end_to (by omega), getElem!_pos l m (by omega), getElem!_pos l (m + 1) hm]
    exact h3
theorem Runs.mono {l : List Spn} (h : Runs l) : ∀ j k, j < k → k < 2 * l.length → endF l j < endF l k := by
  intro j k hjk
  induction k with
  | zero => omega
  | succ k ih =>
    intro hk
    have h1 := h.step hk
    rcases Nat.lt_or_eq_of_le (Nat.lt_succ_iff.1 hjk) with h2 | h2
    · have := ih h2 (by omega)
      omega
    · rw [h2]; exact h1
/-- the next number of ends behind -/
def nxtF (l : List Spn) (i : Nat) (t : Int) : Nat := if endF l i = t then i + 1 else i
theorem behind_nxt {l : List Spn} (hl : Runs l) {i : Nat} {p t : Int} (h : Behind l i p) (hpt : p ≤ t) (ht : t ≤ endF l i) (ht2 : t < 8796093022208) : Behind l (nxtF l i t) t := by
  have hle := h.le
  unfold nxtF
  by_cases e : endF l i = t
  · rw [if_pos e]
    have hi : i ≠ 2 * l.length := fun h2 => by
      unfold endF at e
      rw [if_pos h2] at e
      omega
    refine ⟨by omega, fun j hj => ?_, fun j hj hk => ?_⟩
    · rcases Nat.lt_or_eq_of_le (Nat.lt_succ_iff.1 hj) with h2 | h2
      · have := h.lo j h2
        omega
      · rw [h2, e]; exact Int.le_refl _
    · rw [← e]
      exact hl.mono i j (by omega) hk
  · rw [if_neg e]
    refine ⟨hle, fun j hj => Int.le_trans (h.lo j hj) hpt, fun j hj hk => ?_⟩
    have : endF l i ≤ endF l j := by
      rcases Nat.lt_or_eq_of_le hj with h2 | h2
      · exact Int.le_of_lt (hl.mono i j h2 hk)
      · rw [h2]; exact Int.le_refl _
    omega
def odd (i : Nat) : Bool := i % 2 == 1
theorem odd_iff {i : Nat} {P : Prop} (h : P ↔ i % 2 = 1) : (odd i = true ↔ P) := by unfold odd; rw [h]; simp
/-- what a rule makes of two sets at a point -/
def Rul (rule : Bool → Bool → Bool) (a b : List Spn) (x : Int) : Prop := ∀ u v : Bool, (u = true ↔ hasL a x) → (v = true ↔ hasL b x) → rule u v = true
theorem rul_of {rule : Bool → Bool → Bool} {a b : List Spn} {x : Int} {u v : Bool} (hu : u = true ↔ hasL a x) (hv : v = true ↔ hasL b x) : Rul rule a b x ↔ rule u v = true := by
  constructor
  · intro h; exact h u v hu hv
  · intro h u' v' hu' hv'
    have e1 : u' = u := by rw [Bool.eq_iff_iff, hu', hu]
    have e2 : v' = v := by rw [Bool.eq_iff_iff, hv', hv]
    rw [e1, e2]; exact h
structure CombInv (rule : Bool → Bool → Bool) (a b : List Spn) (i k : Nat) (ins : Bool) (fr p : Int) (out : List Spn) : Prop where
  ba : Behind a i p
  bb : Behind b k p
  r : rule (odd i) (odd k) = ins
  run : ins = true → fr ≤ p ∧ -4398046511104 ≤ fr ∧ (∀ x, fr ≤ x → x ≤ p → Rul rule a b x) ∧ ∀ s ∈ out, s.to < fr
  m : ∀ x, hasL out x ↔ Rul rule a b x ∧ x < (if ins = true then fr else p + 1)
  c : Runs out
  t : ∀ s ∈ out, s.to ≤ p
  l : out.length ≤ i + k
  p2 : p ≤ 4398046511104
  f : -4398046511104 ≤ fr ∧ fr ≤ 4398046511104
theorem runs_nil : Runs [] := ⟨canon_nil, fun s h => by cases h⟩
theorem comb_start {rule : Bool → Bool → Bool} {a b : List Spn} (ha : Runs a) (hb : Runs b) (h0 : rule false false = false) : CombInv rule a b 0 0 false 0 (-4398046511105) [] where
  ba := ⟨Nat.zero_le _, fun j h => absurd h (Nat.not_lt_zero _), fun j _ h => by have := (ha.bd h).1; omega⟩
  bb := ⟨Nat.zero_le _, fun j h => absurd h (Nat.not_lt_zero _), fun j _ h => by have := (hb.bd h).1; omega⟩
  r := h0
  run := fun h => by cases h
  m := fun x => by
    constructor
    · intro h; exact absurd h (hasL_nil _)
    · rintro ⟨h1, h2⟩
      exfalso
      have key : ∀ {l : List Spn}, Runs l → (false = true ↔ hasL l x) := fun {l} hl => by
        constructor
        · intro h; cases h
        · rintro ⟨s, hs, h3, _⟩
          have := Spn.ok_iff.1 (hl.o s hs)
          simp at h2
          omega
      have := (rul_of (key ha) (key hb)).1 h1
      rw [h0] at this
      cases this
  c := runs_nil
  t := fun s h => by cases h
  l := Nat.zero_le _
  p2 := by decide
  f := by decide
/-- one round: the next end, and what holds up to it -/
structure CombAt (rule : Bool → Bool → Bool) (a b : List Spn) (i k : Nat) (ins : Bool) (p t : Int) : Prop where
  ba : Behind a (nxtF a i t) t
  bb : Behind b (nxtF b k t) t
  lt : p < t
  bd : -4398046511104 ≤ t ∧ t ≤ 4398046511104
  mid : ∀ x, p ≤ x → x < t → (Rul rule a b x ↔ ins = true)
  fin : Rul rule a b t ↔ rule (odd (nxtF a i t)) (odd (nxtF b k t)) = true
  n : i + k < nxtF a i t + nxtF b k t
theorem comb_at {rule : Bool → Bool → Bool} {a b : List Spn} (ha : Runs a) (hb : Runs b) {i k : Nat} {ins : Bool} {fr p : Int} {out : List Spn} (h : CombInv rule a b i k ins fr p out) (hg : i < 2 * a.length ∨ k < 2 * b.length) :
    CombAt rule a b i k ins p (min (endF a i) (endF b k)) := by
  have hA := h.ba.le
  have hB := h.bb.le
  have key : ∃ t, min (endF a i) (endF b k) = t ∧ p < t ∧ -4398046511104 ≤ t ∧ t ≤ 4398046511104 := by
    refine ⟨_, rfl, ?_⟩
    have b1 := ha.bd' hA
    have b2 := hb.bd' hB
    have p2 := h.p2
    have g1 : p < endF a i := by
      by_cases e : i = 2 * a.length
      · unfold endF; rw [if_pos e]; omega
      · exact h.ba.hi i (Nat.le_refl _) (by omega)
    have g2 : p < endF b k := by
      by_cases e : k = 2 * b.length
      · unfold endF; rw [if_pos e]; omega
      · exact h.bb.hi k (Nat.le_refl _) (by omega)
    have g3 : min (endF a i) (endF b k) ≤ 4398046511104 := by
      rcases hg with hg | hg
      · have := ha.bd hg
        omega
      · have := hb.bd hg
        omega
    omega
  obtain ⟨t, ht, h1, h2, h3⟩ := key
  rw [ht]
  have nA := behind_nxt ha h.ba (t := t) (by omega) (by omega) (by omega)
  have nB := behind_nxt hb h.bb (t := t) (by omega) (by omega) (by omega)
  refine ⟨nA, nB, h1, ⟨h2, h3⟩, fun x hx hxt => ?_, ?_, ?_⟩
  · have m1 := behind_has h.ba hx (.inr (by omega)) ha.mono
    have m2 := behind_has h.bb hx (.inr (by omega)) hb.mono
    rw [rul_of (odd_iff m1) (odd_iff m2), h.r]
  · have w1 : nxtF a i t = 2 * a.length ∨ t < endF a (nxtF a i t) := by
      by_cases e : nxtF a i t = 2 * a.length
      · exact .inl e
      · exact .inr (nA.hi _ (Nat.le_refl _) (by have := nA.le; omega))
    have w2 : nxtF b k t = 2 * b.length ∨ t < endF b (nxtF b k t) := by
      by_cases e : nxtF b k t = 2 * b.length
      · exact .inl e
      · exact .inr (nB.hi _ (Nat.le_refl _) (by have := nB.le; omega))
    have m1 := behind_has nA (Int.le_refl _) w1 ha.mono
    have m2 := behind_has nB (Int.le_refl _) w2 hb.mono
    exact rul_of (odd_iff m1) (odd_iff m2)
  · unfold nxtF
    split <;> split <;> omega
theorem comb_same {rule : Bool → Bool → Bool} {a b : List Spn} {i k : Nat} {ins : Bool} {fr p t : Int} {out : List Spn} (h : CombInv rule a b i k ins fr p out) (g : CombAt rule a b i k ins p t) (e : rule (odd (nxtF a i t)) (odd (nxtF b k t)) = ins) :
    CombInv rule a b (nxtF a i t) (nxtF b k t) ins fr t out where
  ba := g.ba
  bb := g.bb
  r := e
  run := fun hi => by
    obtain ⟨h1, h2, h3, h4⟩ := h.run hi
    have := g.lt
    refine ⟨by omega, h2, fun x hx hxt => ?_, h4⟩
    by_cases hp : x ≤ p
    · exact h3 x hx hp
    · by_cases h5 : x = t
      · rw [h5]; exact g.fin.2 (by rw [e]; exact hi)
      · exact (g.mid x (by omega) (by omega)).2 hi
  m := fun x => by
    rw [h.m x]
    have hlt := g.lt
    cases ins with
    | true => exact Iff.rfl
    | false =>
      simp only [Bool.false_eq_true, if_false]
      refine ⟨fun ⟨h1, h2⟩ => ⟨h1, by omega⟩, fun ⟨h1, h2⟩ => ⟨h1, ?_⟩⟩
      refine Int.not_le.1 fun h3 => ?_
      by_cases h5 : x = t
      · rw [h5] at h1
        have := g.fin.1 h1
        rw [e] at this
        cases this
      · have := (g.mid x (by omega) (by omega)).1 h1
        cases this
  c := h.c
  t := fun s hs => by have := h.t s hs; have := g.lt; omega
  l := by have := h.l; have := g.n; omega
  p2 := g.bd.2
  f := h.f
theorem comb_close {rule : Bool → Bool → Bool} {a b : List Spn} {i k : Nat} {fr p t : Int} {out : List Spn} (h : CombInv rule a b i k true fr p out) (g : CombAt rule a b i k true p t) (e : rule (odd (nxtF a i t)) (odd (nxtF b k t)) = false) :
    CombInv rule a b (nxtF a i t) (nxtF b k t) false t t (out ++ [⟨fr, t⟩]) := by
  obtain ⟨h1, h2, h3, h4⟩ := h.run rfl
  have hlt := g.lt
  have hbd := g.bd
  refine ⟨g.ba, g.bb, e, fun hi => (by cases hi), fun x => ?_, ⟨⟨List.pairwise_append.2 ⟨h.c.c.asc, List.pairwise_singleton _ _, fun u hu v hv => ?_⟩, fun u hu => ?_⟩, fun u hu => ?_⟩, fun u hu => ?_, ?_, hbd.2, hbd⟩
  · rw [hasL_append, hasL_one, h.m x]
    simp only [if_true, Bool.false_eq_true, if_false]
    unfold Spn.has
    dsimp only
    constructor
    · rintro (⟨h5, h6⟩ | ⟨h5, h6⟩)
      · exact ⟨h5, by omega⟩
      · refine ⟨?_, by omega⟩
        by_cases hp : x ≤ p
        · exact h3 x h5 hp
        · exact (g.mid x (by omega) h6).2 rfl
    · rintro ⟨h5, h6⟩
      by_cases hf : x < fr
      · exact .inl ⟨h5, hf⟩
      · refine .inr ⟨by omega, ?_⟩
        by_cases hxt : x = t
        · rw [hxt] at h5
          have := g.fin.1 h5
          rw [e] at this
          cases this
        · omega
  · rw [List.mem_singleton.1 hv]
    exact h4 u hu
  · rcases List.mem_append.1 hu with hu | hu
    · exact h.c.c.ne u hu
    · rw [List.mem_singleton.1 hu]; dsimp only; omega
  · rcases List.mem_append.1 hu with hu | hu
    · exact h.c.o u hu
    · rw [List.mem_singleton.1 hu]; exact Spn.ok_iff.2 ⟨h2, hbd.2, by dsimp only; omega⟩
  · rcases List.mem_append.1 hu with hu | hu
    · have := h.t u hu; omega
    · rw [List.mem_singleton.1 hu]; exact Int.le_refl _
  · have h5 := h.l
    have h6 := g.n
    rw [List.length_append, List.length_singleton]; omega
theorem comb_open {rule : Bool → Bool → Bool} {a b : List Spn} {i k : Nat} {fr p t : Int} {out : List Spn} (h : CombInv rule a b i k false fr p out) (g : CombAt rule a b i k false p t) (e : rule (odd (nxtF a i t)) (odd (nxtF b k t)) = true) :
    CombInv rule a b (nxtF a i t) (nxtF b k t) true t t out where
  ba := g.ba
  bb := g.bb
  r := e
  run := fun _ => ⟨Int.le_refl _, g.bd.1, fun x h1 h2 => by rw [Int.le_antisymm h2 h1]; exact g.fin.2 e, fun s hs => by have := h.t s hs; have := g.lt; omega⟩
  m := fun x => by
    rw [h.m x]
    have hlt := g.lt
    simp only [if_true, Bool.false_eq_true, if_false]
    refine ⟨fun ⟨h1, h2⟩ => ⟨h1, by omega⟩, fun ⟨h1, h2⟩ => ⟨h1, ?_⟩⟩
    refine Int.not_le.1 fun h3 => ?_
    have := (g.mid x (by omega) h2).1 h1
    cases this
  c := h.c
  t := fun s hs => by have := h.t s hs; have := g.lt; omega
  l := by have := h.l; have := g.n; omega
  p2 := g.bd.2
  f := g.bd
/-- what a combination is -/
structure CombOk (rule : Bool → Bool → Bool) (a b out : List Spn) : Prop where
  c : Runs out
  m : ∀ x, hasL out x ↔ Rul rule a b x
  l : out.length ≤ 2 * a.length + 2 * b.length
theorem comb_end {rule : Bool → Bool → Bool} {a b : List Spn} (ha : Runs a) (hb : Runs b) {i k : Nat} {ins : Bool} {fr p : Int} {out : List Spn} (h0 : rule false false = false) (h : CombInv rule a b i k ins fr p out) (hg : ¬ (i < 2 * a.length ∨ k < 2 * b.length)) : CombOk rule a b out := by
  have h1 := h.ba.le
  have h2 := h.bb.le
  have e1 : i = 2 * a.length := by omega
  have e2 : k = 2 * b.length := by omega
  have ho : ∀ m, odd (2 * m) = false := fun m => by unfold odd; rw [show 2 * m % 2 = 0 by omega]; rfl
  have hi : ins = false := by rw [← h.r, e1, e2, ho, ho]; exact h0
  refine ⟨h.c, fun x => ?_, by have := h.l; omega⟩
  rw [h.m x, hi]
  simp only [Bool.false_eq_true, if_false]
  refine ⟨fun h => h.1, fun hr => ⟨hr, Int.not_le.1 fun h3 => ?_⟩⟩
  have m1 := behind_has h.ba (x := x) (by omega) (.inl e1) ha.mono
  have m2 := behind_has h.bb (x := x) (by omega) (.inl e2) hb.mono
  have := (rul_of (odd_iff m1) (odd_iff m2)).1 hr
  rw [e1, e2, ho, ho, h0] at this
  cases this

end Go.Proofs.YtoonaidpmahgcaaGreat

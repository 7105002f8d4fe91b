/- version.Instants and version.Locals: how many pieces, and where two zones differ. No program in sight. -/
import Derived.Test.YtoonaidpmahgcaaGreatJResP
import Derived.Test.YtoonaidpmahgcaaGreatGVp
namespace Go.Proofs.YtoonaidpmahgcaaGreat
set_option linter.unusedSimpArgs false
set_option linter.unusedVariables false
open Go.Sort

theorem cutA_le {a b : Int} (hab : a < b) (h1 : -62135596800 ≤ a) (h2 : b ≤ 253402300800) : cutA a < cutB b := by unfold cutA cutB; omega
theorem chainC_len : ∀ (o : Int) (l : List Trn), (chainC o l).length = 4 * l.length
  | o, [] => rfl
  | o, x :: xs => by rw [chainC, List.length_append, chainC_len]; simp; omega
theorem zcuts_len (z : Zn) (a b : Int) : (z.cutsF a b).length = 4 + 4 * (z.betF (cutA a) (cutB b)).length := by
  unfold Zn.cutsF
  rw [List.length_append, chainC_len]
  rfl

theorem flat_has {h : Spn → List Spn} {x : Int} {ps : List Spn} : hasL (ps.flatMap h) x ↔ ∃ s ∈ ps, hasL (h s) x := by
  unfold hasL
  constructor
  · rintro ⟨s, hs, hx⟩
    obtain ⟨p, hp, hsp⟩ := List.mem_flatMap.1 hs
    exact ⟨p, hp, s, hsp, hx⟩
  · rintro ⟨p, hp, s, hsp, hx⟩
    exact ⟨s, List.mem_flatMap.2 ⟨p, hp, hsp⟩, hx⟩
theorem flat_two {h : Spn → List Spn} {k : Nat} (hk : ∀ s, (h s).length ≤ k) : ∀ ps : List Spn, (ps.flatMap h).length ≤ k * ps.length
  | [] => Nat.zero_le _
  | s :: ps => by
    have := flat_two hk ps
    have := hk s
    rw [List.flatMap_cons, List.length_append, List.length_cons, Nat.mul_succ]
    omega
/-- the zones' types differ -/
def typB2 (z q : Zn) (s : Spn) : List Spn := if z.typF s.fr ≠ q.typF s.fr then [s] else []
theorem difF_flat (z q : Zn) : ∀ ps : List Spn, ps.flatMap (typB2 z q) = difF z q ps
  | [] => rfl
  | s :: ps => by
    rw [List.flatMap_cons, difF_flat z q ps]
    unfold typB2 difF
    by_cases h : z.typF s.fr ≠ q.typF s.fr
    · rw [if_pos h, List.filter_cons_of_pos (by simpa using h)]; rfl
    · rw [if_neg h, List.filter_cons_of_neg (by simpa using h)]; rfl
theorem typB2_len (z q : Zn) (s : Spn) : (typB2 z q s).length ≤ 1 := by unfold typB2; split <;> simp
theorem part_len (r q : Int → Int × Int) (s : Spn) : (partF r q s).length ≤ 2 := by
  unfold partF
  dsimp only
  repeat' split
  all_goals simp
theorem part_in {r q : Int → Int × Int} {s : Spn} (hs : s.fr < s.to) : ∀ p ∈ partF r q s, s.fr ≤ p.fr ∧ p.fr < p.to ∧ p.to ≤ s.to := by
  unfold partF
  dsimp only
  have h1 : ∀ p ∈ [s], s.fr ≤ p.fr ∧ p.fr < p.to ∧ p.to ≤ s.to := fun p hp => by rw [List.mem_singleton.1 hp]; omega
  have h0 : ∀ p ∈ ([] : List Spn), s.fr ≤ p.fr ∧ p.fr < p.to ∧ p.to ≤ s.to := fun p hp => by cases hp
  split
  · exact h1
  split
  · exact h0
  split
  · split
    · exact h1
    · exact h0
  generalize (if (r (s.to - 1)).1 - (r s.fr).1 = s.to - 1 - s.fr then s.fr + (q s.fr).1 - (r s.fr).1 else s.fr + (r s.fr).1 - (q s.fr).1) = e
  split
  · exact h1
  · intro p hp
    rcases List.mem_append.1 hp with hp | hp
    · split at hp
      · rw [List.mem_singleton.1 hp]; dsimp only; omega
      · cases hp
    · split at hp
      · rw [List.mem_singleton.1 hp]; dsimp only; omega
      · cases hp
theorem quiet_of {z : Zn} (hv : z.valid = true) {a b : Int} (h1 : -62135596800 ≤ a) (hab : a < b) (h2 : b ≤ 253402300800) {l : List Int} (hA : l.Pairwise (· ≤ ·)) (hz : ∀ c ∈ z.cutsF a b, c ∈ l) {s : Spn} (hs : s ∈ piecesC b a l) : Quiet z a b s.fr s.to := by
  obtain ⟨g1, _, _⟩ := piecesC_ok b (f := a) hA (by omega)
  obtain ⟨k1, k2⟩ := g1 s hs
  exact ⟨hv, h1, h2, k1.1, k1.2.2, fun c hc => k2 c (hz c hc)⟩
/-- a local time is in what Locals puts down exactly if both zones resolve it differently -/
theorem loc_has {z q : Zn} (hz : z.valid = true) (hq : q.valid = true) {a b : Int} (h1 : -62135596800 ≤ a) (hab : a < b) (h2 : b ≤ 253402300800) {l : List Int} (hA : l.Pairwise (· ≤ ·)) (hb : b ∈ l) (hzc : ∀ c ∈ z.cutsF a b, c ∈ l) (hqc : ∀ c ∈ q.cutsF a b, c ∈ l) (g f x : Int) :
    hasL ((piecesC b a l).flatMap (partF (fun y => z.resV y g f) (fun y => q.resV y g f))) x ↔ (a ≤ x ∧ x < b) ∧ z.resV x g f ≠ q.resV x g f := by
  obtain ⟨g1, _, g3⟩ := piecesC_ok b (f := a) hA (by omega)
  rw [flat_has]
  have key : ∀ s ∈ piecesC b a l, hasL (partF (fun y => z.resV y g f) (fun y => q.resV y g f) s) x ↔ s.has x ∧ z.resV x g f ≠ q.resV x g f := fun s hs =>
    part_has (g1 s hs).1.2.1 (res_shape (quiet_of hz h1 hab h2 hA hzc hs) g f) (res_shape (quiet_of hq h1 hab h2 hA hqc hs) g f) x
  constructor
  · rintro ⟨s, hs, hx⟩
    obtain ⟨k1, k2⟩ := (key s hs).1 hx
    have := (g1 s hs).1
    unfold Spn.has at k1
    exact ⟨by omega, k2⟩
  · rintro ⟨hx, hne⟩
    obtain ⟨s, hs, hh⟩ := g3 hb x hx.1 hx.2
    exact ⟨s, hs, (key s hs).2 ⟨hh, hne⟩⟩

end Go.Proofs.YtoonaidpmahgcaaGreat

/- The stable sort's blocks. No program in sight. -/
import Derived.Test.YtjpjmlljgcpbkaaGreatStableP
namespace Go.Proofs.YtjpjmlljgcpbkaaGreat.St
set_option linter.unusedSimpArgs false
set_option linter.unusedVariables false
open Go.Sort
variable {α : Type} [Inhabited α] {lt : α → α → Bool} {n : Nat}

/-- each block of c is sorted -/
def BS (lt : α → α → Bool) (n c : Nat) (d : Array α) : Prop := ∀ p, SortedIn lt (p * c) (min (p * c + c) n) d
/-- each block of c ahead of a place is sorted -/
def DoneB (lt : α → α → Bool) (n c A : Nat) (d : Array α) : Prop := ∀ p, p * c < A → SortedIn lt (p * c) (min (p * c + c) n) d
/-- each block of c from a place on is sorted -/
def TodoB (lt : α → α → Bool) (n c A : Nat) (d : Array α) : Prop := ∀ p, A ≤ p * c → SortedIn lt (p * c) (min (p * c + c) n) d
theorem sorted_mono {a b a' b' : Nat} {d : Array α} (h : SortedIn lt a b d) (h1 : a ≤ a') (h2 : b' ≤ b) : SortedIn lt a' b' d := fun i j hi hij hj => h i j (by omega) hij (by omega)
theorem mul_next {c p q : Nat} (h : p * c < q * c) : p * c + c ≤ q * c := by
  have : p < q := Nat.lt_of_mul_lt_mul_right h
  have := Nat.mul_le_mul_right c (show p + 1 ≤ q from this)
  rwa [Nat.add_mul, Nat.one_mul] at this
theorem DoneB.zero (c : Nat) (d : Array α) : DoneB lt n c 0 d := fun p h => absurd h (Nat.not_lt_zero _)
theorem DoneB.step {c q B : Nat} {d e : Array α} (h : DoneB lt n c (q * c) d) (hp : PermIn (q * c) B d e) (hs : SortedIn lt (q * c) B e) (hB : min (q * c + c) n ≤ B) (hB2 : B ≤ q * c + c) : DoneB lt n c (q * c + c) e := fun p hlt => by
  rcases Nat.lt_or_ge (p * c) (q * c) with h1 | h1
  · have h2 := mul_next h1
    exact sorted_perm_out (h p h1) hp (.inl (by omega))
  · have h2 : p * c = q * c := by
      rcases Nat.lt_or_eq_of_le h1 with h3 | h3
      · have := mul_next h3; omega
      · exact h3.symm
    rw [h2]
    exact sorted_mono hs (Nat.le_refl _) hB
theorem DoneB.all {c A : Nat} {d : Array α} (h : DoneB lt n c A d) (hA : n ≤ A) : BS lt n c d := fun p => by
  rcases Nat.lt_or_ge (p * c) A with h1 | h1
  · exact h p h1
  · exact fun i j hi hij hj => by omega
theorem TodoB.of {c : Nat} {d : Array α} (h : BS lt n c d) : TodoB lt n c 0 d := fun p _ => h p
theorem TodoB.step {c A B : Nat} {d e : Array α} (h : TodoB lt n c A d) (hp : PermIn A B d e) (hB : A ≤ B) : TodoB lt n c B e := fun p hlt => sorted_perm_out (h p (by omega)) hp (.inr hlt)
theorem dbl (q c : Nat) : (2 * q) * c = q * (2 * c) ∧ (2 * q + 1) * c = q * (2 * c) + c := by
  constructor
  · rw [Nat.mul_comm 2 q, Nat.mul_assoc]
  · rw [Nat.add_mul, Nat.one_mul, Nat.mul_comm 2 q, Nat.mul_assoc]
/-- the two blocks that are merged -/
theorem TodoB.two {c q : Nat} {d : Array α} (h : TodoB lt n c (q * (2 * c)) d) : SortedIn lt (q * (2 * c)) (min (q * (2 * c) + c) n) d ∧ SortedIn lt (q * (2 * c) + c) (min (q * (2 * c) + 2 * c) n) d := by
  have e := dbl q c
  have h1 := h (2 * q) (by omega)
  have h2 := h (2 * q + 1) (by omega)
  rw [e.1] at h1
  rw [e.2] at h2
  exact ⟨h1, sorted_mono h2 (Nat.le_refl _) (by omega)⟩
theorem next_q (q c : Nat) : (q + 1) * c = q * c + c := by rw [Nat.add_mul, Nat.one_mul]
/-- what is left is one block -/
theorem DoneB.rest {c q : Nat} {d : Array α} (h : DoneB lt n (2 * c) (q * (2 * c)) d) (ht : TodoB lt n c (q * (2 * c)) d) (hn : n < q * (2 * c) + 2 * c) (hc : n ≤ q * (2 * c) + c) : BS lt n (2 * c) d := by
  have h2 := ht.two.1
  refine (DoneB.step h (permIn_refl d _ (min (q * (2 * c) + 2 * c) n)) ?_ (Nat.le_refl _) (by omega)).all (by omega)
  exact sorted_mono h2 (Nat.le_refl _) (by omega)
theorem BS.whole {c : Nat} {d : Array α} (h : BS lt n c d) (hc : n ≤ c) : SortedIn lt 0 n d := by
  have := h 0
  rw [Nat.zero_mul] at this
  exact sorted_mono this (Nat.le_refl _) (by omega)

end Go.Proofs.YtjpjmlljgcpbkaaGreat.St

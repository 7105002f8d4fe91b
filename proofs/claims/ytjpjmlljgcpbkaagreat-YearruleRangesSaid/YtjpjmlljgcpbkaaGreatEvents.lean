/- The events of a year as a list. No program in sight. -/
import Derived.Test.YtjpjmlljgcpbkaaGreatRule
import Derived.Test.YtjpjmlljgcpbkaaGreatMem
import Derived.Test.YtjpjmlljgcpbkaaGreatOrder
namespace Go.Proofs.YtjpjmlljgcpbkaaGreat
set_option linter.unusedSimpArgs false
set_option linter.unusedVariables false
open Go.Sort

def encE (x : Int × Int) : List Value := [.int .i64 x.1, .int .i64 x.2]
theorem encE_len (x : Int × Int) : (encE x).length = 2 := rfl
theorem encE_one (x : Int × Int) : ∀ v ∈ encE x, v.oneCell' = true := by
  intro v hv
  simp [encE] at hv
  rcases hv with rfl | rfl <;> rfl

/-- the event of one rule, by its index -/
def ev1 (y : Int) (i : Nat) (r : Rule) : List (Int × Int) := if (r.at y).2 = 0 then [((r.at y).1, (i : Int))] else []
/-- the events of some rules in a year, in the rules' order -/
def evs (y : Int) : Nat → List Rule → List (Int × Int)
  | _, [] => []
  | i, r :: rs => ev1 y i r ++ evs y (i + 1) rs
theorem ev1_len (y : Int) (i : Nat) (r : Rule) : (ev1 y i r).length ≤ 1 := by unfold ev1; split <;> simp
theorem evs_len (y : Int) : ∀ (i : Nat) (rs : List Rule), (evs y i rs).length ≤ rs.length
  | _, [] => by simp [evs]
  | i, r :: rs => by
    have h1 := ev1_len y i r
    have h2 := evs_len y (i + 1) rs
    simp [evs]; omega
theorem evs_snoc (y : Int) : ∀ (i : Nat) (rs : List Rule) (r : Rule), evs y i (rs ++ [r]) = evs y i rs ++ ev1 y (i + rs.length) r
  | i, [], r => by simp [evs]
  | i, a :: rs, r => by
    rw [List.cons_append, evs, evs_snoc y (i + 1) rs r, evs, List.append_assoc, List.length_cons]
    congr 3
    omega
theorem evs_take (y : Int) (rs : List Rule) (k : Nat) (h : k < rs.length) : evs y 0 (rs.take (k + 1)) = evs y 0 (rs.take k) ++ ev1 y k rs[k]! := by
  rw [List.take_succ_eq_append_getElem h, evs_snoc, List.length_take, Nat.min_eq_left (by omega), Nat.zero_add, getElem!_pos rs k h]

/-- one event lies ahead of another -/
def ltE (x y : Int × Int) : Bool := decide (x.1 < y.1 ∨ (x.1 = y.1 ∧ x.2 < y.2))
theorem ltOf_ord (x y : Int × Int) : ltOf ordF x y = ltE x y := by
  unfold ltOf ordF ltE Lib.compareInt
  by_cases h1 : x.1 < y.1
  · simp [h1]
  · by_cases h2 : y.1 < x.1
    · simp [h1, h2]; omega
    · have h3 : x.1 = y.1 := by omega
      by_cases h4 : x.2 < y.2
      · simp [h3, h4]
      · by_cases h5 : y.2 < x.2 <;> simp [h3, h4, h5]
theorem ltOf_ord' : ltOf ordF = ltE := by funext x y; exact ltOf_ord x y
theorem swoE : SWO (ltOf ordF) := by
  rw [ltOf_ord']
  constructor
  · intro x; simp [ltE]
  · intro x y z h1 h2; simp [ltE] at *; omega
  · intro x y z h1 h2; simp [ltE] at *; omega
theorem totE (x y : Int × Int) (h1 : (ltOf ordF) x y = false) (h2 : (ltOf ordF) y x = false) : x = y := by
  rw [ltOf_ord] at h1 h2
  simp [ltE] at h1 h2
  obtain ⟨a, b⟩ := x
  obtain ⟨c, d⟩ := y
  simp at *
  omega
/-- not behind -/
def leE (x y : Int × Int) : Bool := !ltE y x
/-- the events of a year, in order -/
def yearF (rs : List Rule) (y : Int) : List (Int × Int) := (evs y 0 rs).mergeSort leE
theorem yearF_len (rs : List Rule) (y : Int) : (yearF rs y).length = (evs y 0 rs).length := List.length_mergeSort _

/-- bounds on the times of events -/
def BdE (es : List (Int × Int)) : Prop := ∀ x ∈ es, -300000000000 ≤ x.1 ∧ x.1 ≤ 300000000000
theorem at_bd {r : Rule} {y : Int} : -300000000000 ≤ (r.at y).1 ∧ (r.at y).1 ≤ 300000000000 := by
  unfold Rule.at
  split
  · simp
  · split
    · simp
    · rename_i h _
      have ho := Rule.valid_ok (r := r) (by simpa using h)
      have hd := Cv.dayF_bd y r.mo r.k r.wk r.d
      have h1 := ho.at0
      have h2 := ho.at1
      unfold Rule.loc Rule.day
      dsimp only
      omega
theorem evs_bd (y : Int) : ∀ (i : Nat) (rs : List Rule), BdE (evs y i rs)
  | _, [] => fun x hx => by simp [evs] at hx
  | i, r :: rs => fun x hx => by
    simp only [evs, List.mem_append] at hx
    rcases hx with hx | hx
    · unfold ev1 at hx
      split at hx
      · simp at hx; subst hx; exact at_bd
      · simp at hx
    · exact evs_bd y (i + 1) rs x hx
theorem yearF_bd (rs : List Rule) (y : Int) : BdE (yearF rs y) := fun x hx => evs_bd y 0 rs x ((List.mergeSort_perm _ _).mem_iff.1 hx)
theorem BdE.append {a b : List (Int × Int)} (ha : BdE a) (hb : BdE b) : BdE (a ++ b) := fun x hx => by
  rcases List.mem_append.1 hx with h | h
  · exact ha x h
  · exact hb x h
theorem BdE.at {es : List (Int × Int)} (h : BdE es) {i : Nat} (hi : i < es.length) : -300000000000 ≤ (es[i]!).1 ∧ (es[i]!).1 ≤ 300000000000 := by
  rw [getElem!_pos es i hi]; exact h _ (List.getElem_mem hi)

/-- whether two neighbours of a list are less than 7 days apart, or not in order -/
def closeF (es : List (Int × Int)) : Bool := (List.range (es.length - 1)).any fun j => decide ((es[j + 1]!).1 - (es[j]!).1 < 604800)
theorem closeF_yes {es : List (Int × Int)} {j : Nat} (hj : j + 1 < es.length) (h : (es[j + 1]!).1 - (es[j]!).1 < 604800) : closeF es = true := by
  unfold closeF
  rw [List.any_eq_true]
  exact ⟨j, List.mem_range.2 (by omega), by simpa using h⟩
theorem closeF_no {es : List (Int × Int)} (h : ∀ j, j + 1 < es.length → ¬ (es[j + 1]!).1 - (es[j]!).1 < 604800) : closeF es = false := by
  unfold closeF
  rw [List.any_eq_false]
  intro j hj
  have := List.mem_range.1 hj
  simpa using h j (by omega)
def crowdF (rs : List Rule) (y : Int) : Bool := closeF (yearF rs (y - 1) ++ yearF rs y ++ yearF rs (y + 1))
theorem crowd_len (rs : List Rule) (y : Int) : (yearF rs y).length ≤ rs.length := by rw [yearF_len]; exact evs_len _ _ _

end Go.Proofs.YtjpjmlljgcpbkaaGreat

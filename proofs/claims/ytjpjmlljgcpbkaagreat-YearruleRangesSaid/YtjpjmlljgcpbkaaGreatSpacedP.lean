/- Spaced, as the code counts: no program in sight. -/
import Derived.Test.YtjpjmlljgcpbkaaGreatEvents
import Derived.Lib.SlicesCompact
import Derived.Lib.RowBridge
namespace Go.Proofs.YtjpjmlljgcpbkaaGreat
set_option linter.unusedSimpArgs false
set_option linter.unusedVariables false
open Go.Sort

/-- the years in which rules begin, or have ended -/
def cutsL (rs : List Rule) : List Int := rs.flatMap fun r => [r.fr, r.to + 1]
theorem cutsL_len (rs : List Rule) : (cutsL rs).length = 2 * rs.length := by
  induction rs with
  | nil => rfl
  | cons r rs ih => simp [cutsL] at *; omega
theorem cutsL_take (rs : List Rule) (k : Nat) (h : k < rs.length) : cutsL (rs.take (k + 1)) = cutsL (rs.take k) ++ [rs[k]!.fr, rs[k]!.to + 1] := by
  rw [List.take_succ_eq_append_getElem h, getElem!_pos rs k h]
  unfold cutsL
  rw [List.flatMap_append]
  rfl
def cutsF (rs : List Rule) : List Int := Lib.compact ((cutsL rs).mergeSort fun x y => decide (x ≤ y))
theorem cutsF_def (rs : List Rule) : cutsF rs = Lib.compact ((cutsL rs).mergeSort fun x y => decide (x ≤ y)) := rfl
theorem mem_compact (zs : List Int) (x : Int) (h : x ∈ Lib.compact zs) : x ∈ zs := by
  unfold Lib.compact Lib.compactUpTo at h
  rw [List.mem_map] at h
  obtain ⟨j, hj, rfl⟩ := h
  have := List.mem_range.1 (List.mem_filter.1 hj).1
  simp [getElem!_pos, this]
theorem mem_cutsF (rs : List Rule) (x : Int) (h : x ∈ cutsF rs) : x ∈ cutsL rs := (List.mergeSort_perm _ _).mem_iff.1 (mem_compact _ _ h)
theorem cutsF_len (rs : List Rule) : (cutsF rs).length ≤ 2 * rs.length := by
  refine Nat.le_trans (Lib.compact_length_le _) ?_
  rw [List.length_mergeSort, cutsL_len]
  exact Nat.le_refl _
theorem cutsF_bd {rs : List Rule} (h : ∀ r ∈ rs, 1 ≤ r.fr ∧ r.fr ≤ 9999 ∧ 1 ≤ r.to ∧ r.to ≤ 9999) {i : Nat} (hi : i < (cutsF rs).length) : 1 ≤ (cutsF rs)[i]! ∧ (cutsF rs)[i]! ≤ 10000 := by
  have hm : (cutsF rs)[i]! ∈ cutsF rs := by rw [getElem!_pos _ i hi]; exact List.getElem_mem hi
  have h2 := mem_cutsF _ _ hm
  unfold cutsL at h2
  rw [List.mem_flatMap] at h2
  obtain ⟨r, hr, hx⟩ := h2
  have := h r hr
  generalize (cutsF rs)[i]! = x at *
  simp at hx
  omega
/-- the year ahead of which the i-th stretch ends -/
def toF (C : List Int) (i : Nat) : Int := if i + 1 < C.length then C[i + 1]! else C[i]!
/-- the first n years from a: whether one is crowded -/
def busyF (rs : List Rule) (a : Int) (n : Nat) : Bool := (List.range n).any fun k => crowdF rs (a + k)
theorem busyF_zero (rs : List Rule) (a : Int) : busyF rs a 0 = false := rfl
theorem busyF_succ (rs : List Rule) (a : Int) (n : Nat) : busyF rs a (n + 1) = (busyF rs a n || crowdF rs (a + n)) := by simp [busyF, List.range_succ]
theorem busyF_mono {rs : List Rule} {a : Int} {n m : Nat} (h : busyF rs a n = true) (hm : n ≤ m) : busyF rs a m = true := by
  unfold busyF at *
  rw [List.any_eq_true] at *
  obtain ⟨k, hk, hc⟩ := h
  exact ⟨k, List.mem_range.2 (by have := List.mem_range.1 hk; omega), hc⟩
/-- the years that the code looks at in one stretch -/
def spanF (C : List Int) (i : Nat) : Nat := (min (toF C i) (C[i]! + 402) - C[i]!).toNat
def badF (rs : List Rule) (C : List Int) (i : Nat) : Bool := busyF rs C[i]! (spanF C i) || crowdF rs (toF C i - 1)
def badsF (rs : List Rule) (C : List Int) (n : Nat) : Bool := (List.range n).any (badF rs C)
theorem badsF_zero (rs : List Rule) (C : List Int) : badsF rs C 0 = false := rfl
theorem badsF_succ (rs : List Rule) (C : List Int) (n : Nat) : badsF rs C (n + 1) = (badsF rs C n || badF rs C n) := by simp [badsF, List.range_succ]
theorem badsF_yes {rs : List Rule} {C : List Int} {i : Nat} (hi : i < C.length) (h : badF rs C i = true) : badsF rs C C.length = true := by
  unfold badsF
  rw [List.any_eq_true]
  exact ⟨i, List.mem_range.2 hi, h⟩
def allV (rs : List Rule) : Bool := rs.all Rule.valid
def spacedF (rs : List Rule) : Bool := allV rs && !badsF rs (cutsF rs) (cutsF rs).length
theorem spacedF_no {rs : List Rule} (h : allV rs = false) : spacedF rs = false := by simp [spacedF, h]
theorem spacedF_ok {rs : List Rule} (h : allV rs = true) : spacedF rs = !badsF rs (cutsF rs) (cutsF rs).length := by simp [spacedF, h]
theorem badF_busy {rs : List Rule} {C : List Int} {i : Nat} {n : Nat} (h : busyF rs C[i]! n = true) (hn : n ≤ spanF C i) : badF rs C i = true := by unfold badF; rw [busyF_mono h hn]; rfl
theorem badF_last {rs : List Rule} {C : List Int} {i : Nat} (h : crowdF rs (toF C i - 1) = true) : badF rs C i = true := by unfold badF; rw [h]; simp
theorem badF_no {rs : List Rule} {C : List Int} {i : Nat} (h : busyF rs C[i]! (spanF C i) = false) (h2 : crowdF rs (toF C i - 1) = false) : badF rs C i = false := by unfold badF; rw [h, h2]; rfl
theorem allV_bd {rs : List Rule} (h : allV rs = true) : ∀ r ∈ rs, 1 ≤ r.fr ∧ r.fr ≤ 9999 ∧ 1 ≤ r.to ∧ r.to ≤ 9999 := fun r hr => by
  have ho := Rule.valid_ok (List.all_eq_true.1 h r hr)
  have h1 := ho.fr
  have h2 := ho.to
  have h3 := ho.max
  omega

end Go.Proofs.YtjpjmlljgcpbkaaGreat

/- How many transitions a span can have, by the number of rules. No program in sight. -/
import Derived.Test.YtoonaidpmahgcaaGreatGLa
namespace Go.Proofs.YtoonaidpmahgcaaGreat
set_option linter.unusedSimpArgs false
set_option linter.unusedVariables false
open Go.Sort

theorem win_count (rs : List Rule) (u v a : Int) : ∀ n : Nat, ((evT rs a n).filter fun x => decide (u ≤ x.1 ∧ x.1 ≤ v)).length ≤ rs.length * (min (a + n) (v + 1) - max a u).toNat
  | 0 => by simp [evT]
  | n + 1 => by
    have ih := win_count rs u v a n
    rw [evT, List.filter_append, List.length_append]
    by_cases h : u ≤ a + n ∧ a + n ≤ v
    · have e : (min (a + ((n + 1 : Nat) : Int)) (v + 1) - max a u).toNat = (min (a + (n : Int)) (v + 1) - max a u).toNat + 1 := by omega
      rw [e, Nat.mul_succ]
      have h1 : (((yearF rs (a + n)).map fun x => (a + (n : Int), x)).filter fun x => decide (u ≤ x.1 ∧ x.1 ≤ v)).length ≤ rs.length :=
        Nat.le_trans (List.length_filter_le _ _) (by rw [List.length_map]; exact crowd_len _ _)
      omega
    · have e : ((yearF rs (a + n)).map fun x => (a + (n : Int), x)).filter (fun x => decide (u ≤ x.1 ∧ x.1 ≤ v)) = [] := List.filter_eq_nil_iff.2 fun x hx => by
        obtain ⟨y, _, rfl⟩ := List.mem_map.1 hx
        simpa using h
      rw [e]
      refine Nat.le_trans ih (Nat.mul_le_mul_left _ ?_)
      omega
theorem happ_fst (z : Zn) : ∀ (s : Int) (xs : List (Int × Int × Int)), ((z.happ s xs).map Prod.fst).Sublist (xs.map Prod.fst)
  | s, [] => by rw [Zn.happ]; exact List.Sublist.refl _
  | s, x :: xs => by
    rw [Zn.happ]
    split
    · exact (happ_fst z _ xs).cons _
    · exact (happ_fst z _ xs).cons_cons _
theorem filter_fst {α : Type} (p : Int → Bool) (l : List (Int × α)) : (l.filter fun x => p x.1).length = ((l.map Prod.fst).filter p).length := by
  rw [List.filter_map, List.length_map]; rfl
/-- how many transitions of the tail are in some years -/
theorem TT_win (z : Zn) (u v : Int) : (z.TT.filter fun x => decide (u ≤ x.1 ∧ x.1 ≤ v)).length ≤ z.tail.length * (v + 1 - u).toNat := by
  have h1 : (z.TT.filter fun x => decide (u ≤ x.1 ∧ x.1 ≤ v)).length ≤ (z.HF.filter fun x => decide (u ≤ x.1 ∧ x.1 ≤ v)).length := ((trans_sub _ _ _).filter _).length_le
  have h2 : (z.HF.filter fun x => decide (u ≤ x.1 ∧ x.1 ≤ v)).length ≤ ((evT z.tail z.year (10000 - z.year).toNat).filter fun x => decide (u ≤ x.1 ∧ x.1 ≤ v)).length := by
    rw [filter_fst (fun y => decide (u ≤ y ∧ y ≤ v)), filter_fst (fun y => decide (u ≤ y ∧ y ≤ v))]
    exact ((happ_fst z _ _).filter _).length_le
  have h3 := win_count z.tail u v z.year (10000 - z.year).toNat
  have h4 : z.tail.length * (min (z.year + ((10000 - z.year).toNat : Int)) (v + 1) - max z.year u).toNat ≤ z.tail.length * (v + 1 - u).toNat := Nat.mul_le_mul_left _ (by omega)
  omega
theorem first_mono' {a b : Int} (h : 1 ≤ a) (hab : a ≤ b) : Cv.first a + 365 * (b - a) ≤ Cv.first b := by unfold Cv.first; omega
theorem tail_count40 {z : Zn} (ok : TailOk z) (hl : z.tail.length ≤ 12) {a b : Int} (hab : b - a ≤ 1263000000) : (z.TT.filter fun x => decide (inAB a b x)).length ≤ 504 := by
  cases h : z.TT.filter fun x => decide (inAB a b x) with
  | nil => exact Nat.zero_le _
  | cons x0 l =>
    have hA := (TT_asc ok).filter fun x => decide (inAB a b x)
    rw [h] at hA
    have hx0 : x0 ∈ z.TT.filter fun x => decide (inAB a b x) := by rw [h]; exact List.mem_cons_self
    obtain ⟨m0, i0⟩ := List.mem_filter.1 hx0
    have i0 : inAB a b x0 := of_decide_eq_true i0
    have b0 := TT_bd ok m0
    have y1 := ok.y1
    have key : ∀ x ∈ z.TT.filter (fun x => decide (inAB a b x)), x0.1 ≤ x.1 ∧ x.1 ≤ x0.1 + 41 := fun x hx => by
      obtain ⟨m1, i1⟩ := List.mem_filter.1 hx
      have i1 : inAB a b x := of_decide_eq_true i1
      have b1 := TT_bd ok m1
      have hle : x0.1 ≤ x.1 := by
        rw [h] at hx
        rcases List.mem_cons.1 hx with rfl | hx
        · exact Int.le_refl _
        · exact ((List.pairwise_cons.1 hA).1 x hx).1
      have hf := first_mono' (by omega) hle
      unfold inAB at i0 i1
      unfold loL hiL at b0 b1
      exact ⟨hle, by omega⟩
    have h2 : (z.TT.filter fun x => decide (inAB a b x)).length ≤ (z.TT.filter fun x => decide (x0.1 ≤ x.1 ∧ x.1 ≤ x0.1 + 41)).length := by
      have e : z.TT.filter (fun x => decide (inAB a b x)) = (z.TT.filter (fun x => decide (inAB a b x))).filter (fun x => decide (x0.1 ≤ x.1 ∧ x.1 ≤ x0.1 + 41)) := (List.filter_eq_self.2 fun x hx => decide_eq_true (key x hx)).symm
      rw [e, List.filter_filter]
      rw [show (z.TT.filter fun x => (decide (x0.1 ≤ x.1 ∧ x.1 ≤ x0.1 + 41) && decide (inAB a b x))) = (z.TT.filter fun x => decide (x0.1 ≤ x.1 ∧ x.1 ≤ x0.1 + 41)).filter fun x => decide (inAB a b x) by rw [List.filter_filter]; congr 1; funext x; exact Bool.and_comm _ _]
      exact List.length_filter_le _ _
    have h3 := TT_win z x0.1 (x0.1 + 41)
    have h4 : z.tail.length * (x0.1 + 41 + 1 - x0.1).toNat ≤ 12 * 42 := by
      rw [show (x0.1 + 41 + 1 - x0.1).toNat = 42 by omega]
      exact Nat.mul_le_mul_right _ hl
    rw [h] at h2
    omega
/-- forty years have few transitions -/
theorem bet_count40 {z : Zn} (hv : z.valid = true) (ht : z.table.length ≤ 300) (hl : z.tail.length ≤ 12) {a b : Int} (hab : b - a ≤ 1263000000) : (z.betF a b).length ≤ 804 := by
  by_cases hn : z.tail = []
  · unfold Zn.betF Zn.T
    rw [if_pos hn, List.append_nil]
    have := List.length_filter_le (fun x : Trn => decide (a ≤ x.at_ ∧ x.at_ < b)) z.table
    omega
  · rw [betF_tail hn, List.length_append, List.length_map]
    have := List.length_filter_le (fun x : Trn => decide (a ≤ x.at_ ∧ x.at_ < b)) z.table
    have := tail_count40 (valid_tail hv hn) hl hab
    omega

end Go.Proofs.YtoonaidpmahgcaaGreat

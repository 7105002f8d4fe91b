/- runs.combine: the parts. Printed by gen_comb.py. -/
import Derived.Test.YtdpkolnfbimheaaGreatJSpW
import Derived.Test.YtdpkolnfbimheaaGreatJCombP
import Derived.IntWalk
namespace Go.Proofs.YtdpkolnfbimheaaGreat
set_option linter.unusedSimpArgs false
set_option linter.unusedVariables false
open Go.ChangeShapes Go.WideShapes Go.ChangeAt Go.RowKit

theorem endC_any (l : List Spn) (v : Value) (i : Nat) (w : World) (hR : Rd encN 2 w v l) (hi : i ≤ 2 * l.length) (hl : l.length ≤ 2000) : Calls Tryz.prog 133 #[v, .int .i64 i] w fun e w' => e = .returned (.int .i64 (endF l i)) ∧ w' = w := by
  have HR := Lib.hid hR
  obtain ⟨A, c, rfl⟩ := rd_vf hR
  clear hR
  by_cases h0 : i = 2 * l.length
  · have HE := Lib.hid (show endF l i = 8796093022208 from if_pos h0)
    have d0 : ((i : Int) == 2 * (l.length : Int)) = true := beq_iff_eq.2 (by omega)
    clear h0
    go_enter Tryz.func133, Tryz.ntmps133
    go_wp2
    go_ret
    exact ⟨congrArg (fun q => Ending.returned (.int .i64 q)) HE.out.symm, rfl⟩
  · have d0 : ((i : Int) == 2 * (l.length : Int)) = false := beq_eq_false_iff_ne.2 (by omega)
    obtain ⟨_, hP0 | ⟨g, o, rfl, hg, hcs⟩⟩ := rd_at HR.out
    · rw [hP0] at hi h0; simp at hi h0; exact absurd hi h0
    · rcases Nat.mod_two_eq_zero_or_one i with h2 | h2
      · obtain ⟨m, rfl⟩ : ∃ m, i = 2 * m := ⟨i / 2, by omega⟩
        have hm : m < l.length := by omega
        obtain ⟨e1, e2⟩ := hcs m hm
        have HE := Lib.hid (end_fr hm)
        have r1 : (((2 * m : Nat) : Int)).tmod 2 = 0 := by rw [Int.tmod_eq_emod_of_nonneg (by omega)]; omega
        have r2 : (((2 * m : Nat) : Int)).tdiv 2 = (m : Int) := by rw [Int.tdiv_eq_ediv_of_nonneg (by omega)]; omega
        have r3 : (((2 * m : Nat) : Int)) % 2 = 0 := by omega
        have r4 : (((2 * m : Nat) : Int)) / 2 = (m : Int) := by omega
        have hm0 : (0 : Int) ≤ (m : Int) := by omega
        have hm1 : (m : Int) < (l.length : Int) := by omega
        generalize (l[m]!).fr = x at *
        generalize hq : ((2 * m : Nat) : Int) = q at *
        have hq0 : 0 ≤ q := by omega
        have hq1 : q ≤ 4000 := by omega
        clear hcs h0 h2 e2 hq
        go_enter Tryz.func133, Tryz.ntmps133
        go_wp2
        go_ret
        exact ⟨congrArg (fun q => Ending.returned (.int .i64 q)) HE.out.symm, rfl⟩
      · obtain ⟨m, rfl⟩ : ∃ m, i = 2 * m + 1 := ⟨i / 2, by omega⟩
        have hm : m < l.length := by omega
        obtain ⟨e1, e2⟩ := hcs m hm
        have HE := Lib.hid (end_to hm)
        have r1 : (((2 * m + 1 : Nat) : Int)).tmod 2 = 1 := by rw [Int.tmod_eq_emod_of_nonneg (by omega)]; omega
        have r2 : (((2 * m + 1 : Nat) : Int)).tdiv 2 = (m : Int) := by rw [Int.tdiv_eq_ediv_of_nonneg (by omega)]; omega
        have r3 : (((2 * m + 1 : Nat) : Int)) % 2 = 1 := by omega
        have r4 : (((2 * m + 1 : Nat) : Int)) / 2 = (m : Int) := by omega
        have hm0 : (0 : Int) ≤ (m : Int) := by omega
        have hm1 : (m : Int) < (l.length : Int) := by omega
        generalize (l[m]!).to = x at *
        generalize hq : ((2 * m + 1 : Nat) : Int) = q at *
        have hq0 : 0 ≤ q := by omega
        have hq1 : q ≤ 4000 := by omega
        clear hcs h0 h2 e1 hq
        go_enter Tryz.func133, Tryz.ntmps133
        go_wp2
        go_ret
        exact ⟨congrArg (fun q => Ending.returned (.int .i64 q)) HE.out.symm, rfl⟩
/-- what combine returns of two canonical lists -/
def CombEnd (rule : Bool → Bool → Bool) (a b : List Spn) (w : World) (e : Ending) (w' : World) : Prop := ∃ out u, CombOk rule a b out ∧ Below w.heap.size w w' ∧ ((out.length ≤ 2000 ∧ e = .returned (.tuple #[u, .int .i64 0]) ∧ w'.ownsRow w.heap.size 34 2 u out.length (out.flatMap encN)) ∨ (2000 < out.length ∧ e = .returned (.tuple #[.slice none 0 0, .int .i64 5])))
def CombRel (rule : Bool → Bool → Bool) (a b : List Spn) (w : World) (v8 v9 v10 v12 v13 : Value) (wr : World) : Prop :=
  ∃ (i k : Nat) (ins : Bool) (fr p : Int) (out : List Spn), v9 = .int .i64 i ∧ v10 = .int .i64 k ∧ v12 = .bool ins ∧ v13 = .int .i64 fr ∧ CombInv rule a b i k ins fr p out ∧ wr.ownsRow w.heap.size 34 2 v8 out.length (out.flatMap encN) ∧ Below w.heap.size w wr
theorem validR_runs {l : List Spn} (h : validR l = true) : Runs l ∧ l.length ≤ 2000 := by
  unfold validR at h
  rw [Bool.and_eq_true, decide_eq_true_eq] at h
  exact ⟨runs_of h.2, h.1⟩
theorem odd_eq (i : Nat) : (((i : Int) % 2) == 1) = odd i := by
  unfold odd
  rw [Bool.eq_iff_iff, beq_iff_eq, beq_iff_eq]
  omega
theorem nxt_yes {l : List Spn} {i : Nat} {t : Int} (h : endF l i = t) : nxtF l i t = i + 1 := if_pos h
theorem nxt_no {l : List Spn} {i : Nat} {t : Int} (h : ¬ endF l i = t) : nxtF l i t = i := if_neg h
theorem ruleU (u v : Bool) (w : World) : Calls Tryz.prog 92 #[.bool u, .bool v] w fun e w' => e = .returned (.bool (u || v)) ∧ w' = w := by
  cases u <;> cases v <;> (go_enter Tryz.func92, Tryz.ntmps92; go_wp2; go_ret; exact ⟨rfl, rfl⟩)
theorem ruleM (u v : Bool) (w : World) : Calls Tryz.prog 93 #[.bool u, .bool v] w fun e w' => e = .returned (.bool (u && v)) ∧ w' = w := by
  cases u <;> cases v <;> (go_enter Tryz.func93, Tryz.ntmps93; go_wp2; go_ret; exact ⟨rfl, rfl⟩)
theorem ruleN (u v : Bool) (w : World) : Calls Tryz.prog 131 #[.bool u, .bool v] w fun e w' => e = .returned (.bool (u && !v)) ∧ w' = w := by
  cases u <;> cases v <;> (go_enter Tryz.func131, Tryz.ntmps131; go_wp2; go_ret; exact ⟨rfl, rfl⟩)

end Go.Proofs.YtdpkolnfbimheaaGreat

/- slices.Equal at spans; runs.Equal of two lists that are one. -/
import Derived.Test.YtoonaidpmahgcaaGreatJSpW
import Derived.Laws.StructEq
import Derived.Shelf.SlicesQ.Equal
namespace Go.Proofs.YtoonaidpmahgcaaGreat
set_option linter.unusedSimpArgs false
set_option linter.unusedVariables false
open Go.ChangeShapes Go.WideShapes Go.ChangeAt Go.RowKit

theorem neS : Go.Proofs.NeqAt Tryz.prog 29 (fun x => .agg (encN x).toArray) (fun x y => x.fr == y.fr && x.to == y.to) := by
  refine ⟨fun x y w => ?_, Go.Proofs.GuardAt.agg _ (by kernel_rfl)⟩
  have u3 := Tryz.underlying3
  have hS : Tryz.prog.underlying 29 = some (.struct (Tryz.prog.fieldsOf 29)) := by kernel_rfl
  have hp : Tryz.prog.stoodInHeld 29 = false := by kernel_rfl
  have a3 : ∀ w, (isAgg 3).run Tryz.prog w = .ok false w := fun w => by kernel_rfl
  have z3 : ∀ w, (Go.sizeOf 3).run Tryz.prog w = .ok 1 w := fun w => by kernel_rfl
  simp only [encN]
  rw [run_neq_struct, show (10000 : Nat) = 9999 + 1 from rfl, run_equalIn_agg w 9999 29 _ _ hS hp]
  simp only [Program.fieldsOf, Tryz.underlying29]
  go_simp
  by_cases h1 : x.fr = y.fr <;> by_cases h2 : x.to = y.to <;> simp [h1, h2]
theorem allEqS_self (es : List Spn) : Lib.allEq (fun x y : Spn => x.fr == y.fr && x.to == y.to) es es = true := by
  apply Lib.allEq_all
  · rfl
  · intro j _; simp
theorem EqS_same (es : List Spn) (v1 v2 : Value) (w : World) (hl : es.length ≤ 1000000) (h1 : Rd encN 2 w v1 es) (h2 : Rd encN 2 w v2 es) :
    Calls Tryz.prog 40 #[v1, v2] w fun e w' => e = .returned (.bool true) ∧ Below w.heap.size w w' := by
  rcases h1 with ⟨rfl, A, c, rfl⟩ | ⟨b1, o1, c1, rfl, hg1, hc1⟩
  · obtain ⟨A2, c2, rfl⟩ : ∃ A c, v2 = .slice A 0 c := by
      rcases h2 with ⟨_, A2, c2, rfl⟩ | ⟨b2, o2, c2, rfl, _⟩
      · exact ⟨_, _, rfl⟩
      · exact ⟨_, _, rfl⟩
    go_enter Tryz.func40, Tryz.ntmps40
    go_wp2
    refine wp_loop_rounds 1 ?_
    rw [rounds_succ]
    go_wp2
    go_ret
    exact ⟨rfl, Below.refl _ _⟩
  · rcases h2 with ⟨rfl, A2, c2, rfl⟩ | ⟨b2, o2, c2, rfl, hg2, hc2⟩
    · go_enter Tryz.func40, Tryz.ntmps40
      go_wp2
      refine wp_loop_rounds 1 ?_
      rw [rounds_succ]
      go_wp2
      go_ret
      exact ⟨rfl, Below.refl _ _⟩
    · have h := Tryz.slices_Equal_f40 2 isAggS sizeOfS encN encN_len _ neS b1 o1 es.length c1 b2 o2 es.length c2 es es w (Nat.le_refl _) (Nat.le_refl _) (by omega) (by omega) hc1 hc2
      rw [List.take_length, allEqS_self] at h
      refine h.mono ?_
      rintro e w' ⟨rfl, q, rfl⟩
      exact ⟨rfl, below_drewN (Below.refl _ _) _⟩

end Go.Proofs.YtoonaidpmahgcaaGreat

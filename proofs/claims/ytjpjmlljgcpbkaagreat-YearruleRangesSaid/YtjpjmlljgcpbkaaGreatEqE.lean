/- slices.Equal at the events. -/
import Derived.Test.YtjpjmlljgcpbkaaGreatYear
import Derived.Laws.StructEq
import Derived.Shelf.SlicesQ.Equal
namespace Go.Proofs.YtjpjmlljgcpbkaaGreat
set_option linter.unusedSimpArgs false
set_option linter.unusedVariables false
open Go.ChangeShapes Go.WideShapes Go.ChangeAt Go.RowKit

theorem rd_vform {α : Type} [Inhabited α] {enc : α → List Value} {k : Nat} {w : World} {v : Value} {es : List α} (h : Rd enc k w v es) : ∃ A c, v = .slice A es.length c := by
  rcases h with ⟨rfl, A, c, rfl⟩ | ⟨g, off, c, rfl, _⟩
  · exact ⟨A, c, rfl⟩
  · exact ⟨_, c, rfl⟩
theorem neE : Go.Proofs.NeqAt Tryz.prog 44 (fun x => .agg (encE x).toArray) (fun x y => x.1 == y.1 && x.2 == y.2) := by
  refine ⟨fun x y w => ?_, Go.Proofs.GuardAt.agg _ (by kernel_rfl)⟩
  have u3 := Tryz.underlying3
  have hS : Tryz.prog.underlying 44 = some (.struct (Tryz.prog.fieldsOf 44)) := by kernel_rfl
  have hp : Tryz.prog.stoodInHeld 44 = false := by kernel_rfl
  have a3 : ∀ w, (isAgg 3).run Tryz.prog w = .ok false w := fun w => by kernel_rfl
  have z3 : ∀ w, (Go.sizeOf 3).run Tryz.prog w = .ok 1 w := fun w => by kernel_rfl
  simp only [encE]
  rw [run_neq_struct, show (10000 : Nat) = 9999 + 1 from rfl, run_equalIn_agg w 9999 44 _ _ hS hp]
  simp only [Program.fieldsOf, Tryz.underlying44]
  go_simp
  by_cases h1 : x.fst = y.fst <;> by_cases h2 : x.snd = y.snd <;> simp [h1, h2]

theorem allEq_self (es : List (Int × Int)) : Lib.allEq (fun x y : Int × Int => x.1 == y.1 && x.2 == y.2) es es = true := by
  apply Lib.allEq_all
  · rfl
  · intro j _; simp

/-- slices.Equal at two lists of events that are one -/
theorem EqE_same (es : List (Int × Int)) (v1 v2 : Value) (w : World) (hl : es.length ≤ 1000000) (h1 : Rd encE 2 w v1 es) (h2 : Rd encE 2 w v2 es) :
    Calls Tryz.prog 20 #[v1, v2] w fun e w' => e = .returned (.bool true) ∧ Below w.heap.size w w' := by
  rcases h1 with ⟨rfl, A, c, rfl⟩ | ⟨b1, o1, c1, rfl, hg1, hc1⟩
  · obtain ⟨A2, c2, rfl⟩ : ∃ A c, v2 = .slice A 0 c := by
      rcases h2 with ⟨_, A2, c2, rfl⟩ | ⟨b2, o2, c2, rfl, _⟩
      · exact ⟨_, _, rfl⟩
      · exact ⟨_, _, rfl⟩
    go_enter Tryz.func20, Tryz.ntmps20
    go_wp2
    refine wp_loop_rounds 1 ?_
    rw [rounds_succ]
    go_wp2
    go_ret
    exact ⟨rfl, Below.refl _ _⟩
  · rcases h2 with ⟨rfl, A2, c2, rfl⟩ | ⟨b2, o2, c2, rfl, hg2, hc2⟩
    · go_enter Tryz.func20, Tryz.ntmps20
      go_wp2
      refine wp_loop_rounds 1 ?_
      rw [rounds_succ]
      go_wp2
      go_ret
      exact ⟨rfl, Below.refl _ _⟩
    · have h := Tryz.slices_Equal 2 isAggE sizeOfE encE encE_len _ neE b1 o1 es.length c1 b2 o2 es.length c2 es es w (Nat.le_refl _) (Nat.le_refl _) (by omega) (by omega) hc1 hc2
      rw [List.take_length, allEq_self] at h
      refine h.mono ?_
      rintro e w' ⟨rfl, q, rfl⟩
      exact ⟨rfl, below_drewN (Below.refl _ _) _⟩

end Go.Proofs.YtjpjmlljgcpbkaaGreat

/- version.Instants. Printed by gen_veri.py. -/
import Derived.Test.YtoonaidpmahgcaaGreatJVerW3
import Derived.Test.YtoonaidpmahgcaaGreatJRunsOf
import Derived.Test.YtoonaidpmahgcaaGreatGVp
namespace Go.Proofs.YtoonaidpmahgcaaGreat
set_option linter.unusedSimpArgs false
set_option linter.unusedVariables false
open Go.ChangeShapes Go.WideShapes Go.ChangeAt Go.RowKit

theorem own_lt {w : World} {base : Nat} {e : TypeId} {size : Nat} {v : Value} {n : Nat} {xs : List Value} (h : w.ownsRow base e size v n xs) : ∀ r, v.ownBlock = some r → r < w.heap.size := fun r er => by
  rcases h.2 with ⟨rfl, _⟩ | ⟨g, cap, cur, rfl, _, hg, _⟩
  · simp [Value.ownBlock] at er
  · obtain rfl : g = r := by simpa [Value.ownBlock] using er
    exact (Array.getElem?_eq_some_iff.1 hg).1
theorem own_in {w : World} {base : Nat} {e : TypeId} {size : Nat} {v : Value} {n : Nat} {xs : List Value} (h : w.ownsRow base e size v n xs) : ∀ r, v.ownBlock = some r → base ≤ r ∧ r < w.heap.size := fun r er => by
  refine ⟨?_, own_lt h r er⟩
  rcases h.2 with ⟨rfl, _⟩ | ⟨g, cap, cur, rfl, hg, _⟩
  · simp [Value.ownBlock] at er
  · obtain rfl : g = r := by simpa [Value.ownBlock] using er
    exact hg
theorem Of_nil (w : World) : Calls Tryz.prog 60 #[.slice none 0 0] w fun e w' => e = .returned (.tuple #[.slice none 0 0, .int .i64 0]) ∧ Below w.heap.size w w' := by
  go_enter Tryz.func60, Tryz.ntmps60
  go_wp2_with (first
    | (go_at_call 73; refine (noneS_cf _ _ _ _).mono ?_; rintro e w' ⟨rfl, rfl⟩)
    | (go_at_call 126; refine (Tryz.slices_Clone_nil_f126 _ _ _).mono ?_; rintro e w' ⟨rfl, rfl⟩)
    | (go_at_call 127; refine (Tryz.slices_SortFunc_none_f127 (α := BSpn) _ _ _ _).mono ?_; rintro e w1 ⟨rfl, rfl⟩))
  refine wp_loop_rounds 1 ?_
  rw [rounds_succ]
  go_wp2_with (go_at_call 129; refine (done_any _ _ _ _ (by decide)).mono ?_; rintro e w' ⟨rfl, rfl⟩)
  go_ret2
  exact ⟨rfl, Below.refl _ _⟩
theorem betV_of {z : Zn} (hv : z.valid = true) {a b : Int} (h : -62135596800 ≤ a ∧ a < b ∧ b ≤ 253402300800) (hl : (z.betF a b).length ≤ 1000) : z.betV a b = (z.betF a b, 0) := by
  have hs : spanB a b = true := by
    unfold spanB ivB lineB
    simp
    omega
  unfold Zn.betV
  rw [if_pos ⟨hs, hv⟩, if_pos hl]
end Go.Proofs.YtoonaidpmahgcaaGreat

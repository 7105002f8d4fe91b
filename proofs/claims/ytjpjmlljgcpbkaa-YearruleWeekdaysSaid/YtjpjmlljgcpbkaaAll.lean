/- yearrule.all. -/
import Derived.Test.YtjpjmlljgcpbkaaCrowd
import Derived.Test.YtjpjmlljgcpbkaaYvalid
import Derived.Test.YtjpjmlljgcpbkaaSpacedP
namespace Go.Proofs.Ytjpjmlljgcpbkaa
set_option linter.unusedSimpArgs false
set_option linter.unusedVariables false
open Go.ChangeShapes Go.WideShapes Go.ChangeAt Go.RowKit


theorem isAggR (w : World) : (isAgg 45).run Try.prog w = .ok true w := by kernel_rfl
theorem sizeOfR (w : World) : (Go.sizeOf 45).run Try.prog w = .ok 11 w := by kernel_rfl
theorem all1_any (r : Rule) (w : World) : Calls Try.prog 54 #[r.v] w fun e w' => e = .returned (.bool (!r.valid)) ∧ Below w.heap.size w w' := by
  have hV := fun w => Valid_any r w
  have HV := Lib.hid hV
  clear hV
  show Calls Try.prog 54 #[.agg #[.string r.nm, .int .i64 r.fr, .int .i64 r.to, .int .i64 r.mo, .int .i64 r.k, .int .i64 r.wk, .int .i64 r.d, .int .i64 r.at_, .int .i64 r.cl, .int .i64 r.sv, .string r.lt]] w _
  go_enter Try.func54, Try.ntmps54
  go_wp2_with (go_at_call 32; refine (HV.out _).mono ?_; rintro e w1 ⟨rfl, hb1⟩)
  go_ret
  exact ⟨ret1 (vbool (by simp)), ((Below.refl _ _).alloc (Nat.le_refl _) _).trans (hb1.mono (by simp))⟩
theorem IndexFunc_none (A : Option Addr) (c : Nat) (f : Value) (w : World) : Calls Try.prog 68 #[.slice A 0 c, f] w fun e w' => e = .returned (.int .i64 (-1)) ∧ w' = w := by
  go_enter Try.func68, Try.ntmps68
  go_wp2
  refine wp_loop_rounds 1 ?_
  rw [rounds_succ]
  go_wp2
  go_ret
  exact ⟨rfl, rfl⟩
theorem ContainsFunc_none (A : Option Addr) (c : Nat) (f : Value) (w : World) : Calls Try.prog 53 #[.slice A 0 c, f] w fun e w' => e = .returned (.bool false) ∧ w' = w := by
  go_enter Try.func53, Try.ntmps53
  go_wp2_with (go_at_call 68; refine (IndexFunc_none _ _ _ _).mono ?_; rintro e w' ⟨rfl, rfl⟩)
  go_ret
  exact ⟨rfl, rfl⟩
theorem not_any (rs : List Rule) : (!(rs.any fun r => !r.valid)) = allV rs := by simp [allV, List.all_eq_not_any_not]
theorem all_any (rs : List Rule) (v : Value) (w : World) (hl : rs.length ≤ 1000000) (h : Rd Rule.cells 11 w v rs) :
    Calls Try.prog 34 #[v] w fun e w' => e = .returned (.bool (allV rs)) ∧ Below w.heap.size w w' := by
  rw [← not_any]
  rcases h with ⟨rfl, A, c, rfl⟩ | ⟨g, off, c, rfl, hg, hc⟩
  · go_enter Try.func34, Try.ntmps34
    go_wp2_with (go_at_call 53; refine (ContainsFunc_none _ _ _ _).mono ?_; rintro e w' ⟨rfl, rfl⟩)
    go_ret
    exact ⟨ret1 (vbool (by simp)), Below.refl _ _⟩
  · have hC := Try.slices_ContainsFunc 11 isAggR sizeOfR Rule.cells (fun _ => rfl) (fun r => !r.valid) 54 #[] (enters_of Try.func54 (by kernel_rfl) rfl) g off rs.length c rs w (fun W x hb => (all1_any x W).mono fun _ _ h => ⟨h.1, hb.trans (h.2.mono hb.size)⟩) (Nat.le_refl _) (by omega) hg hc
    rw [List.take_length] at hC
    have HC := Lib.hid hC
    generalize (rs.any fun r => !r.valid) = B at *
    clear hC hc
    go_enter Try.func34, Try.ntmps34
    go_wp2_with (go_at_call 53; refine HC.out.mono ?_; rintro e w1 ⟨rfl, hb1⟩)
    go_ret
    exact ⟨ret1 (vbool (by simp)), hb1⟩

end Go.Proofs.Ytjpjmlljgcpbkaa

/- yearrule.all. -/
import Derived.Test.YtjpjmlljgcpbkaaGreatCrowd
import Derived.Test.YtjpjmlljgcpbkaaGreatYvalid
import Derived.Test.YtjpjmlljgcpbkaaGreatSpacedP
namespace Go.Proofs.YtjpjmlljgcpbkaaGreat
set_option linter.unusedSimpArgs false
set_option linter.unusedVariables false
open Go.ChangeShapes Go.WideShapes Go.ChangeAt Go.RowKit


theorem isAggR (w : World) : (isAgg 25).run Tryz.prog w = .ok true w := by kernel_rfl
theorem sizeOfR (w : World) : (Go.sizeOf 25).run Tryz.prog w = .ok 11 w := by kernel_rfl
theorem all1_any (r : Rule) (w : World) : Calls Tryz.prog 73 #[r.v] w fun e w' => e = .returned (.bool (!r.valid)) ∧ Below w.heap.size w w' := by
  have hV := fun w => Valid_any r w
  have HV := Lib.hid hV
  clear hV
  show Calls Tryz.prog 73 #[.agg #[.string r.nm, .int .i64 r.fr, .int .i64 r.to, .int .i64 r.mo, .int .i64 r.k, .int .i64 r.wk, .int .i64 r.d, .int .i64 r.at_, .int .i64 r.cl, .int .i64 r.sv, .string r.lt]] w _
  go_enter Tryz.func73, Tryz.ntmps73
  go_wp2_with (go_at_call 18; refine (HV.out _).mono ?_; rintro e w1 ⟨rfl, hb1⟩)
  go_ret
  exact ⟨ret1 (vbool (by simp)), ((Below.refl _ _).alloc (Nat.le_refl _) _).trans (hb1.mono (by simp))⟩
theorem IndexFunc_none (A : Option Addr) (c : Nat) (f : Value) (w : World) : Calls Tryz.prog 90 #[.slice A 0 c, f] w fun e w' => e = .returned (.int .i64 (-1)) ∧ w' = w := by
  go_enter Tryz.func90, Tryz.ntmps90
  go_wp2
  refine wp_loop_rounds 1 ?_
  rw [rounds_succ]
  go_wp2
  go_ret
  exact ⟨rfl, rfl⟩
theorem ContainsFunc_none (A : Option Addr) (c : Nat) (f : Value) (w : World) : Calls Tryz.prog 72 #[.slice A 0 c, f] w fun e w' => e = .returned (.bool false) ∧ w' = w := by
  go_enter Tryz.func72, Tryz.ntmps72
  go_wp2_with (go_at_call 90; refine (IndexFunc_none _ _ _ _).mono ?_; rintro e w' ⟨rfl, rfl⟩)
  go_ret
  exact ⟨rfl, rfl⟩
theorem not_any (rs : List Rule) : (!(rs.any fun r => !r.valid)) = allV rs := by simp [allV, List.all_eq_not_any_not]
theorem all_any (rs : List Rule) (v : Value) (w : World) (hl : rs.length ≤ 1000000) (h : Rd Rule.cells 11 w v rs) :
    Calls Tryz.prog 43 #[v] w fun e w' => e = .returned (.bool (allV rs)) ∧ Below w.heap.size w w' := by
  rw [← not_any]
  rcases h with ⟨rfl, A, c, rfl⟩ | ⟨g, off, c, rfl, hg, hc⟩
  · go_enter Tryz.func43, Tryz.ntmps43
    go_wp2_with (go_at_call 72; refine (ContainsFunc_none _ _ _ _).mono ?_; rintro e w' ⟨rfl, rfl⟩)
    go_ret
    exact ⟨ret1 (vbool (by simp)), Below.refl _ _⟩
  · have hC := Tryz.slices_ContainsFunc 11 isAggR sizeOfR Rule.cells (fun _ => rfl) (fun r => !r.valid) 73 #[] (enters_of Tryz.func73 (by kernel_rfl) rfl) g off rs.length c rs w (fun W x hb => (all1_any x W).mono fun _ _ h => ⟨h.1, hb.trans (h.2.mono hb.size)⟩) (Nat.le_refl _) (by omega) hg hc
    rw [List.take_length] at hC
    have HC := Lib.hid hC
    generalize (rs.any fun r => !r.valid) = B at *
    clear hC hc
    go_enter Tryz.func43, Tryz.ntmps43
    go_wp2_with (go_at_call 72; refine HC.out.mono ?_; rintro e w1 ⟨rfl, hb1⟩)
    go_ret
    exact ⟨ret1 (vbool (by simp)), hb1⟩

end Go.Proofs.YtjpjmlljgcpbkaaGreat

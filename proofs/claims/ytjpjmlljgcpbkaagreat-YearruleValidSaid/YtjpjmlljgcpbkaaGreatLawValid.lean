/- The law YearruleValid: its walk. -/
import Derived.Test.YtjpjmlljgcpbkaaGreatAwake
import Derived.Test.YtjpjmlljgcpbkaaGreatRef20a
import Derived.Test.YtjpjmlljgcpbkaaGreatBel
namespace Go.Proofs.YtjpjmlljgcpbkaaGreat
set_option linter.unusedSimpArgs false
set_option linter.unusedVariables false
open Go.ChangeShapes Go.WideShapes Go.ChangeAt Go.RowKit

set_option maxRecDepth 100000 in
set_option maxHeartbeats 4000000 in
theorem law_YearruleValid (r : Rule) (y : Int) (w : World) (hm : HasMax w) : Calls Tryz.prog 5 #[r.v, .int .i64 y] w fun e w' => e = .returned (.bool true) ∧ Below w.heap.size w w' := by
  show Calls Tryz.prog 5 #[.agg #[.string r.nm, .int .i64 r.fr, .int .i64 r.to, .int .i64 r.mo, .int .i64 r.k, .int .i64 r.wk, .int .i64 r.d, .int .i64 r.at_, .int .i64 r.cl, .int .i64 r.sv, .string r.lt], .int .i64 y] w _
  have HAt := Lib.hid (fun W => r20_At r y W)
  have HV := Lib.hid (fun W => Valid_any r W)
  have HRv := Lib.hid (fun W => r20_Valid r W)
  have HAc := Lib.hid (fun W => Active_any r y W)
  have HAw := Lib.hid (fun W h => awake_any W h)
  have hal : Below w.heap.size w (w.alloc (.cells #[.string r.nm, .int .i64 r.fr, .int .i64 r.to, .int .i64 r.mo, .int .i64 r.k, .int .i64 r.wk, .int .i64 r.d, .int .i64 r.at_, .int .i64 r.cl, .int .i64 r.sv, .string r.lt] 25)) := (Below.refl _ _).alloc (Nat.le_refl _) _
  have HM := Lib.hid (hm.on hal)
  clear hm
  generalize r.rat y = T at *
  generalize r.active y = B at *
  generalize r.valid = V at *
  go_enter Tryz.func5, Tryz.ntmps5
  go_wp2_with (first
    | (go_at_call 9; refine (HAw.out _ HM.out).mono ?_; rintro e w1 ⟨rfl, hb1⟩; obtain ⟨hc1, hf1⟩ := bcell hb1; have hs1 : w.heap.size < w1.heap.size := by have := hb1.size; simp at this; omega)
    | (go_at_call 13; refine (HAt.out _).mono ?_; rintro e w2 ⟨rfl, hb2⟩; obtain ⟨hc2, hf2⟩ := bcell hb2; have hs2 : w.heap.size < w2.heap.size := by have := hb2.size; omega))
  have hp : ∀ (p : Bel w2.heap.size w2) b o, b < w2.heap.size → p.w1.cell? ⟨b, o, none⟩ = w2.cell? ⟨b, o, none⟩ := fun p => bel_cell p
  refine wp_region_bel (by kernel_rfl) (by kernel_rfl) ?_
  repeat (quiet_step ((first
    | (go_at_call 18; exact bel_of (Nat.le_refl _) (HV.out _))
    | (go_at_call 14; exact bel_of (Nat.le_refl _) (HRv.out _))
    | (go_at_call 19; exact bel_of (Nat.le_refl _) (HAc.out _)))))
  refine wpQuiet_nil ?_
  intro _ hw'
  obtain ⟨⟨w3, hb3⟩, hw''⟩ := hw'
  subst hw''
  clear hp
  go_wp2
  go_ret
  exact ⟨ret1 (vbool (by simp)), ((hal.trans (hb1.mono (by simp))).trans (hb2.mono (by omega))).trans (hb3.mono (by omega))⟩

end Go.Proofs.YtjpjmlljgcpbkaaGreat

/- yearrule.order: the comparison of two events. -/
import Derived.Test.YtjpjmlljgcpbkaaGreatCivil
import Derived.Test.YtjpjmlljgcpbkaaGreatShelf
import Derived.Deep.RegionHeld3
import Derived.StillTailTactics
namespace Go.Proofs.YtjpjmlljgcpbkaaGreat
set_option linter.unusedSimpArgs false
set_option linter.unusedVariables false
open Go.ChangeShapes Go.WideShapes Go.ChangeAt Go.RowKit

/-- two events: by their times, then by their rules -/
def ordF (x y : Int × Int) : Int := if Lib.compareInt x.1 y.1 = 0 then Lib.compareInt x.2 y.2 else Lib.compareInt x.1 y.1

set_option maxHeartbeats 1000000 in
theorem cmpOr_two (B : Nat) (a b : Int) (w : World) (h0 : w.cell? ⟨B, 0, none⟩ = some (.int .i64 a)) (h1 : w.cell? ⟨B, 1, none⟩ = some (.int .i64 b)) :
    Calls Tryz.prog 84 #[.slice (some ⟨B, 0, none⟩) 2 2] w fun e w' => e = .returned (.int .i64 (if a = 0 then b else a)) ∧ w = w' := by
  by_cases ha : a = 0
  · rw [if_pos ha]
    subst ha
    by_cases hb : b = 0
    · subst hb
      go_enter Tryz.func84, Tryz.ntmps84
      go_wp2
      go_rounds 3
      go_ret
      exact ⟨rfl, rfl⟩
    · have hb' : (b != 0) = true := by simpa using hb
      go_enter Tryz.func84, Tryz.ntmps84
      go_wp2
      go_rounds 3
      all_goals (go_ret; exact ⟨rfl, rfl⟩)
  · rw [if_neg ha]
    have ha' : (a != 0) = true := by simpa using ha
    go_enter Tryz.func84, Tryz.ntmps84
    go_wp2
    go_rounds 3
    all_goals (go_ret; exact ⟨rfl, rfl⟩)

theorem grown_two {w W : World} {os : Array Obj} (h : W = Sort.grow w os) (o : Obj) : ∃ q os', (W.alloc o).drew = Sort.grow (w.drewN q) os' :=
  ⟨1, os ++ #[o], by rw [h, ← Sort.grow_grow, Sort.alloc_eq_grow]; rfl⟩
set_option maxRecDepth 100000 in
set_option maxHeartbeats 1000000 in
theorem order_any (x y : Int × Int) (w : World) :
    Calls Tryz.prog 52 #[.agg #[.int .i64 x.1, .int .i64 x.2], .agg #[.int .i64 y.1, .int .i64 y.2]] w fun e w' => e = .returned (.int .i64 (ordF x y)) ∧ ∃ q os', w' = Sort.grow (w.drewN q) os' := by
  obtain ⟨x1, x2⟩ := x
  obtain ⟨y1, y2⟩ := y
  unfold ordF
  dsimp only
  go_enter Tryz.func52, Tryz.ntmps52
  go_wp2
  have c00 : ∀ d, World.cell? { (w.alloc (.cells #[.int .i64 x1, .int .i64 x2] 44)).alloc (.cells #[.int .i64 y1, .int .i64 y2] 44) with drawn := d } ⟨w.heap.size, 0, none⟩ = some (.int .i64 x1) := fun d => by
    show World.cell? ((w.alloc _).alloc _) _ = _; simp
  have c01 : ∀ d, World.cell? { (w.alloc (.cells #[.int .i64 x1, .int .i64 x2] 44)).alloc (.cells #[.int .i64 y1, .int .i64 y2] 44) with drawn := d } ⟨w.heap.size, 1, none⟩ = some (.int .i64 x2) := fun d => by
    show World.cell? ((w.alloc _).alloc _) _ = _; simp
  have c10 : ∀ d, World.cell? { (w.alloc (.cells #[.int .i64 x1, .int .i64 x2] 44)).alloc (.cells #[.int .i64 y1, .int .i64 y2] 44) with drawn := d } ⟨w.heap.size + 1, 0, none⟩ = some (.int .i64 y1) := fun d => by
    show World.cell? ((w.alloc _).alloc _) _ = _; simp
  have c11 : ∀ d, World.cell? { (w.alloc (.cells #[.int .i64 x1, .int .i64 x2] 44)).alloc (.cells #[.int .i64 y1, .int .i64 y2] 44) with drawn := d } ⟨w.heap.size + 1, 1, none⟩ = some (.int .i64 y2) := fun d => by
    show World.cell? ((w.alloc _).alloc _) _ = _; simp
  have hz : ((w.alloc (.cells #[.int .i64 x1, .int .i64 x2] 44)).alloc (.cells #[.int .i64 y1, .int .i64 y2] 44)) = Sort.grow w #[.cells #[.int .i64 x1, .int .i64 x2] 44, .cells #[.int .i64 y1, .int .i64 y2] 44] := by
    rw [Sort.alloc_eq_grow, Sort.alloc_eq_grow, Sort.grow_grow]; rfl
  have HZ := Lib.hid hz
  clear hz
  generalize (w.alloc (.cells #[.int .i64 x1, .int .i64 x2] 44)).alloc (.cells #[.int .i64 y1, .int .i64 y2] 44) = W at *
  go_still_tail 10, (by kernel_rfl)
  still_call (Tryz.cmp_Compare_int _ _ _)
  repeat still_step
  still_call (Tryz.cmp_Compare_int _ _ _)
  refine wpStill_nil ?_
  change wpList _ _ _ _ _ (World.drew W)
  go_wp2_with (go_at_call 84; refine (cmpOr_two W.heap.size (Lib.compareInt x1 y1) (Lib.compareInt x2 y2) _ (by simp) (by simp)).mono ?_; rintro e w' ⟨rfl, rfl⟩)
  all_goals go_ret
  all_goals exact ⟨rfl, grown_two HZ.out _⟩

end Go.Proofs.YtjpjmlljgcpbkaaGreat

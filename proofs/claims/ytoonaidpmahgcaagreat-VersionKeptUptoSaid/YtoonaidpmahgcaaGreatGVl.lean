/- Joined by merge.py: VerL2, VerL1. -/
import Derived.Test.YtoonaidpmahgcaaGreatJVerW2
import Derived.Test.YtoonaidpmahgcaaGreatJSpW
import Derived.Test.YtoonaidpmahgcaaGreatGZc
import Derived.IntWalk
import Derived.BigQuiet
/- civiltimelaw24.great: a list of zones. -/
namespace Go.Proofs.YtoonaidpmahgcaaGreat
set_option linter.unusedSimpArgs false
set_option linter.unusedVariables false
open Go.ChangeShapes Go.WideShapes Go.ChangeAt Go.RowKit Go.Sort Go.Lib

def bigV (z : Zn) : Bool := decide ((60 : Int) < (z.table.length : Int)) || decide ((6 : Int) < (z.tail.length : Int))
theorem great1_any (w : World) : PredBelow Tryz.prog 55 #[] (fun x : ZV => .agg (encZ x).toArray) (fun x => bigV x.z) w := by
  intro W x hb
  obtain ⟨z, vT, vR, ⟨A, c, rfl⟩, ⟨A', c', rfl⟩⟩ := x
  show Calls Tryz.prog 55 #[.agg #[.string z.nm, .int .i64 z.first.off, .int .i64 z.first.sv, .string z.first.nm, .slice A z.table.length c, .slice A' z.tail.length c', .int .i64 z.off, .string z.form, .int .i64 z.year]] W fun e w' => e = .returned (.bool (bigV z)) ∧ _
  unfold bigV
  by_cases h1 : (60 : Int) < (z.table.length : Int)
  · have d1 := decide_eq_true h1
    go_enter Tryz.func55, Tryz.ntmps55
    go_wp2
    go_ret
    exact ⟨ret1 (vbool (by simp [h1])), hb.alloc hb.size _⟩
  · have d1 := decide_eq_false h1
    go_enter Tryz.func55, Tryz.ntmps55
    go_wp2
    go_ret
    exact ⟨ret1 (vbool (by simp [h1])), hb.alloc hb.size _⟩
end Go.Proofs.YtoonaidpmahgcaaGreat

/- civiltimelaw24: long, Span, Same, has. -/
namespace Go.Proofs.YtoonaidpmahgcaaGreat
set_option linter.unusedSimpArgs false
set_option linter.unusedVariables false
open Go.ChangeShapes Go.WideShapes Go.ChangeAt Go.RowKit

theorem r24span_any (a b : Int) (w : World) : Calls Tryz.prog 18 #[.agg #[.int .i64 a, .int .i64 b]] w fun e w' => e = .returned (.bool (spanV a b)) ∧ Below w.heap.size w w' := by
  have HBZ := Lib.hid (show Below w.heap.size w (w.alloc (.cells #[.int .i64 a, .int .i64 b] 29)) from (Below.refl _ _).alloc (Nat.le_refl _) _)
  unfold spanV
  by_cases h1 : -62135596800 ≤ a
  · rw [decide_eq_true h1, Bool.true_and]
    by_cases h2 : a < b
    · rw [decide_eq_true h2, Bool.true_and]
      go_enter Tryz.func18, Tryz.ntmps18
      go_wp2
      go_ret
      exact ⟨rfl, HBZ.out⟩
    · rw [decide_eq_false h2, Bool.false_and]
      go_enter Tryz.func18, Tryz.ntmps18
      go_wp2
      go_ret
      exact ⟨ret1 (vbool (by simp)), HBZ.out⟩
  · rw [decide_eq_false h1, Bool.false_and]
    go_enter Tryz.func18, Tryz.ntmps18
    go_wp2
    go_ret
    exact ⟨ret1 (vbool (by simp)), HBZ.out⟩
def longV (a b y : Int) : Bool := spanV a b && decide (y * 31622400 < b - a)
theorem long_any (a b y : Int) (hy : 0 ≤ y ∧ y ≤ 1000) (w : World) : Calls Tryz.prog 15 #[.agg #[.int .i64 a, .int .i64 b], .int .i64 y] w fun e w' => e = .returned (.bool (longV a b y)) ∧ Below w.heap.size w w' := by
  have HS := Lib.hid (fun W => r24span_any a b W)
  have b0 := Blk.new w #[.int .i64 a, .int .i64 b] 29
  have HBZ := Lib.hid (show Below w.heap.size w (w.alloc (.cells #[.int .i64 a, .int .i64 b] 29)) from (Below.refl _ _).alloc (Nat.le_refl _) _)
  unfold longV
  cases hs : spanV a b
  · rw [hs] at HS
    clear hs
    go_enter Tryz.func15, Tryz.ntmps15
    go_wp2_with fail
    refine (HS.out _).mono ?_
    rintro e w1 ⟨rfl, hb1⟩
    go_wp2
    go_ret
    exact ⟨ret1 (vbool (by simp)), HBZ.out.trans (hb1.mono HBZ.out.size)⟩
  · rw [hs] at HS
    have hb : -62135596800 ≤ a ∧ a < b ∧ b ≤ 253402300800 := by
      unfold spanV at hs
      simp at hs
      omega
    clear hs
    go_enter Tryz.func15, Tryz.ntmps15
    go_wp2_with fail
    generalize w.alloc (.cells #[.int .i64 a, .int .i64 b] 29) = W at *
    refine (HS.out _).mono ?_
    rintro e w1 ⟨rfl, hb1⟩
    have k0 := b0.below hb1 b0.lt
    have x0 := k0.cell 0 (v := .int .i64 a) rfl
    have x1 := k0.cell 1 (v := .int .i64 b) rfl
    go_wp2
    go_ret
    exact ⟨ret1 (vbool (by rw [Bool.true_and]; rw [decide_eq_decide]; omega)), HBZ.out.trans (hb1.mono HBZ.out.size)⟩
end Go.Proofs.YtoonaidpmahgcaaGreat

/- civiltimelaw24.great: a list of zones. -/
import Derived.Test.YtoonaidpmahgcaaGreatJVerW2
import Derived.Test.YtoonaidpmahgcaaGreatJSpW
namespace Go.Proofs.YtoonaidpmahgcaaGreat
set_option linter.unusedSimpArgs false
set_option linter.unusedVariables false
open Go.ChangeShapes Go.WideShapes Go.ChangeAt Go.RowKit Go.Sort Go.Lib

/-- a zone with its slices' values -/
structure ZV where
  z : Zn
  vT : Value
  vR : Value
  hT : ∃ A c, vT = .slice A z.table.length c
  hR : ∃ A c, vR = .slice A z.tail.length c
instance : Inhabited ZV := ⟨⟨⟨⟨#[]⟩, ⟨0, 0, ⟨#[]⟩⟩, [], [], 0, ⟨#[]⟩, 0⟩, .slice none 0 0, .slice none 0 0, ⟨_, _, rfl⟩, ⟨_, _, rfl⟩⟩⟩
def encZ (x : ZV) : List Value := x.z.cellsZ x.vT x.vR
theorem encZ_len (x : ZV) : (encZ x).length = 9 := rfl
theorem isAggZ (w : World) : (isAgg 27).run Tryz.prog w = .ok true w := by kernel_rfl
theorem sizeOfZ (w : World) : (Go.sizeOf 27).run Tryz.prog w = .ok 9 w := by kernel_rfl
def bigV (z : Zn) : Bool := decide ((60 : Int) < (z.table.length : Int)) || decide ((6 : Int) < (z.tail.length : Int))
theorem great1_any (w : World) : PredBelow Tryz.prog 55 #[] (fun x : ZV => .agg (encZ x).toArray) (fun x => bigV x.z) w := by
  intro W x hb
  obtain ⟨z, vT, vR, ⟨A, c, rfl⟩, ⟨A', c', rfl⟩⟩ := x
  show Calls Tryz.prog 55 #[.agg #[.string z.nm, .int .i64 z.first.off, .int .i64 z.first.sv, .string z.first.nm, .slice A z.table.length c, .slice A' z.tail.length c', .int .i64 z.off, .string z.form, .int .i64 z.year]] W fun e w' => e = .returned (.bool (bigV z)) ∧ _
  unfold bigV
  by_cases h1 : (60 : Int) < (z.table.length : Int)
  · have d1 := decide_eq_true h1
    go_enter Tryz.func55, Tryz.ntmps55
    go_wp2
    go_ret
    exact ⟨ret1 (vbool (by simp [h1])), hb.alloc hb.size _⟩
  · have d1 := decide_eq_false h1
    go_enter Tryz.func55, Tryz.ntmps55
    go_wp2
    go_ret
    exact ⟨ret1 (vbool (by simp [h1])), hb.alloc hb.size _⟩
theorem great24_any (x y : ZV) (g : Nat) (w : World) (hg : g < w.heap.size) (hc : ∀ j u, (encZ x ++ encZ y)[j]? = some u → w.cell? ⟨g, j, none⟩ = some u) :
    Calls Tryz.prog 14 #[.slice (some ⟨g, 0, none⟩) 2 2] w fun e w' => e = .returned (.bool (bigV x.z || bigV y.z)) ∧ Below w.heap.size w w' := by
  have H := Lib.hid (Tryz.slices_ContainsFunc_f54 9 isAggZ sizeOfZ encZ encZ_len (fun x => bigV x.z) 55 #[] (enters_of Tryz.func55 (by kernel_rfl) rfl) g 0 2 2 [x, y] w (great1_any w) (Nat.le_refl _) (by decide) hg (fun j hj i v hv => by
    rcases Nat.lt_or_ge j 1 with h | h
    · obtain rfl : j = 0 := by omega
      have h9 : i < 9 := by have := (List.getElem?_eq_some_iff.1 hv).1; rwa [encZ_len] at this
      have := hc i v (by rw [List.getElem?_append_left (by rw [encZ_len]; exact h9)]; exact hv)
      simpa using this
    · obtain rfl : j = 1 := by simp at hj; omega
      have := hc (9 + i) v (by rw [List.getElem?_append_right (by rw [encZ_len]; omega), encZ_len, Nat.add_sub_cancel_left]; exact hv)
      simpa using this))
  go_enter Tryz.func14, Tryz.ntmps14
  go_wp2_with fail
  refine H.out.mono ?_
  rintro e w1 ⟨rfl, hb1⟩
  go_wp2
  go_ret
  exact ⟨ret1 (vbool (by simp)), hb1⟩

end Go.Proofs.YtoonaidpmahgcaaGreat

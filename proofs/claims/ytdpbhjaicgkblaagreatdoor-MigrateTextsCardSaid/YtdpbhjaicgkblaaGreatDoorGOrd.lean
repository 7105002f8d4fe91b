/- Joined by merge.py: Order, Events. -/
import Derived.Test.YtdpbhjaicgkblaaGreatDoorJCivil
import Derived.Test.YtdpbhjaicgkblaaGreatDoorGShelf
import Derived.Deep.RegionHeld3
import Derived.StillTailTactics
import Derived.Test.YtdpbhjaicgkblaaGreatDoorGBase
/- yearrule.order: the comparison of two events. -/
namespace Go.Proofs.YtdpbhjaicgkblaaGreatDoor
set_option linter.unusedSimpArgs false
set_option linter.unusedVariables false
open Go.ChangeShapes Go.WideShapes Go.ChangeAt Go.RowKit
def ordF (x y : Int × Int) : Int := if Lib.compareInt x.1 y.1 = 0 then Lib.compareInt x.2 y.2 else Lib.compareInt x.1 y.1
set_option maxHeartbeats 1000000 in
theorem cmpOr_two (B : Nat) (a b : Int) (w : World) (h0 : w.cell? ⟨B, 0, none⟩ = some (.int .i64 a)) (h1 : w.cell? ⟨B, 1, none⟩ = some (.int .i64 b)) :
  Calls Tryz.prog 174 #[.slice (some ⟨B, 0, none⟩) 2 2] w fun e w' => e = .returned (.int .i64 (if a = 0 then b else a)) ∧ w = w' := by
 by_cases ha : a = 0
 ·rw [if_pos ha]
  subst ha
  by_cases hb : b = 0
  ·subst hb
   go_enter Tryz.func174, Tryz.ntmps174
   go_wp2
   go_rounds 3
   go_ret
   exact ⟨rfl, rfl⟩
  ·have hb' : (b != 0) = true := by simpa using hb
   go_enter Tryz.func174, Tryz.ntmps174
   go_wp2
   go_rounds 3
   all_goals (go_ret; exact ⟨rfl, rfl⟩)
 ·rw [if_neg ha]
  have ha' : (a != 0) = true := by simpa using ha
  go_enter Tryz.func174, Tryz.ntmps174
  go_wp2
  go_rounds 3
  all_goals (go_ret; exact ⟨rfl, rfl⟩)
theorem grown_two {w W : World} {os : Array Obj} (h : W = Sort.grow w os) (o : Obj) : ∃ q os', (W.alloc o).drew = Sort.grow (w.drewN q) os' :=
 ⟨1, os ++ #[o], by rw [h, ← Sort.grow_grow, Sort.alloc_eq_grow]; rfl⟩
set_option maxRecDepth 100000 in
set_option maxHeartbeats 1000000 in
theorem order_any (x y : Int × Int) (w : World) :
  Calls Tryz.prog 153 #[.agg #[.int .i64 x.1, .int .i64 x.2], .agg #[.int .i64 y.1, .int .i64 y.2]] w fun e w' => e = .returned (.int .i64 (ordF x y)) ∧ ∃ q os', w' = Sort.grow (w.drewN q) os' := by
 obtain ⟨x1, x2⟩ := x
 obtain ⟨y1, y2⟩ := y
 unfold ordF
 dsimp only
 go_enter Tryz.func153, Tryz.ntmps153
 go_wp2
 have c00 : ∀ d, World.cell? { (w.alloc (.cells #[.int .i64 x1, .int .i64 x2] 206)).alloc (.cells #[.int .i64 y1, .int .i64 y2] 206) with drawn := d } ⟨w.heap.size, 0, none⟩ = some (.int .i64 x1) := fun d => by
  show World.cell? ((w.alloc _).alloc _) _ = _; simp
 have c01 : ∀ d, World.cell? { (w.alloc (.cells #[.int .i64 x1, .int .i64 x2] 206)).alloc (.cells #[.int .i64 y1, .int .i64 y2] 206) with drawn := d } ⟨w.heap.size, 1, none⟩ = some (.int .i64 x2) := fun d => by
  show World.cell? ((w.alloc _).alloc _) _ = _; simp
 have c10 : ∀ d, World.cell? { (w.alloc (.cells #[.int .i64 x1, .int .i64 x2] 206)).alloc (.cells #[.int .i64 y1, .int .i64 y2] 206) with drawn := d } ⟨w.heap.size + 1, 0, none⟩ = some (.int .i64 y1) := fun d => by
  show World.cell? ((w.alloc _).alloc _) _ = _; simp
 have c11 : ∀ d, World.cell? { (w.alloc (.cells #[.int .i64 x1, .int .i64 x2] 206)).alloc (.cells #[.int .i64 y1, .int .i64 y2] 206) with drawn := d } ⟨w.heap.size + 1, 1, none⟩ = some (.int .i64 y2) := fun d => by
  show World.cell? ((w.alloc _).alloc _) _ = _; simp
 have hz : ((w.alloc (.cells #[.int .i64 x1, .int .i64 x2] 206)).alloc (.cells #[.int .i64 y1, .int .i64 y2] 206)) = Sort.grow w #[.cells #[.int .i64 x1, .int .i64 x2] 206, .cells #[.int .i64 y1, .int .i64 y2] 206] := by
  rw [Sort.alloc_eq_grow, Sort.alloc_eq_grow, Sort.grow_grow]; rfl
 have HZ := Lib.hid hz
 clear hz
 generalize (w.alloc (.cells #[.int .i64 x1, .int .i64 x2] 206)).alloc (.cells #[.int .i64 y1, .int .i64 y2] 206) = W at *
 go_still_tail 10, (by kernel_rfl)
 still_call (Tryz.cmp_Compare_int _ _ _)
 repeat still_step
 still_call (Tryz.cmp_Compare_int _ _ _)
 refine wpStill_nil ?_
 change wpList _ _ _ _ _ (World.drew W)
 go_wp2_with (go_at_call 174; refine (cmpOr_two W.heap.size (Lib.compareInt x1 y1) (Lib.compareInt x2 y2) _ (by simp) (by simp)).mono ?_; rintro e w' ⟨rfl, rfl⟩)
 all_goals go_ret
 all_goals exact ⟨rfl, grown_two HZ.out _⟩
end Go.Proofs.YtdpbhjaicgkblaaGreatDoor
/- The events of a year as a list. No program in sight. -/
namespace Go.Proofs.YtdpbhjaicgkblaaGreatDoor
set_option linter.unusedSimpArgs false
set_option linter.unusedVariables false
open Go.Sort
def encE (x : Int × Int) : List Value := [.int .i64 x.1, .int .i64 x.2]
theorem encE_len (x : Int × Int) : (encE x).length = 2 := rfl
theorem encE_one (x : Int × Int) : ∀ v ∈ encE x, v.oneCell' = true := by
 intro v hv
 simp [encE] at hv
 rcases hv with rfl | rfl <;> rfl
def ev1 (y : Int) (i : Nat) (r : Rule) : List (Int × Int) := if (r.at y).2 = 0 then [((r.at y).1, (i : Int))] else []
def evs (y : Int) : Nat → List Rule → List (Int × Int)
 | _, [] => []
 | i, r :: rs => ev1 y i r ++ evs y (i + 1) rs
theorem ev1_len (y : Int) (i : Nat) (r : Rule) : (ev1 y i r).length ≤ 1 := by unfold ev1; split <;> simp
theorem evs_len (y : Int) : ∀ (i : Nat) (rs : List Rule), (evs y i rs).length ≤ rs.length
 | _, [] => by simp [evs]
 | i, r :: rs => by
  have h1 := ev1_len y i r
  have h2 := evs_len y (i + 1) rs
  simp [evs]; omega
theorem evs_snoc (y : Int) : ∀ (i : Nat) (rs : List Rule) (r : Rule), evs y i (rs ++ [r]) = evs y i rs ++ ev1 y (i + rs.length) r
 | i, [], r => by simp [evs]
 | i, a :: rs, r => by
  rw [List.cons_append, evs, evs_snoc y (i + 1) rs r, evs, List.append_assoc, List.length_cons]
  congr 3
  omega
theorem evs_take (y : Int) (rs : List Rule) (k : Nat) (h : k < rs.length) : evs y 0 (rs.take (k + 1)) = evs y 0 (rs.take k) ++ ev1 y k rs[k]! := by
 rw [List.take_succ_eq_append_getElem h, evs_snoc, List.length_take, Nat.min_eq_left (by omega), Nat.zero_add, getElem!_pos rs k h]
def ltE (x y : Int × Int) : Bool := decide (x.1 < y.1 ∨ (x.1 = y.1 ∧ x.2 < y.2))
theorem ltOf_ord (x y : Int × Int) : ltOf ordF x y = ltE x y := by
 unfold ltOf ordF ltE Lib.compareInt
 by_cases h1 : x.1 < y.1
 ·simp [h1]
 ·by_cases h2 : y.1 < x.1
  ·simp [h1, h2]; omega
  ·have h3 : x.1 = y.1 := by omega
   by_cases h4 : x.2 < y.2
   ·simp [h3, h4]
   ·by_cases h5 : y.2 < x.2 <;> simp [h3, h4, h5]
theorem ltOf_ord' : ltOf ordF = ltE := by funext x y; exact ltOf_ord x y
theorem swoE : SWO (ltOf ordF) := by
 rw [ltOf_ord']
 constructor
 ·intro x; simp [ltE]
 ·intro x y z h1 h2; simp [ltE] at *; omega
 ·intro x y z h1 h2; simp [ltE] at *; omega
theorem totE (x y : Int × Int) (h1 : (ltOf ordF) x y = false) (h2 : (ltOf ordF) y x = false) : x = y := by
 rw [ltOf_ord] at h1 h2
 simp [ltE] at h1 h2
 obtain ⟨a, b⟩ := x
 obtain ⟨c, d⟩ := y
 simp at *
 omega
def leE (x y : Int × Int) : Bool := !ltE y x
def yearF (rs : List Rule) (y : Int) : List (Int × Int) := (evs y 0 rs).mergeSort leE
theorem yearF_len (rs : List Rule) (y : Int) : (yearF rs y).length = (evs y 0 rs).length := List.length_mergeSort _
def BdE (es : List (Int × Int)) : Prop := ∀ x ∈ es, -300000000000 ≤ x.1 ∧ x.1 ≤ 300000000000
theorem at_bd {r : Rule} {y : Int} : -300000000000 ≤ (r.at y).1 ∧ (r.at y).1 ≤ 300000000000 := by
 unfold Rule.at
 split
 ·simp
 ·split
  ·simp
  ·rename_i h _
   have ho := Rule.valid_ok (r := r) (by simpa using h)
   have hd := Cv.dayF_bd y r.mo r.k r.wk r.d
   have h1 := ho.at0
   have h2 := ho.at1
   unfold Rule.loc Rule.day
   dsimp only
   omega
theorem evs_bd (y : Int) : ∀ (i : Nat) (rs : List Rule), BdE (evs y i rs)
 | _, [] => fun x hx => by simp [evs] at hx
 | i, r :: rs => fun x hx => by
  simp only [evs, List.mem_append] at hx
  rcases hx with hx | hx
  ·unfold ev1 at hx
   split at hx
   ·simp at hx; subst hx; exact at_bd
   ·simp at hx
  ·exact evs_bd y (i + 1) rs x hx
theorem yearF_bd (rs : List Rule) (y : Int) : BdE (yearF rs y) := fun x hx => evs_bd y 0 rs x ((List.mergeSort_perm _ _).mem_iff.1 hx)
theorem BdE.append {a b : List (Int × Int)} (ha : BdE a) (hb : BdE b) : BdE (a ++ b) := fun x hx => by
 rcases List.mem_append.1 hx with h | h
 ·exact ha x h
 ·exact hb x h
theorem BdE.at {es : List (Int × Int)} (h : BdE es) {i : Nat} (hi : i < es.length) : -300000000000 ≤ (es[i]!).1 ∧ (es[i]!).1 ≤ 300000000000 := by
 rw [getElem!_pos es i hi]; exact h _ (List.getElem_mem hi)
def closeF (es : List (Int × Int)) : Bool := (List.range (es.length - 1)).any fun j => decide ((es[j + 1]!).1 - (es[j]!).1 < 604800)
theorem closeF_yes {es : List (Int × Int)} {j : Nat} (hj : j + 1 < es.length) (h : (es[j + 1]!).1 - (es[j]!).1 < 604800) : closeF es = true := by
 unfold closeF
 rw [List.any_eq_true]
 exact ⟨j, List.mem_range.2 (by omega), by simpa using h⟩
theorem closeF_no {es : List (Int × Int)} (h : ∀ j, j + 1 < es.length → ¬ (es[j + 1]!).1 - (es[j]!).1 < 604800) : closeF es = false := by
 unfold closeF
 rw [List.any_eq_false]
 intro j hj
 have := List.mem_range.1 hj
 simpa using h j (by omega)
def crowdF (rs : List Rule) (y : Int) : Bool := closeF (yearF rs (y - 1) ++ yearF rs y ++ yearF rs (y + 1))
theorem crowd_len (rs : List Rule) (y : Int) : (yearF rs y).length ≤ rs.length := by rw [yearF_len]; exact evs_len _ _ _
end Go.Proofs.YtdpbhjaicgkblaaGreatDoor

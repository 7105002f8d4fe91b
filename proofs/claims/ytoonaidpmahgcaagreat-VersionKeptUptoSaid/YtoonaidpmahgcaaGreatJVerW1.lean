/- version: numbers that the call owns, sorted; what a function that collects spans keeps. -/
import Derived.Test.YtoonaidpmahgcaaGreatGRange
import Derived.Test.YtoonaidpmahgcaaGreatGZn
import Derived.Test.YtoonaidpmahgcaaGreatGVp
import Derived.Test.YtoonaidpmahgcaaGreatGRn
import Derived.Test.YtoonaidpmahgcaaGreatGHis
import Derived.Sort.OwnSortedInts
namespace Go.Proofs.YtoonaidpmahgcaaGreat
set_option linter.unusedSimpArgs false
set_option linter.unusedVariables false
open Go.ChangeShapes Go.WideShapes Go.ChangeAt Go.RowKit

theorem Sort_grown (base : Nat) (zs : List Int) (n : Nat) (v : Value) (w : World) (h : w.ownsRow base 3 1 v n (zs.map (Value.int .i64))) (hn : 0 < n) (hn2 : n ≤ 1000000) :
    Calls Tryz.prog 124 #[v] w fun e w' => e = .returned (.tuple #[]) ∧ w'.ownsRow base 3 1 v n ((zs.mergeSort fun x y => decide (x ≤ y)).map (Value.int .i64)) ∧ w.grownBy w' v.ownBlock := by
  obtain ⟨g, cap, rfl, hg1, hg2, hg3, hg4, hg5, hH⟩ := Lib.holds_of_ownsRow h (not_nil h hn)
  subst hg5
  refine (Tryz.slices_Sort_int g 0 cap zs w hH hg2 (by omega)).mono ?_
  rintro e w' ⟨rfl, n, os, rfl⟩
  have h2 := Lib.ownsRow_putRow (q := n) h (ys := zs.mergeSort fun x y => decide (x ≤ y)) (List.length_mergeSort _) (Nat.le_refl _)
  rw [List.take_of_length_le (by rw [List.length_mergeSort]; exact Nat.le_refl _)] at h2
  exact ⟨rfl, own_on h2 (grow_below _ _), grownBy_sortedI _⟩
theorem sorted_ms (l : List Int) : (l.mergeSort fun x y => decide (x ≤ y)).Pairwise (· ≤ ·) := by
  have h := List.pairwise_mergeSort (le := fun x y : Int => decide (x ≤ y)) (fun a b c h1 h2 => by simp at *; omega) (fun a b => by simp; omega) l
  exact h.imp fun h => by simpa using h
theorem mem_ms {l : List Int} {x : Int} : x ∈ (l.mergeSort fun x y => decide (x ≤ y)) ↔ x ∈ l := (List.mergeSort_perm _ _).mem_iff
theorem grown_below {w w' : World} {o B : Nat} (h : w.grownBy w' (some o)) (hB : B ≤ o) (hs : B ≤ w.heap.size) : Below B w w' :=
  ⟨h.os, h.tape, h.output, h.size, fun k hk => h.block k (by omega) (by intro e; injection e with e; omega)⟩

/-- what has been collected: the box o holds a slice of the spans L, and no other block that was there has turned -/
def OutP (o : Nat) (w0 : World) (L : List Spn) (w : World) : Prop :=
  w0.grownBy w (some o) ∧ o < w0.heap.size ∧ ∃ u, Boxed w o 33 u ∧ w.ownsRow w0.heap.size 29 2 u L.length (L.flatMap encN) ∧ (L = [] → u = .slice none 0 0)
theorem OutP.below {o : Nat} {w0 w w' : World} {L : List Spn} (h : OutP o w0 L w) (hb : Below w.heap.size w w') : OutP o w0 L w' := by
  obtain ⟨h1, h2, u, h3, h4, h5⟩ := h
  exact ⟨h1.trans (below_grown hb), h2, u, h3.kept (below_grown (row := none) hb) (by simp), own_on h4 hb, h5⟩
theorem OutP.old {o B : Nat} {w0 w : World} {L : List Spn} (h : OutP o w0 L w) (hB : B ≤ o) : Below B w0 w := grown_below h.1 hB (Nat.le_of_lt (Nat.lt_of_le_of_lt hB h.2.1))
/-- one span more -/
theorem OutP.add {o : Nat} {w0 w wa w1 : World} {L : List Spn} {s : Spn} {u v' : Value} (h1 : w0.grownBy w (some o)) (ho : o < w0.heap.size) (hbox : Boxed w o 33 u) (hrow : w.ownsRow w0.heap.size 29 2 u L.length (L.flatMap encN)) (hA : Below w.heap.size w wa)
    (hown : w1.ownsRow w0.heap.size 29 2 v' (L.length + 1) (L.flatMap encN ++ encN s)) (hgrow : wa.grownBy w1 u.ownBlock) : Boxed w1 o 33 u ∧ OutP o w0 (L ++ [s]) (w1.setCell ⟨o, 0, none⟩ v') := by
  have hne : some o ≠ u.ownBlock := hbox.not_row (by decide) hrow
  have hbA : Boxed wa o 33 u := hbox.kept (below_grown (row := none) hA) (by simp)
  have hb1 : Boxed w1 o 33 u := hbA.kept hgrow hne
  refine ⟨hb1, ((h1.trans (below_grown hA)).andThen hgrow fun j ej => ?_).trans (grownBy_setCell' w1 o v'), ho, v', hb1.set v', ?_, fun e => absurd e (by simp)⟩
  · rcases hrow.2 with ⟨rfl, _⟩ | ⟨g, cap, cur, rfl, hg, _⟩
    · simp [Value.ownBlock] at ej
    · obtain rfl : g = j := by simpa [Value.ownBlock] using ej
      exact .inl hg
  · have h2 := hown.kept (grownBy_setCell' w1 o v') (.inr (hb1.not_row (by decide) hown).symm)
    rw [List.length_append, List.flatMap_append, show [s].flatMap encN = encN s by simp]
    exact h2

end Go.Proofs.YtoonaidpmahgcaaGreat

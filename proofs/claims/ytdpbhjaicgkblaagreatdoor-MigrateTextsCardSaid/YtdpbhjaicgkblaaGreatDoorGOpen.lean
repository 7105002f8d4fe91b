/- Joined by merge.py: Open, OpenZ. -/
import Derived.Test.YtdpbhjaicgkblaaGreatDoorGBase
import Derived.Test.YtdpbhjaicgkblaaGreatDoorChecked
import Derived.HandedShaped
import Derived.ProofKit
import Derived.OpenShut
import Derived.Deep.Slices
import Derived.WalkSmall
import Derived.Lib.SmallJoins
import Derived.Test.YtdpbhjaicgkblaaGreatDoorGZa
/- Arguments opened to plain data: rules, lists of rules. -/
namespace Go.Proofs.YtdpbhjaicgkblaaGreatDoor
set_option linter.unusedSimpArgs false
set_option linter.unusedVariables false
open Go.ChangeShapes Go.WideShapes Go.ChangeAt Go.RowKit Go.Deep
def CellsAt (w : World) (a : Addr) (n : Nat) (c : List Value) : Prop := c.length = n ∧ ∀ j, j < n → w.cell? (a.add j) = c[j]?
def Tr (P : Program) (w : World) (t : TypeId) (cs : List Value) : Prop :=
 ∃ (H : Type) (enc : TypeId × Value → H) (base : Nat) (spare : Nat → Bool) (held : Bool) (fuel : Nat) (x : DataW H × List MemPlace), DataW.trod enc P w base spare held fuel t cs = some x
section
variable {P : Program} {w : World} {t : TypeId} {cs : List Value}
theorem Tr.of {H : Type} {enc : TypeId × Value → H} {base : Nat} {spare : Nat → Bool} {held : Bool} {v : Value} {d : DataW H} {ps : List MemPlace} (h : DataW.Trod enc P w base spare held t v d ps) : Tr P w t v.cells.toList := by
 obtain ⟨fuel, hf⟩ := h
 exact ⟨H, enc, base, spare, held, fuel, _, hf⟩
theorem Tr.int {k : IntKind} (ht : P.underlying t = some (.int k)) (h : Tr P w t cs) : ∃ n, cs = [.int k n] ∧ (Lit.int k n).wf = true := by
 obtain ⟨H, enc, base, spare, held, fuel, x, hx⟩ := h
 obtain ⟨n, h1, _, h2⟩ := DataW.trod_int ht hx
 exact ⟨n, h1, h2⟩
theorem Tr.string (ht : P.underlying t = some .string) (h : Tr P w t cs) : ∃ s, cs = [.string s] ∧ s.size ≤ maxLen := by
 obtain ⟨H, enc, base, spare, held, fuel, x, hx⟩ := h
 obtain ⟨n, h1, _, h2⟩ := DataW.trod_string ht hx
 exact ⟨n, h1, h2⟩
theorem Tr.struct {fs : Array Field} (ht : P.underlying t = some (.struct fs)) (h : Tr P w t cs) : cs.length = P.cellsOf t ∧ ∀ (i : Nat) (f : Field), fs[i]? = some f → Tr P w f.type ((cs.drop f.offset).take (P.cellsOf f.type)) := by
 obtain ⟨H, enc, base, spare, held, fuel, x, hx⟩ := h
 obtain ⟨xs, n, _, _, hl, hn, hf⟩ := DataW.trod_struct ht hx
 refine ⟨hl, fun i f hif => ?_⟩
 have hi : i < xs.length := by rw [hn]; exact (Array.getElem?_eq_some_iff.1 hif).1
 exact ⟨H, enc, base, spare, held, n, xs[i], (hf i f hif).trans (List.getElem?_eq_getElem hi)⟩
theorem Tr.slice {e : TypeId} (ht : P.underlying t = some (.slice e)) (h : Tr P w t cs) :
  cs = [.slice none 0 0] ∨ ∃ (a : Addr) (len cap : Nat), cs = [.slice (some a) len cap] ∧ len ≤ cap ∧ cap ≤ maxLen ∧ ∀ i, i < len → ∃ c, CellsAt w (a.add (i * P.cellsOf e)) (P.cellsOf e) c ∧ Tr P w e c := by
 obtain ⟨H, enc, base, spare, held, fuel, x, hx⟩ := h
 rcases open_slice ht hx with ⟨h0, _⟩ | ⟨a, len, cap, m, n, D, Pl, hcs, _, hl, hm, hmm, _, hi⟩
 ·exact .inl h0
 ·refine .inr ⟨a, len, cap, hcs, hl, hm, fun i hi' => ?_⟩
  have : i < m := by rw [hmm]; split <;> omega
  obtain ⟨c, h1, h2⟩ := hi i this
  exact ⟨c, (World.cells?_some h1).2, H, enc, base, spare, held, _, _, h2⟩
theorem Tr.rd {α : Type} [Inhabited α] {enc : α → List Value} {k : Nat} {e : TypeId} {v : Value} (ht : P.underlying t = some (.slice e)) (hk : P.cellsOf e = k) (hk0 : 0 < k) (hel : ∀ c, Tr P w e c → ∃ x, c = enc x) (h : Tr P w t [v]) :
  ∃ es, Rd enc k w v es ∧ es.length ≤ maxLen := by
 rcases h.slice ht with h0 | ⟨a, len, cap, hcs, hl, hm, hi⟩
 ·obtain rfl : v = .slice none 0 0 := by simpa using h0
  exact ⟨[], .inl ⟨rfl, none, 0, rfl⟩, by simp⟩
 ·obtain rfl : v = .slice (some a) len cap := by simpa using hcs
  by_cases h0 : len = 0
  ·subst h0; exact ⟨[], .inl ⟨rfl, _, _, rfl⟩, by simp⟩
  ·have hex : ∀ i, i < len → ∃ x, CellsAt w (a.add (i * k)) k (enc x) := fun i hi' => by
    obtain ⟨c, h1, h2⟩ := hi i hi'
    obtain ⟨x, rfl⟩ := hel c h2
    rw [hk] at h1
    exact ⟨x, h1⟩
   have hch : ∃ f : Nat → α, ∀ i, i < len → CellsAt w (a.add (i * k)) k (enc (f i)) :=
    ⟨fun i => if h : i < len then (hex i h).choose else default, fun i hi' => by simp only [hi', dif_pos]; exact (hex i hi').choose_spec⟩
   obtain ⟨f, hf⟩ := hch
   obtain ⟨b, off, spot⟩ := a
   have hlen : ∀ i, i < len → (enc (f i)).length = k := fun i hi' => (hf i hi').1
   have hcell0 := (hf 0 (by omega)).2 0 hk0
   have hl0 := hlen 0 (by omega)
   rw [List.getElem?_eq_getElem (by omega)] at hcell0
   have hspot : spot = none := by simpa [Addr.add] using World.cell?_spot hcell0
   subst hspot
   have hadd : ∀ x y : Nat, ((⟨b, off, none⟩ : Addr).add x).add y = ⟨b, off + x + y, none⟩ := fun x y => by
    unfold Addr.add
    by_cases hx : x = 0 <;> by_cases hy : y = 0 <;> simp [hx, hy]
   refine ⟨(List.range len).map f, .inr ⟨b, off, cap, by simp, ?_, fun j hj i u hu => ?_⟩, by simp; omega⟩
   ·rw [hadd] at hcell0
    rcases Nat.lt_or_ge b w.heap.size with h | h
    ·exact h
    ·rw [World.cell?] at hcell0; simp [Array.getElem?_eq_none h] at hcell0
   ·have hj' : j < len := by simpa using hj
    have e1 : ((List.range len).map f)[j]! = f j := by rw [getElem!_pos _ j hj]; simp
    rw [e1] at hu
    have hik : i < k := by rw [← hlen j hj']; exact (List.getElem?_eq_some_iff.1 hu).1
    have := (hf j hj').2 i hik
    rw [hadd, hu] at this
    exact this
end
theorem cellsInt : Tryz.prog.cellsOf 3 = 1 := by kernel_rfl
theorem cellsString : Tryz.prog.cellsOf 9 = 1 := by kernel_rfl
theorem own : ownKnob Tryz.prog.godebug = none := by kernel_rfl
theorem laidOut : laidOutB Tryz.prog = true := by kernel_rfl
end Go.Proofs.YtdpbhjaicgkblaaGreatDoor
/- A zone that comes in, opened to plain data. -/
namespace Go.Proofs.YtdpbhjaicgkblaaGreatDoor
set_option linter.unusedSimpArgs false
set_option linter.unusedVariables false
open Go.ChangeShapes Go.WideShapes Go.ChangeAt Go.RowKit Go.Deep
end Go.Proofs.YtdpbhjaicgkblaaGreatDoor

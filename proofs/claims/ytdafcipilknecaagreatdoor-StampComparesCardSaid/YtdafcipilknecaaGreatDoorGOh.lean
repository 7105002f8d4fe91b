/- Joined by merge.py: OpenPl, OpenHi. -/
import Derived.Test.YtdafcipilknecaaGreatDoorGOpen
import Derived.Test.YtdafcipilknecaaGreatDoorGStm
/- A policy read as data. -/
namespace Go.Proofs.YtdafcipilknecaaGreatDoor
set_option linter.unusedSimpArgs false
set_option linter.unusedVariables false
open Go.ChangeShapes Go.WideShapes Go.ChangeAt Go.RowKit
theorem cellsPol : Tryz.prog.cellsOf 26 = 2 := by kernel_rfl
set_option maxRecDepth 100000 in
theorem tr_policy {w : World} {cs : List Value} (h : Tr Tryz.prog w 26 cs) : ∃ a b : Int, cs = [.int .i64 a, .int .i64 b] := by
 obtain ⟨hl, hf⟩ := h.struct Tryz.underlying26
 rw [cellsPol] at hl
 match cs, hl with
 | [c0, c1], _ =>
  have f0 : Tr Tryz.prog w 3 (([c0, c1].drop 0).take (Tryz.prog.cellsOf 3)) := hf 0 _ rfl
  rw [cellsInt] at f0
  have f1 : Tr Tryz.prog w 3 (([c0, c1].drop 1).take (Tryz.prog.cellsOf 3)) := hf 1 _ rfl
  rw [cellsInt] at f1
  obtain ⟨a, e0, _⟩ := f0.int Tryz.underlying3
  obtain ⟨b, e1, _⟩ := f1.int Tryz.underlying3
  simp at e0 e1
  exact ⟨a, b, by rw [e0, e1]⟩
end Go.Proofs.YtdafcipilknecaaGreatDoor
/- Histories and stamps that come in, opened to plain data. -/
namespace Go.Proofs.YtdafcipilknecaaGreatDoor
set_option linter.unusedSimpArgs false
set_option linter.unusedVariables false
open Go.ChangeShapes Go.WideShapes Go.ChangeAt Go.RowKit Go.Deep
theorem Tr.rdQ {P : Program} {w : World} {t : TypeId} {α : Type} [Inhabited α] {enc : α → List Value} {Q : α → Prop} {k : Nat} {e : TypeId} {v : Value} (ht : P.underlying t = some (.slice e)) (hk : P.cellsOf e = k) (hk0 : 0 < k) (hel : ∀ c, Tr P w e c → ∃ x, c = enc x ∧ Q x) (h : Tr P w t [v]) :
  ∃ es, Rd enc k w v es ∧ ∀ x ∈ es, Q x := by
 rcases h.slice ht with h0 | ⟨a, len, cap, hcs, hl, hm, hi⟩
 ·obtain rfl : v = .slice none 0 0 := by simpa using h0
  exact ⟨[], .inl ⟨rfl, none, 0, rfl⟩, fun x hx => by cases hx⟩
 ·obtain rfl : v = .slice (some a) len cap := by simpa using hcs
  by_cases h0 : len = 0
  ·subst h0; exact ⟨[], .inl ⟨rfl, _, _, rfl⟩, fun x hx => by cases hx⟩
  ·have hex : ∀ i, i < len → ∃ x, CellsAt w (a.add (i * k)) k (enc x) ∧ Q x := fun i hi' => by
    obtain ⟨c, h1, h2⟩ := hi i hi'
    obtain ⟨x, rfl, hq⟩ := hel c h2
    rw [hk] at h1
    exact ⟨x, h1, hq⟩
   have hch : ∃ f : Nat → α, ∀ i, i < len → CellsAt w (a.add (i * k)) k (enc (f i)) ∧ Q (f i) :=
    ⟨fun i => if h : i < len then (hex i h).choose else default, fun i hi' => by simp only [hi', dif_pos]; exact (hex i hi').choose_spec⟩
   obtain ⟨f, hf⟩ := hch
   obtain ⟨b, off, spot⟩ := a
   have hlen : ∀ i, i < len → (enc (f i)).length = k := fun i hi' => (hf i hi').1.1
   have hcell0 := (hf 0 (by omega)).1.2 0 hk0
   have hl0 := hlen 0 (by omega)
   rw [List.getElem?_eq_getElem (by omega)] at hcell0
   have hspot : spot = none := by simpa [Addr.add] using World.cell?_spot hcell0
   subst hspot
   have hadd : ∀ x y : Nat, ((⟨b, off, none⟩ : Addr).add x).add y = ⟨b, off + x + y, none⟩ := fun x y => by
    unfold Addr.add
    by_cases hx : x = 0 <;> by_cases hy : y = 0 <;> simp [hx, hy]
   refine ⟨(List.range len).map f, .inr ⟨b, off, cap, by simp, ?_, fun j hj i u hu => ?_⟩, fun x hx => ?_⟩
   ·rw [hadd] at hcell0
    rcases Nat.lt_or_ge b w.heap.size with h | h
    ·exact h
    ·rw [World.cell?] at hcell0; simp [Array.getElem?_eq_none h] at hcell0
   ·have hj' : j < len := by simpa using hj
    have e1 : ((List.range len).map f)[j]! = f j := by rw [getElem!_pos _ j hj]; simp
    rw [e1] at hu
    have hik : i < k := by rw [← hlen j hj']; exact (List.getElem?_eq_some_iff.1 hu).1
    have := (hf j hj').1.2 i hik
    rw [hadd, hu] at this
    exact this
   ·obtain ⟨j, hj, rfl⟩ := List.mem_map.1 hx
    exact (hf j (List.mem_range.1 hj)).2
theorem cellsLink : Tryz.prog.cellsOf 74 = 2 := by kernel_rfl
theorem cellsVersion : Tryz.prog.cellsOf 67 = 3 := by kernel_rfl
theorem cellsZs : Tryz.prog.cellsOf 64 = 1 := by kernel_rfl
theorem cellsLs : Tryz.prog.cellsOf 65 = 1 := by kernel_rfl
theorem cellsHist : Tryz.prog.cellsOf 24 = 1 := by kernel_rfl
theorem cellsVs : Tryz.prog.cellsOf 22 = 1 := by kernel_rfl
set_option maxRecDepth 100000 in
theorem tr_link {w : World} {cs : List Value} (h : Tr Tryz.prog w 74 cs) : ∃ x : Lk, cs = encK x := by
 obtain ⟨hl, hf⟩ := h.struct Tryz.underlying74
 rw [cellsLink] at hl
 match cs, hl with
 | [c0, c1], _ =>
  have f0 : Tr Tryz.prog w 9 (([c0, c1].drop 0).take (Tryz.prog.cellsOf 9)) := hf 0 _ rfl
  rw [cellsString] at f0
  have f1 : Tr Tryz.prog w 9 (([c0, c1].drop 1).take (Tryz.prog.cellsOf 9)) := hf 1 _ rfl
  rw [cellsString] at f1
  obtain ⟨a, e0, _⟩ := f0.string Tryz.underlying9
  obtain ⟨b, e1, _⟩ := f1.string Tryz.underlying9
  simp at e0 e1
  exact ⟨⟨a, b⟩, by rw [e0, e1]; rfl⟩
theorem tr_zv {w : World} {cs : List Value} (h : Tr Tryz.prog w 48 cs) : ∃ x : ZV, cs = encZ x ∧ GoodZ w x := by
 obtain ⟨z, vT, vR, e, hT, hR⟩ := tr_zone h
 have hT' := hT
 have hR' := hR
 obtain ⟨A, c, rfl⟩ := rd_vf hT
 obtain ⟨A', c', rfl⟩ := rd_vf hR
 refine ⟨⟨z, _, _, ⟨A, c, rfl⟩, ⟨A', c', rfl⟩⟩, ?_, hT', hR'⟩
 have : cs.toArray = (z.cellsZ (.slice A z.table.length c) (.slice A' z.tail.length c')).toArray := by
  unfold Zn.v at e
  injection e
 exact List.toArray_inj this
set_option maxRecDepth 100000 in
theorem tr_version {w : World} {cs : List Value} (h : Tr Tryz.prog w 67 cs) : ∃ x : VV, cs = encVV x ∧ GoodV w x := by
 obtain ⟨hl, hf⟩ := h.struct Tryz.underlying67
 rw [cellsVersion] at hl
 match cs, hl with
 | [c0, c1, c2], _ =>
  have f0 : Tr Tryz.prog w 9 (([c0, c1, c2].drop 0).take (Tryz.prog.cellsOf 9)) := hf 0 _ rfl
  rw [cellsString] at f0
  have f1 : Tr Tryz.prog w 64 (([c0, c1, c2].drop 1).take (Tryz.prog.cellsOf 64)) := hf 1 _ rfl
  rw [cellsZs] at f1
  have f2 : Tr Tryz.prog w 65 (([c0, c1, c2].drop 2).take (Tryz.prog.cellsOf 65)) := hf 2 _ rfl
  rw [cellsLs] at f2
  obtain ⟨a, e0, _⟩ := f0.string Tryz.underlying9
  obtain ⟨zs, hz, hq⟩ := Tr.rdQ (enc := encZ) (Q := GoodZ w) Tryz.underlying64 cellsZone (by decide) (fun _ hc => tr_zv hc) (v := c1) (by simpa using f1)
  obtain ⟨ls, hls, _⟩ := Tr.rd (enc := encK) Tryz.underlying65 cellsLink (by decide) (fun _ hc => tr_link hc) (v := c2) (by simpa using f2)
  have hz' := hz
  have hls' := hls
  obtain ⟨A, c, rfl⟩ := rd_vf hz
  obtain ⟨A', c', rfl⟩ := rd_vf hls
  simp at e0
  exact ⟨⟨a, zs, ls, _, _, ⟨A, c, rfl⟩, ⟨A', c', rfl⟩⟩, by rw [e0]; rfl, hz', hq, hls'⟩
set_option maxRecDepth 100000 in
theorem tr_history {w : World} {cs : List Value} (h : Tr Tryz.prog w 24 cs) : ∃ (v : Value) (L : List VV), cs = [v] ∧ GoodH w v L := by
 obtain ⟨hl, hf⟩ := h.struct Tryz.underlying24
 rw [cellsHist] at hl
 match cs, hl with
 | [c0], _ =>
  have f0 : Tr Tryz.prog w 22 (([c0].drop 0).take (Tryz.prog.cellsOf 22)) := hf 0 _ rfl
  rw [cellsVs] at f0
  obtain ⟨L, hL, hq⟩ := Tr.rdQ (enc := encVV) (Q := GoodV w) Tryz.underlying22 cellsVersion (by decide) (fun _ hc => tr_version hc) (v := c0) (by simpa using f0)
  exact ⟨c0, L, rfl, hL, hq⟩
theorem cellsStamp : Tryz.prog.cellsOf 28 = 4 := by kernel_rfl
set_option maxRecDepth 100000 in
theorem tr_stamp {w : World} {cs : List Value} (h : Tr Tryz.prog w 28 cs) : ∃ s : Stm, cs = encStm s := by
 obtain ⟨hl, hf⟩ := h.struct Tryz.underlying28
 rw [cellsStamp] at hl
 match cs, hl with
 | [c0, c1, c2, c3], _ =>
  have f0 : Tr Tryz.prog w 3 (([c0, c1, c2, c3].drop 0).take (Tryz.prog.cellsOf 3)) := hf 0 _ rfl
  rw [cellsInt] at f0
  have f1 : Tr Tryz.prog w 9 (([c0, c1, c2, c3].drop 1).take (Tryz.prog.cellsOf 9)) := hf 1 _ rfl
  rw [cellsString] at f1
  have f2 : Tr Tryz.prog w 26 (([c0, c1, c2, c3].drop 2).take (Tryz.prog.cellsOf 26)) := hf 2 _ rfl
  rw [cellsPol] at f2
  obtain ⟨a, e0, _⟩ := f0.int Tryz.underlying3
  obtain ⟨b, e1, _⟩ := f1.string Tryz.underlying9
  obtain ⟨x, y, e2⟩ := tr_policy f2
  simp at e0 e1 e2
  exact ⟨⟨a, b, x, y⟩, by rw [e0, e1, e2.1, e2.2]; rfl⟩
end Go.Proofs.YtdafcipilknecaaGreatDoor

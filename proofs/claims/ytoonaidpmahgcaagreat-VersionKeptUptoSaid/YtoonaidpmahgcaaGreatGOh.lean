/- Joined by merge.py: BulkZ, OpenPl, OpenH, OpenHB. -/
import Derived.Test.YtoonaidpmahgcaaGreatGOpen
import Derived.Test.YtoonaidpmahgcaaGreatRows
import Derived.Test.YtoonaidpmahgcaaGreatGStm
/- A zone of bounded bulk has a short format. -/
namespace Go.Proofs.YtoonaidpmahgcaaGreat
set_option linter.unusedSimpArgs false
set_option linter.unusedVariables false
open Go.ChangeShapes Go.WideShapes Go.ChangeAt Go.RowKit Go.Deep

theorem bulk_part {H : Type} {d : DataW H} {l : List (DataW H)} (h : d ∈ l) : Rows.uptoBulk d ≤ Rows.uptoBulkAll l := by
  induction l with
  | nil => cases h
  | cons x r ih =>
    rw [Rows.uptoBulkAll]
    rcases List.mem_cons.1 h with e | e
    · subst e; omega
    · have := ih e; omega
theorem bulk_le {H : Type} {l : List (DataW H)} (hk : Rows.uptoSmall H l = true) {d : DataW H} (hd : d ∈ l) : Rows.uptoBulk d ≤ 1048576 := by
  have h : Rows.uptoBulkAll l ≤ 1048576 := of_decide_eq_true hk
  exact Nat.le_trans (bulk_part hd) h

end Go.Proofs.YtoonaidpmahgcaaGreat

/- A policy read as data. -/
namespace Go.Proofs.YtoonaidpmahgcaaGreat
set_option linter.unusedSimpArgs false
set_option linter.unusedVariables false
open Go.ChangeShapes Go.WideShapes Go.ChangeAt Go.RowKit

end Go.Proofs.YtoonaidpmahgcaaGreat

/- Histories, entries and stamps that come in, opened to plain data. -/
namespace Go.Proofs.YtoonaidpmahgcaaGreat
set_option linter.unusedSimpArgs false
set_option linter.unusedVariables false
open Go.ChangeShapes Go.WideShapes Go.ChangeAt Go.RowKit Go.Deep

/-- a slice that came in reads as a list, each of whose elements has a property -/
theorem Tr.rdQ {P : Program} {w : World} {t : TypeId} {α : Type} [Inhabited α] {enc : α → List Value} {Q : α → Prop} {k : Nat} {e : TypeId} {v : Value} (ht : P.underlying t = some (.slice e)) (hk : P.cellsOf e = k) (hk0 : 0 < k) (hel : ∀ c, Tr P w e c → ∃ x, c = enc x ∧ Q x) (h : Tr P w t [v]) :
    ∃ es, Rd enc k w v es ∧ ∀ x ∈ es, Q x := by
  rcases h.slice ht with h0 | ⟨a, len, cap, hcs, hl, hm, hi⟩
  · obtain rfl : v = .slice none 0 0 := by simpa using h0
    exact ⟨[], .inl ⟨rfl, none, 0, rfl⟩, fun x hx => by cases hx⟩
  · obtain rfl : v = .slice (some a) len cap := by simpa using hcs
    by_cases h0 : len = 0
    · subst h0; exact ⟨[], .inl ⟨rfl, _, _, rfl⟩, fun x hx => by cases hx⟩
    · have hex : ∀ i, i < len → ∃ x, CellsAt w (a.add (i * k)) k (enc x) ∧ Q x := fun i hi' => by
        obtain ⟨c, h1, h2⟩ := hi i hi'
        obtain ⟨x, rfl, hq⟩ := hel c h2
        rw [hk] at h1
        exact ⟨x, h1, hq⟩
      have hch : ∃ f : Nat → α, ∀ i, i < len → CellsAt w (a.add (i * k)) k (enc (f i)) ∧ Q (f i) :=
        ⟨fun i => if h : i < len then (hex i h).choose else default, fun i hi' => by simp only [hi', dif_pos]; exact (hex i hi').choose_spec⟩
      obtain ⟨f, hf⟩ := hch
      obtain ⟨b, off, spot⟩ := a
      have hlen : ∀ i, i < len → (enc (f i)).length = k := fun i hi' => (hf i hi').1.1
      have hcell0 := (hf 0 (by omega)).1.2 0 hk0
      have hl0 := hlen 0 (by omega)
      rw [List.getElem?_eq_getElem (by omega)] at hcell0
      have hspot : spot = none := by simpa [Addr.add] using World.cell?_spot hcell0
      subst hspot
      have hadd : ∀ x y : Nat, ((⟨b, off, none⟩ : Addr).add x).add y = ⟨b, off + x + y, none⟩ := fun x y => by
        unfold Addr.add
        by_cases hx : x = 0 <;> by_cases hy : y = 0 <;> simp [hx, hy]
      refine ⟨(List.range len).map f, .inr ⟨b, off, cap, by simp, ?_, fun j hj i u hu => ?_⟩, fun x hx => ?_⟩
      · rw [hadd] at hcell0
        rcases Nat.lt_or_ge b w.heap.size with h | h
        · exact h
        · rw [World.cell?] at hcell0; simp [Array.getElem?_eq_none h] at hcell0
      · have hj' : j < len := by simpa using hj
        have e1 : ((List.range len).map f)[j]! = f j := by rw [getElem!_pos _ j hj]; simp
        rw [e1] at hu
        have hik : i < k := by rw [← hlen j hj']; exact (List.getElem?_eq_some_iff.1 hu).1
        have := (hf j hj').1.2 i hik
        rw [hadd, hu] at this
        exact this
      · obtain ⟨j, hj, rfl⟩ := List.mem_map.1 hx
        exact (hf j (List.mem_range.1 hj)).2
theorem cellsLink : Tryz.prog.cellsOf 153 = 2 := by kernel_rfl
theorem cellsVersion : Tryz.prog.cellsOf 150 = 3 := by kernel_rfl
theorem cellsZs : Tryz.prog.cellsOf 108 = 1 := by kernel_rfl
theorem cellsLs : Tryz.prog.cellsOf 148 = 1 := by kernel_rfl
theorem cellsHist : Tryz.prog.cellsOf 58 = 1 := by kernel_rfl
theorem cellsVs : Tryz.prog.cellsOf 56 = 1 := by kernel_rfl
set_option maxRecDepth 100000 in
theorem tr_link {w : World} {cs : List Value} (h : Tr Tryz.prog w 153 cs) : ∃ x : Lk, cs = encK x := by
  obtain ⟨hl, hf⟩ := h.struct Tryz.underlying153
  rw [cellsLink] at hl
  match cs, hl with
  | [c0, c1], _ =>
    have f0 : Tr Tryz.prog w 9 (([c0, c1].drop 0).take (Tryz.prog.cellsOf 9)) := hf 0 _ rfl
    rw [cellsString] at f0
    have f1 : Tr Tryz.prog w 9 (([c0, c1].drop 1).take (Tryz.prog.cellsOf 9)) := hf 1 _ rfl
    rw [cellsString] at f1
    obtain ⟨a, e0, _⟩ := f0.string Tryz.underlying9
    obtain ⟨b, e1, _⟩ := f1.string Tryz.underlying9
    simp at e0 e1
    exact ⟨⟨a, b⟩, by rw [e0, e1]; rfl⟩
theorem tr_zv {w : World} {cs : List Value} (h : Tr Tryz.prog w 27 cs) : ∃ x : ZV, cs = encZ x ∧ GoodZ w x := by
  obtain ⟨z, vT, vR, e, hT, hR⟩ := tr_zone h
  have hT' := hT
  have hR' := hR
  obtain ⟨A, c, rfl⟩ := rd_vf hT
  obtain ⟨A', c', rfl⟩ := rd_vf hR
  refine ⟨⟨z, _, _, ⟨A, c, rfl⟩, ⟨A', c', rfl⟩⟩, ?_, hT', hR'⟩
  have : cs.toArray = (z.cellsZ (.slice A z.table.length c) (.slice A' z.tail.length c')).toArray := by
    unfold Zn.v at e
    injection e
  exact List.toArray_inj this
end Go.Proofs.YtoonaidpmahgcaaGreat

/- A history of bounded bulk: opened to plain data, with short formats. -/
namespace Go.Proofs.YtoonaidpmahgcaaGreat
set_option linter.unusedSimpArgs false
set_option linter.unusedVariables false
open Go.ChangeShapes Go.WideShapes Go.ChangeAt Go.RowKit Go.Deep

def TrB (N : Nat) (w : World) (t : TypeId) (cs : List Value) : Prop :=
  ∃ (H : Type) (enc : TypeId × Value → H) (base : Nat) (spare : Nat → Bool) (held : Bool) (fuel : Nat) (x : DataW H × List MemPlace), DataW.trod enc Tryz.prog w base spare held fuel t cs = some x ∧ Rows.uptoBulk x.1 ≤ N
section
variable {N : Nat} {w : World} {t : TypeId} {cs : List Value}
theorem TrB.tr (h : TrB N w t cs) : Tr Tryz.prog w t cs := by
  obtain ⟨H, enc, base, spare, held, fuel, x, hx, _⟩ := h
  exact ⟨H, enc, base, spare, held, fuel, x, hx⟩
theorem TrB.of {H : Type} {enc : TypeId × Value → H} {base : Nat} {spare : Nat → Bool} {held : Bool} {v : Value} {d : DataW H} {ps : List MemPlace} (h : DataW.Trod enc Tryz.prog w base spare held t v d ps) (hb : Rows.uptoBulk d ≤ N) : TrB N w t v.cells.toList := by
  obtain ⟨fuel, hf⟩ := h
  exact ⟨H, enc, base, spare, held, fuel, _, hf, hb⟩
theorem TrB.string (ht : Tryz.prog.underlying t = some .string) (h : TrB N w t cs) : ∃ s, cs = [.string s] ∧ s.size ≤ N := by
  obtain ⟨H, enc, base, spare, held, fuel, x, hx, hb⟩ := h
  obtain ⟨s, e1, e2, _⟩ := DataW.trod_string ht hx
  refine ⟨s, e1, ?_⟩
  rw [e2] at hb
  rw [show Rows.uptoBulk (DataW.lit (.string s.data.toList) : DataW H) = s.data.toList.length + 1 by rw [Rows.uptoBulk]] at hb
  have h3 : s.data.toList.length = s.size := by rw [Array.length_toList]; rfl
  omega
theorem TrB.struct {fs : Array Field} (ht : Tryz.prog.underlying t = some (.struct fs)) (h : TrB N w t cs) : cs.length = Tryz.prog.cellsOf t ∧ ∀ (i : Nat) (f : Field), fs[i]? = some f → TrB N w f.type ((cs.drop f.offset).take (Tryz.prog.cellsOf f.type)) := by
  obtain ⟨H, enc, base, spare, held, fuel, x, hx, hb⟩ := h
  obtain ⟨xs, n, _, hx2, hl, hn, hf⟩ := DataW.trod_struct ht hx
  refine ⟨hl, fun i f hif => ?_⟩
  have hi : i < xs.length := by rw [hn]; exact (Array.getElem?_eq_some_iff.1 hif).1
  refine ⟨H, enc, base, spare, held, n, xs[i], (hf i f hif).trans (List.getElem?_eq_getElem hi), ?_⟩
  have hm : xs[i].1 ∈ xs.map (·.1) := List.mem_map.2 ⟨xs[i], List.getElem_mem hi, rfl⟩
  have h1 := bulk_part hm
  rw [hx2] at hb
  have h2 : Rows.uptoBulk (.agg (xs.map (·.1)) : DataW H) = Rows.uptoBulkAll (xs.map (·.1)) + 1 := by rw [Rows.uptoBulk]
  have hb : Rows.uptoBulk (.agg (xs.map (·.1)) : DataW H) ≤ N := hb
  omega
theorem TrB.slice {e : TypeId} (ht : Tryz.prog.underlying t = some (.slice e)) (h : TrB N w t cs) :
    cs = [.slice none 0 0] ∨ ∃ (a : Addr) (len cap : Nat), cs = [.slice (some a) len cap] ∧ len ≤ cap ∧ cap ≤ maxLen ∧ ∀ i, i < len → ∃ c, CellsAt w (a.add (i * Tryz.prog.cellsOf e)) (Tryz.prog.cellsOf e) c ∧ TrB N w e c := by
  obtain ⟨H, enc, base, spare, held, fuel, x, hx, hb⟩ := h
  rcases DataW.trod_slice ht hx with ⟨h0, _⟩ | ⟨a, len, cap, elems, rest, n, _, hcs, hx2, _, hl, hm, hel, hi, _⟩
  · exact .inl h0
  · refine .inr ⟨a, len, cap, hcs, hl, hm, fun i hi' => ?_⟩
    have hlt : i < elems.length := by omega
    have h1 := hi i hi'
    rw [List.getElem?_eq_getElem hlt, Option.bind_eq_some_iff] at h1
    obtain ⟨c, h1, h2⟩ := h1
    refine ⟨c, (World.cells?_some h1).2, H, enc, base, spare, held, n, elems[i], h2, ?_⟩
    have hm : elems[i].1 ∈ elems.map (·.1) := List.mem_map.2 ⟨elems[i], List.getElem_mem hlt, rfl⟩
    have h3 := bulk_part hm
    rw [hx2] at hb
    have h4 : Rows.uptoBulk (.slice (elems.map (·.1)) (rest.map (·.1)) : DataW H) = Rows.uptoBulkAll (elems.map (·.1)) + Rows.uptoBulkAll (rest.map (·.1)) + 1 := by rw [Rows.uptoBulk]
    have hb : Rows.uptoBulk (.slice (elems.map (·.1)) (rest.map (·.1)) : DataW H) ≤ N := hb
    omega
end
theorem TrB.rdQ {N : Nat} {w : World} {t : TypeId} {α : Type} [Inhabited α] {enc : α → List Value} {Q : α → Prop} {k : Nat} {e : TypeId} {v : Value} (ht : Tryz.prog.underlying t = some (.slice e)) (hk : Tryz.prog.cellsOf e = k) (hk0 : 0 < k) (hel : ∀ c, TrB N w e c → ∃ x, c = enc x ∧ Q x) (h : TrB N w t [v]) :
    ∃ es, Rd enc k w v es ∧ ∀ x ∈ es, Q x := by
  rcases h.slice ht with h0 | ⟨a, len, cap, hcs, hl, hm, hi⟩
  · obtain rfl : v = .slice none 0 0 := by simpa using h0
    exact ⟨[], .inl ⟨rfl, none, 0, rfl⟩, fun x hx => by cases hx⟩
  · obtain rfl : v = .slice (some a) len cap := by simpa using hcs
    by_cases h0 : len = 0
    · subst h0; exact ⟨[], .inl ⟨rfl, _, _, rfl⟩, fun x hx => by cases hx⟩
    · have hex : ∀ i, i < len → ∃ x, CellsAt w (a.add (i * k)) k (enc x) ∧ Q x := fun i hi' => by
        obtain ⟨c, h1, h2⟩ := hi i hi'
        obtain ⟨x, rfl, hq⟩ := hel c h2
        rw [hk] at h1
        exact ⟨x, h1, hq⟩
      have hch : ∃ f : Nat → α, ∀ i, i < len → CellsAt w (a.add (i * k)) k (enc (f i)) ∧ Q (f i) :=
        ⟨fun i => if h : i < len then (hex i h).choose else default, fun i hi' => by simp only [hi', dif_pos]; exact (hex i hi').choose_spec⟩
      obtain ⟨f, hf⟩ := hch
      obtain ⟨b, off, spot⟩ := a
      have hlen : ∀ i, i < len → (enc (f i)).length = k := fun i hi' => (hf i hi').1.1
      have hcell0 := (hf 0 (by omega)).1.2 0 hk0
      have hl0 := hlen 0 (by omega)
      rw [List.getElem?_eq_getElem (by omega)] at hcell0
      have hspot : spot = none := by simpa [Addr.add] using World.cell?_spot hcell0
      subst hspot
      have hadd : ∀ x y : Nat, ((⟨b, off, none⟩ : Addr).add x).add y = ⟨b, off + x + y, none⟩ := fun x y => by
        unfold Addr.add
        by_cases hx : x = 0 <;> by_cases hy : y = 0 <;> simp [hx, hy]
      refine ⟨(List.range len).map f, .inr ⟨b, off, cap, by simp, ?_, fun j hj i u hu => ?_⟩, fun x hx => ?_⟩
      · rw [hadd] at hcell0
        rcases Nat.lt_or_ge b w.heap.size with h | h
        · exact h
        · rw [World.cell?] at hcell0; simp [Array.getElem?_eq_none h] at hcell0
      · have hj' : j < len := by simpa using hj
        have e1 : ((List.range len).map f)[j]! = f j := by rw [getElem!_pos _ j hj]; simp
        rw [e1] at hu
        have hik : i < k := by rw [← hlen j hj']; exact (List.getElem?_eq_some_iff.1 hu).1
        have := (hf j hj').1.2 i hik
        rw [hadd, hu] at this
        exact this
      · obtain ⟨j, hj, rfl⟩ := List.mem_map.1 hx
        exact (hf j (List.mem_range.1 hj)).2
set_option maxRecDepth 100000 in
theorem trB_zv {N : Nat} {w : World} {cs : List Value} (h : TrB N w 27 cs) : ∃ x : ZV, cs = encZ x ∧ GoodZ w x ∧ x.z.form.size ≤ N := by
  obtain ⟨x, rfl, hg⟩ := tr_zv h.tr
  refine ⟨x, rfl, hg, ?_⟩
  have h5 := (h.struct Tryz.underlying27).2 5 _ rfl
  obtain ⟨s, e1, e2⟩ := h5.string Tryz.underlying9
  have e : ((encZ x).drop 7).take (Tryz.prog.cellsOf 9) = [.string x.z.form] := by rw [cellsString]; rfl
  have e3 : [Value.string x.z.form] = [.string s] := e.symm.trans e1
  have e4 : x.z.form = s := by simpa using e3
  rw [e4]
  exact e2
set_option maxRecDepth 100000 in
theorem trB_version {N : Nat} {w : World} {cs : List Value} (h : TrB N w 150 cs) : ∃ x : VV, cs = encVV x ∧ GoodV w x ∧ ∀ y ∈ x.zs, y.z.form.size ≤ N := by
  obtain ⟨hl, hf⟩ := h.struct Tryz.underlying150
  rw [cellsVersion] at hl
  match cs, hl with
  | [c0, c1, c2], _ =>
    have f0 : TrB N w 9 (([c0, c1, c2].drop 0).take (Tryz.prog.cellsOf 9)) := hf 0 _ rfl
    rw [cellsString] at f0
    have f1 : TrB N w 108 (([c0, c1, c2].drop 1).take (Tryz.prog.cellsOf 108)) := hf 1 _ rfl
    rw [cellsZs] at f1
    have f2 : TrB N w 148 (([c0, c1, c2].drop 2).take (Tryz.prog.cellsOf 148)) := hf 2 _ rfl
    rw [cellsLs] at f2
    obtain ⟨a, e0, _⟩ := f0.tr.string Tryz.underlying9
    obtain ⟨zs, hz, hq⟩ := TrB.rdQ (enc := encZ) (Q := fun y => GoodZ w y ∧ y.z.form.size ≤ N) Tryz.underlying108 cellsZone (by decide) (fun _ hc => trB_zv hc) (v := c1) (by simpa using f1)
    obtain ⟨ls, hls, _⟩ := Tr.rd (enc := encK) Tryz.underlying148 cellsLink (by decide) (fun _ hc => tr_link hc) (v := c2) (by simpa using f2.tr)
    have hz' := hz
    have hls' := hls
    obtain ⟨A, c, rfl⟩ := rd_vf hz
    obtain ⟨A', c', rfl⟩ := rd_vf hls
    simp at e0
    exact ⟨⟨a, zs, ls, _, _, ⟨A, c, rfl⟩, ⟨A', c', rfl⟩⟩, by rw [e0]; rfl, ⟨hz', fun y hy => (hq y hy).1, hls'⟩, fun y hy => (hq y hy).2⟩
set_option maxRecDepth 100000 in
theorem trB_history {N : Nat} {w : World} {cs : List Value} (h : TrB N w 58 cs) : ∃ (v : Value) (L : List VV), cs = [v] ∧ GoodH w v L ∧ ∀ x ∈ L, ∀ y ∈ x.zs, y.z.form.size ≤ N := by
  obtain ⟨hl, hf⟩ := h.struct Tryz.underlying58
  rw [cellsHist] at hl
  match cs, hl with
  | [c0], _ =>
    have f0 : TrB N w 56 (([c0].drop 0).take (Tryz.prog.cellsOf 56)) := hf 0 _ rfl
    rw [cellsVs] at f0
    obtain ⟨L, hL, hq⟩ := TrB.rdQ (enc := encVV) (Q := fun x => GoodV w x ∧ ∀ y ∈ x.zs, y.z.form.size ≤ N) Tryz.underlying56 cellsVersion (by decide) (fun _ hc => trB_version hc) (v := c0) (by simpa using f0)
    exact ⟨c0, L, rfl, ⟨hL, fun x hx => (hq x hx).1⟩, fun x hx => (hq x hx).2⟩

end Go.Proofs.YtoonaidpmahgcaaGreat

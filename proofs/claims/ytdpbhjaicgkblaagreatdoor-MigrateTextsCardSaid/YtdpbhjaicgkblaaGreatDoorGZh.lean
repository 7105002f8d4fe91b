/- Joined by merge.py: ZoneW6, ZoneW7, ZoneW8. -/
import Derived.Test.YtdpbhjaicgkblaaGreatDoorGZe
/- zone.Valid. -/
namespace Go.Proofs.YtdpbhjaicgkblaaGreatDoor
set_option linter.unusedSimpArgs false
set_option linter.unusedVariables false
open Go.ChangeShapes Go.WideShapes Go.ChangeAt Go.RowKit
theorem eqTy (a b : Typ) (w : World) : (binOp .eql 61 (.agg #[.int .i64 a.off, .int .i64 a.sv, .string a.nm]) (.agg #[.int .i64 b.off, .int .i64 b.sv, .string b.nm])).run Tryz.prog w = .ok (.bool (decide (a = b))) w := by
 have u3 := Tryz.underlying3
 have u9 := Tryz.underlying9
 have hS : Tryz.prog.underlying 61 = some (.struct (Tryz.prog.fieldsOf 61)) := by kernel_rfl
 have hp : Tryz.prog.stoodInHeld 61 = false := by kernel_rfl
 have a3 : ∀ w, (isAgg 3).run Tryz.prog w = .ok false w := fun w => by kernel_rfl
 have z3 : ∀ w, (Go.sizeOf 3).run Tryz.prog w = .ok 1 w := fun w => by kernel_rfl
 have a9 : ∀ w, (isAgg 9).run Tryz.prog w = .ok false w := fun w => by kernel_rfl
 have z9 : ∀ w, (Go.sizeOf 9).run Tryz.prog w = .ok 1 w := fun w => by kernel_rfl
 rw [run_eql_struct, show (10000 : Nat) = 9999 + 1 from rfl, run_equalIn_agg w 9999 61 _ _ hS hp]
 simp only [Program.fieldsOf, Tryz.underlying61]
 go_simp
 have hb : (a.nm = b.nm) ↔ (a.nm.toList = b.nm.toList) := ⟨fun h => by rw [h], fun h => by
  rw [Lib.toList_data, Lib.toList_data] at h
  exact ByteArray.ext (Array.toList_inj.1 h)⟩
 have hd : decide (a = b) = (decide (a.off = b.off) && (decide (a.sv = b.sv) && decide (a.nm.toList = b.nm.toList))) := by
  rw [Bool.eq_iff_iff]
  simp [Typ.ext_iff', hb]
 rw [hd]
 by_cases h1 : a.off = b.off <;> by_cases h2 : a.sv = b.sv <;> by_cases h3 : a.nm.toList = b.nm.toList <;> simp [h1, h2, h3]
theorem tab_cons {a : Int} {b : Typ} {l : List Trn} {k : Nat} (h : k < l.length) : tabB a b (l.drop k) = ((decide (a < (l[k]!).at_) && (decide ((l[k]!).at_ < 253402300800) && (typB (l[k]!).ty && decide ((l[k]!).ty ≠ b)))) && tabB (l[k]!).at_ (l[k]!).ty (l.drop (k + 1))) := by
 rw [List.drop_eq_getElem_cons h, tabB, getElem!_pos l k h]
set_option maxRecDepth 100000 in
set_option maxHeartbeats 8000000 in
theorem Valid_zone (z : Zn) (vT vR : Value) (w : World) (hm : HasMax w) (hT : Rd Trn.cells 4 w vT z.table) (hR : Rd Rule.cells 11 w vR z.tail) (hfs : z.form.size < 4294967281) (hll : z.tail.length ≤ 12 ∨ 100 < z.tail.length) :
  Calls Tryz.prog 99 #[z.v vT vR] w fun e w' => e = .returned (.bool z.valid) ∧ Below w.heap.size w w' := by
 have hV : z.valid = (z.headB && z.tailB) := rfl
 have hH : z.headB = (Cv.nameZ z.nm && (typB z.first && (decide (z.table.length ≤ 1000) && tabB (-62135596800) z.first z.table))) := rfl
 obtain ⟨B, hB⟩ : ∃ B, z.valid = B := ⟨_, rfl⟩
 rw [hB]
 have HB := Lib.hid hB
 have HTT := Lib.hid hT
 have HRR := Lib.hid hR
 have HM := Lib.hid hm
 have HN := Lib.hid (fun W => zoneName z.nm W)
 have HY := Lib.hid (fun W => typed_any z.first W)
 obtain ⟨AT, cT, rfl⟩ := rd_vf hT
 obtain ⟨AR, cR, rfl⟩ := rd_vf hR
 have hzc := alloc_cells w [.string z.nm, .int .i64 z.first.off, .int .i64 z.first.sv, .string z.first.nm, .slice AT z.table.length cT, .slice AR z.tail.length cR, .int .i64 z.off, .string z.form, .int .i64 z.year] 65
 have hbz : Below w.heap.size w (w.alloc (.cells #[.string z.nm, .int .i64 z.first.off, .int .i64 z.first.sv, .string z.first.nm, .slice AT z.table.length cT, .slice AR z.tail.length cR, .int .i64 z.off, .string z.form, .int .i64 z.year] 65)) := (Below.refl _ _).alloc (Nat.le_refl _) _
 have hszz : w.heap.size < (w.alloc (.cells #[.string z.nm, .int .i64 z.first.off, .int .i64 z.first.sv, .string z.first.nm, .slice AT z.table.length cT, .slice AR z.tail.length cR, .int .i64 z.off, .string z.form, .int .i64 z.year] 65)).heap.size := by simp
 have HZC := Lib.hid hzc
 have HBZ := Lib.hid hbz
 clear hT hR hm hzc hbz hB
 cases hn : Cv.nameZ z.nm
 ·have hB0 : false = B := by rw [← HB.out, hV, hH, hn]; rfl
  rw [hn] at HN
  have HB0 := Lib.hid hB0
  clear hn hB0 hV hH
  unfold Zn.v
  go_enter Tryz.func99, Tryz.ntmps99
  go_wp2_with (go_at_call 62; refine (HN.out _).mono ?_; rintro e w1 ⟨rfl, rfl⟩)
  go_ret
  exact ⟨ret1 (vbool HB0.out), HBZ.out⟩
 rw [hn] at HN
 cases ht : typB z.first
 ·have hB0 : false = B := by rw [← HB.out, hV, hH, hn, ht]; rfl
  rw [ht] at HY
  have HB0 := Lib.hid hB0
  clear hn hB0 hV hH ht
  unfold Zn.v
  go_enter Tryz.func99, Tryz.ntmps99
  go_wp2_with (first | (go_at_call 62; refine (HN.out _).mono ?_; rintro e w1 ⟨rfl, rfl⟩) | (go_at_call 106; refine (HY.out _).mono ?_; rintro e w2 ⟨rfl, hb2⟩))
  go_ret
  exact ⟨ret1 (vbool HB0.out), HBZ.out.trans (hb2.mono (Nat.le_of_lt hszz))⟩
 rw [ht] at HY
 by_cases hl1 : z.table.length ≤ 1000
 ·have HBV := Lib.hid (show B = (tabB (-62135596800) z.first z.table && z.tailB) by rw [← HB.out, hV, hH, hn, ht, decide_eq_true hl1]; rfl)
  have HHD := Lib.hid (fun h : tabB (-62135596800) z.first z.table = true => show z.headB = true by rw [hH, hn, ht, decide_eq_true hl1, h]; rfl)
  have hd : decide ((1000 : Int) < (z.table.length : Int)) = false := decide_eq_false (by omega)
  clear hn hV hH ht HB
  unfold Zn.v
  go_enter Tryz.func99, Tryz.ntmps99
  go_wp2_with (first | (go_at_call 62; refine (HN.out _).mono ?_; rintro e w1 ⟨rfl, rfl⟩) | (go_at_call 106; refine (HY.out _).mono ?_; rintro e w2 ⟨rfl, hb2⟩; have x1 := (hb2.cell (p := ⟨w.heap.size, 1, none⟩) hszz).trans (HZC.out 1 _ rfl); have x2 := (hb2.cell (p := ⟨w.heap.size, 2, none⟩) hszz).trans (HZC.out 2 _ rfl); have x3 := (hb2.cell (p := ⟨w.heap.size, 3, none⟩) hszz).trans (HZC.out 3 _ rfl); have x4 := (hb2.cell (p := ⟨w.heap.size, 4, none⟩) hszz).trans (HZC.out 4 _ rfl)))
  have hB2 : Below w.heap.size w w2 := HBZ.out.trans (hb2.mono (Nat.le_of_lt hszz))
  have hsz2 : w.heap.size < w2.heap.size := Nat.lt_of_lt_of_le hszz hb2.size
  have Z2 := Lib.hid (fun i u h => (hb2.cell (p := ⟨w.heap.size, i, none⟩) hszz).trans (HZC.out i u h))
  go_region
  have hbW : Below w2.heap.size w2 (w2.alloc (.cells #[.int .i64 z.first.off, .int .i64 z.first.sv, .string z.first.nm] 61)).drew := ((Below.refl _ _).alloc (Nat.le_refl _) _).trans (below_drewN (Below.refl _ _) 1)
  have q0 : (w2.alloc (.cells #[.int .i64 z.first.off, .int .i64 z.first.sv, .string z.first.nm] 61)).drew.cell? ⟨w2.heap.size, 0, none⟩ = some (.int .i64 z.first.off) := alloc_cells w2 [.int .i64 z.first.off, .int .i64 z.first.sv, .string z.first.nm] 61 0 _ rfl
  have q1 : (w2.alloc (.cells #[.int .i64 z.first.off, .int .i64 z.first.sv, .string z.first.nm] 61)).drew.cell? ⟨w2.heap.size, 1, none⟩ = some (.int .i64 z.first.sv) := alloc_cells w2 [.int .i64 z.first.off, .int .i64 z.first.sv, .string z.first.nm] 61 1 _ rfl
  have q2 : (w2.alloc (.cells #[.int .i64 z.first.off, .int .i64 z.first.sv, .string z.first.nm] 61)).drew.cell? ⟨w2.heap.size, 2, none⟩ = some (.string z.first.nm) := alloc_cells w2 [.int .i64 z.first.off, .int .i64 z.first.sv, .string z.first.nm] 61 2 _ rfl
  have f0 : ∀ i, (w2.alloc (.cells #[.int .i64 z.first.off, .int .i64 z.first.sv, .string z.first.nm] 61)).drew.frozen? ⟨w2.heap.size, i, none⟩ = false := fun i => alloc_frozen w2 _ _ i
  have hqW : w2.heap.size < (w2.alloc (.cells #[.int .i64 z.first.off, .int .i64 z.first.sv, .string z.first.nm] 61)).drew.heap.size := by simp [World.drew]
  have HF0 := Lib.hid f0
  generalize (w2.alloc (.cells #[.int .i64 z.first.off, .int .i64 z.first.sv, .string z.first.nm] 61)).drew = W at *
  obtain ⟨q, hq⟩ : ∃ q, q = w2.heap.size := ⟨_, rfl⟩
  have x4 : W.cell? ⟨w.heap.size, 4, none⟩ = some (.slice AT z.table.length cT) := (hbW.cell (p := ⟨w.heap.size, 4, none⟩) hsz2).trans (Z2.out 4 _ rfl)
  rw [← hq] at q0 q1 q2 HF0 hqW ⊢
  have hq2 : w2.heap.size ≤ q := Nat.le_of_eq hq.symm
  clear f0 x1 x2 x3 hq
  go_wp2
  go_loopw [3, 28] (fun v3 i wr => ∃ (k : Nat) (a : Int) (b : Typ), k ≤ z.table.length ∧ i = .int .i64 k ∧ v3 = .int .i64 a ∧ Below w2.heap.size w2 wr ∧ q < wr.heap.size ∧ wr.cell? ⟨q, 0, none⟩ = some (.int .i64 b.off) ∧ wr.cell? ⟨q, 1, none⟩ = some (.int .i64 b.sv) ∧ wr.cell? ⟨q, 2, none⟩ = some (.string b.nm) ∧ Hid (∀ i, wr.frozen? ⟨q, i, none⟩ = false) ∧ Hid (tabB (-62135596800) z.first z.table = tabB a b (z.table.drop k))) (fun _ i _ => z.table.length - (intOf i).toNat)
  case atStart => exact ⟨0, _, z.first, Nat.zero_le _, rfl, rfl, hbW, hqW, q0, q1, q2, HF0, Lib.hid rfl⟩
  case round =>
   obtain ⟨k, a, b, hk, rfl, rfl, hbr, hqr, p0, p1, p2, HFz, HTB⟩ := hrel
   have hbr0 : Below w.heap.size w wr := hB2.trans (hbr.mono (Nat.le_of_lt hsz2))
   have hszr : w.heap.size < wr.heap.size := Nat.lt_of_lt_of_le hsz2 hbr.size
   by_cases hlt : k < z.table.length
   ·obtain ⟨gT, oT, hAT, hgT, hcT⟩ : ∃ gT oT, AT = some ⟨gT, oT, none⟩ ∧ gT < wr.heap.size ∧ ∀ i u, (Trn.cells z.table[k]!)[i]? = some u → wr.cell? ⟨gT, oT + k * 4 + i, none⟩ = some u := by
     rcases HTT.out.on hbr0 with ⟨e, _⟩ | ⟨gT, oT, c', hv, hgT, hcT⟩
     ·rw [e] at hlt; simp at hlt
     ·injection hv with e1 _ _
      exact ⟨gT, oT, e1, hgT, fun i u hu => hcT k hlt i u hu⟩
    subst hAT
    have e0 := hcT 0 _ rfl
    have e1 := hcT 1 _ rfl
    have e2 := hcT 2 _ rfl
    have e3 := hcT 3 _ rfl
    rw [Nat.add_zero] at e0
    have htab := tab_cons (a := a) (b := b) hlt
    generalize z.table[k]! = x at *
    obtain ⟨xa, xt⟩ := x
    dsimp only at *
    have HTX := Lib.hid (fun W => typed_any xt W)
    have hq0 : Below wr.heap.size wr (wr.alloc (.cells #[.int .i64 xa, .int .i64 xt.off, .int .i64 xt.sv, .string xt.nm] 68)) := alloc_below' _ _
    have HYC := Lib.hid (alloc_cells wr [.int .i64 xa, .int .i64 xt.off, .int .i64 xt.sv, .string xt.nm] 68)
    have hne := fun W => eqTy xt b W
    have hgd := gdTy
    have HR := Lib.hid (htab.symm.trans HTB.out.symm)
    clear hcT htab
    by_cases h1 : a < xa
    ·have d1 : decide (xa ≤ a) = false := decide_eq_false (by omega)
     by_cases h2 : xa < 253402300800
     ·have d2 : decide (253402300800 ≤ xa) = false := decide_eq_false (by omega)
      cases h3 : typB xt
      ·have hB0 : false = B := by rw [HBV.out, ← HR.out, h3]; simp
       have HB0 := Lib.hid hB0
       rw [h3] at HTX
       clear hB0 h3
       go_wp2_with (go_at_call 106; refine (HTX.out _).mono ?_; rintro e w5 ⟨rfl, hb5⟩; have hz5 : wr.heap.size + 1 ≤ w5.heap.size := (by have := hb5.size; simp at this; omega); have hq5 : Below wr.heap.size wr w5 := hq0.trans (hb5.mono (by simp)); have y0 : w5.cell? ⟨wr.heap.size, 0, none⟩ = some (.int .i64 xa) := (hb5.cell (p := ⟨wr.heap.size, 0, none⟩) (by simp)).trans (HYC.out 0 _ rfl); have y1 : w5.cell? ⟨wr.heap.size, 1, none⟩ = some (.int .i64 xt.off) := (hb5.cell (p := ⟨wr.heap.size, 1, none⟩) (by simp)).trans (HYC.out 1 _ rfl); have y2 : w5.cell? ⟨wr.heap.size, 2, none⟩ = some (.int .i64 xt.sv) := (hb5.cell (p := ⟨wr.heap.size, 2, none⟩) (by simp)).trans (HYC.out 2 _ rfl); have y3 : w5.cell? ⟨wr.heap.size, 3, none⟩ = some (.string xt.nm) := (hb5.cell (p := ⟨wr.heap.size, 3, none⟩) (by simp)).trans (HYC.out 3 _ rfl); have r0 := (hq5.cell (p := ⟨q, 0, none⟩) hqr).trans p0; have r1 := (hq5.cell (p := ⟨q, 1, none⟩) hqr).trans p1; have r2 := (hq5.cell (p := ⟨q, 2, none⟩) hqr).trans p2; have rf := fun i => (hq5.frozen (p := ⟨q, i, none⟩) hqr).trans (HFz.out i))
       go_ret
       exact ⟨ret1 (vbool HB0.out), hbr0.trans (hq5.mono (Nat.le_of_lt hszr))⟩
      ·rw [h3] at HTX
       by_cases h4 : xt = b
       ·have hB0 : false = B := by rw [HBV.out, ← HR.out, decide_eq_false (show ¬ xt ≠ b from fun e => e h4)]; simp
        have HB0 := Lib.hid hB0
        have dx : decide (xt = b) = true := decide_eq_true h4
        clear hB0 h3 h4
        go_wp2_with (go_at_call 106; refine (HTX.out _).mono ?_; rintro e w5 ⟨rfl, hb5⟩; have hz5 : wr.heap.size + 1 ≤ w5.heap.size := (by have := hb5.size; simp at this; omega); have hq5 : Below wr.heap.size wr w5 := hq0.trans (hb5.mono (by simp)); have y0 : w5.cell? ⟨wr.heap.size, 0, none⟩ = some (.int .i64 xa) := (hb5.cell (p := ⟨wr.heap.size, 0, none⟩) (by simp)).trans (HYC.out 0 _ rfl); have y1 : w5.cell? ⟨wr.heap.size, 1, none⟩ = some (.int .i64 xt.off) := (hb5.cell (p := ⟨wr.heap.size, 1, none⟩) (by simp)).trans (HYC.out 1 _ rfl); have y2 : w5.cell? ⟨wr.heap.size, 2, none⟩ = some (.int .i64 xt.sv) := (hb5.cell (p := ⟨wr.heap.size, 2, none⟩) (by simp)).trans (HYC.out 2 _ rfl); have y3 : w5.cell? ⟨wr.heap.size, 3, none⟩ = some (.string xt.nm) := (hb5.cell (p := ⟨wr.heap.size, 3, none⟩) (by simp)).trans (HYC.out 3 _ rfl); have r0 := (hq5.cell (p := ⟨q, 0, none⟩) hqr).trans p0; have r1 := (hq5.cell (p := ⟨q, 1, none⟩) hqr).trans p1; have r2 := (hq5.cell (p := ⟨q, 2, none⟩) hqr).trans p2; have rf := fun i => (hq5.frozen (p := ⟨q, i, none⟩) hqr).trans (HFz.out i))
        go_ret
        exact ⟨ret1 (vbool HB0.out), hbr0.trans (hq5.mono (Nat.le_of_lt hszr))⟩
       ·have HR2 := Lib.hid (show tabB (-62135596800) z.first z.table = tabB xa xt (z.table.drop (k + 1)) by rw [← HR.out, decide_eq_true h1, decide_eq_true h2, h3, decide_eq_true (show xt ≠ b from h4)]; rfl)
        have dx : decide (xt = b) = false := decide_eq_false h4
        clear h3 h4
        go_wp2_with (go_at_call 106; refine (HTX.out _).mono ?_; rintro e w5 ⟨rfl, hb5⟩; have hz5 : wr.heap.size + 1 ≤ w5.heap.size := (by have := hb5.size; simp at this; omega); have hq5 : Below wr.heap.size wr w5 := hq0.trans (hb5.mono (by simp)); have y0 : w5.cell? ⟨wr.heap.size, 0, none⟩ = some (.int .i64 xa) := (hb5.cell (p := ⟨wr.heap.size, 0, none⟩) (by simp)).trans (HYC.out 0 _ rfl); have y1 : w5.cell? ⟨wr.heap.size, 1, none⟩ = some (.int .i64 xt.off) := (hb5.cell (p := ⟨wr.heap.size, 1, none⟩) (by simp)).trans (HYC.out 1 _ rfl); have y2 : w5.cell? ⟨wr.heap.size, 2, none⟩ = some (.int .i64 xt.sv) := (hb5.cell (p := ⟨wr.heap.size, 2, none⟩) (by simp)).trans (HYC.out 2 _ rfl); have y3 : w5.cell? ⟨wr.heap.size, 3, none⟩ = some (.string xt.nm) := (hb5.cell (p := ⟨wr.heap.size, 3, none⟩) (by simp)).trans (HYC.out 3 _ rfl); have r0 := (hq5.cell (p := ⟨q, 0, none⟩) hqr).trans p0; have r1 := (hq5.cell (p := ⟨q, 1, none⟩) hqr).trans p1; have r2 := (hq5.cell (p := ⟨q, 2, none⟩) hqr).trans p2; have rf := fun i => (hq5.frozen (p := ⟨q, i, none⟩) hqr).trans (HFz.out i))
        go_region
        all_goals go_wp2
        have hs := set3 r0 r1 r2 (.int .i64 xt.off) (.int .i64 xt.sv) (.string xt.nm)
        have hb := set3_below (hbr.trans (hq5.mono hbr.size)) hq2 (.int .i64 xt.off) (.int .i64 xt.sv) (.string xt.nm)
        have hsz : q < (((w5.setCell ⟨q, 0, none⟩ (.int .i64 xt.off)).setCell ⟨q, 1, none⟩ (.int .i64 xt.sv)).setCell ⟨q, 2, none⟩ (.string xt.nm)).heap.size := by simp; omega
        go_roundw
        case rel => exact ⟨k + 1, xa, xt, by omega, by go_num, rfl, hb.trans (below_drewN (Below.refl _ _) 1), hsz, hs.1, hs.2.1, hs.2.2, Lib.hid (set3_frozen rf _ _ _), HR2⟩
        case measure => simp [intOf]; omega
     ·have d2 : decide (253402300800 ≤ xa) = true := decide_eq_true (by omega)
      have hB0 : false = B := by rw [HBV.out, ← HR.out, decide_eq_false h2]; simp
      have HB0 := Lib.hid hB0
      clear hB0
      go_wp2
      go_ret
      exact ⟨ret1 (vbool HB0.out), hbr0.trans (hq0.mono (Nat.le_of_lt hszr))⟩
    ·have d1 : decide (xa ≤ a) = true := decide_eq_true (by omega)
     have hB0 : false = B := by rw [HBV.out, ← HR.out, decide_eq_false h1]; simp
     have HB0 := Lib.hid hB0
     clear hB0
     go_wp2
     go_ret
     exact ⟨ret1 (vbool HB0.out), hbr0.trans (hq0.mono (Nat.le_of_lt hszr))⟩
   ·have hk' : k = z.table.length := by omega
    subst hk'
    have ht1 : tabB (-62135596800) z.first z.table = true := by rw [HTB.out, List.drop_length]; rfl
    have HBF := Lib.hid (show z.tailB = B by rw [HBV.out, ht1, Bool.true_and])
    have zx := fun i u h => (hbr.cell (p := ⟨w.heap.size, i, none⟩) hsz2).trans (Z2.out i u h)
    have zc0 := zx 0 _ rfl
    have zc1 := zx 1 _ rfl
    have zc2 := zx 2 _ rfl
    have zc3 := zx 3 _ rfl
    have zc4 := zx 4 _ rfl
    have zc5 := zx 5 _ rfl
    have zc6 := zx 6 _ rfl
    have zc7 := zx 7 _ rfl
    have zc8 := zx 8 _ rfl
    have HTL := Lib.hid (tailed_any z _ _ wr (HM.out.on hbr0) hl1 (HTT.out.on hbr0) (HRR.out.on hbr0) hfs hll (HHD.out ht1))
    unfold Zn.v at HTL
    clear zx ht1
    go_wp2_with (go_at_call 107; refine HTL.out.mono ?_; rintro e w6 ⟨rfl, hb6⟩)
    go_ret
    exact ⟨ret1 (vbool HBF.out), hbr0.trans (hb6.mono (Nat.le_of_lt hszr))⟩
 ·have hB0 : false = B := by rw [← HB.out, hV, hH, hn, ht, decide_eq_false hl1]; rfl
  have HB0 := Lib.hid hB0
  have hd : decide ((1000 : Int) < (z.table.length : Int)) = true := decide_eq_true (by omega)
  clear hn hB0 hV hH ht
  unfold Zn.v
  go_enter Tryz.func99, Tryz.ntmps99
  go_wp2_with (first | (go_at_call 62; refine (HN.out _).mono ?_; rintro e w1 ⟨rfl, rfl⟩) | (go_at_call 106; refine (HY.out _).mono ?_; rintro e w2 ⟨rfl, hb2⟩; have x4 := (hb2.cell (p := ⟨w.heap.size, 4, none⟩) hszz).trans (HZC.out 4 _ rfl)))
  go_ret
  exact ⟨ret1 (vbool HB0.out), HBZ.out.trans (hb2.mono (Nat.le_of_lt hszz))⟩
end Go.Proofs.YtdpbhjaicgkblaaGreatDoor
/- zone.nextAt and zone.Next. -/
namespace Go.Proofs.YtdpbhjaicgkblaaGreatDoor
set_option linter.unusedSimpArgs false
set_option linter.unusedVariables false
open Go.ChangeShapes Go.WideShapes Go.ChangeAt Go.RowKit
def optV : Option Trn → Value
 | some x => .tuple #[.agg #[.int .i64 x.at_, .int .i64 x.ty.off, .int .i64 x.ty.sv, .string x.ty.nm], .bool true]
 | none => .tuple #[.agg #[.int .i64 0, .int .i64 0, .int .i64 0, .string ⟨#[]⟩], .bool false]
theorem tab_le {z : Zn} (hv : z.valid = true) : ∀ a b, a ≤ b → b < z.table.length → (z.table[a]!).at_ ≤ (z.table[b]!).at_ := fun a b hab hb => by
 have ha := (tab_asc (head_tab (valid_parts hv).1).1).1
 rcases Nat.lt_or_eq_of_le hab with h | h
 ·rw [getElem!_pos z.table a (by omega), getElem!_pos z.table b hb]
  exact Int.le_of_lt ((List.pairwise_iff_getElem.1 ha) a b _ hb h)
 ·rw [h]; exact Int.le_refl _
theorem set4 {w : World} {B : Nat} {a b c d : Value} (k0 : w.cell? ⟨B, 0, none⟩ = some a) (k1 : w.cell? ⟨B, 1, none⟩ = some b) (k2 : w.cell? ⟨B, 2, none⟩ = some c) (k3 : w.cell? ⟨B, 3, none⟩ = some d) (x y z u : Value) (W : World) (hW : W = (((w.setCell ⟨B, 0, none⟩ x).setCell ⟨B, 1, none⟩ y).setCell ⟨B, 2, none⟩ z).setCell ⟨B, 3, none⟩ u) :
  W.cell? ⟨B, 0, none⟩ = some x ∧ W.cell? ⟨B, 1, none⟩ = some y ∧ W.cell? ⟨B, 2, none⟩ = some z ∧ W.cell? ⟨B, 3, none⟩ = some u := by
 subst hW
 obtain ⟨h0, h1, h2⟩ := set3 k0 k1 k2 x y z
 have h3 := (setNe ((w.setCell ⟨B, 0, none⟩ x).setCell ⟨B, 1, none⟩ y) ⟨B, 2, none⟩ ⟨B, 3, none⟩ z (by simp)).trans ((setNe (w.setCell ⟨B, 0, none⟩ x) ⟨B, 1, none⟩ ⟨B, 3, none⟩ y (by simp)).trans ((setNe w ⟨B, 0, none⟩ ⟨B, 3, none⟩ x (by simp)).trans k3))
 exact ⟨(setNe _ ⟨B, 3, none⟩ ⟨B, 0, none⟩ u (by simp)).trans h0, (setNe _ ⟨B, 3, none⟩ ⟨B, 1, none⟩ u (by simp)).trans h1, (setNe _ ⟨B, 3, none⟩ ⟨B, 2, none⟩ u (by simp)).trans h2, World.cell?_setCell_same' _ ⟨B, 3, none⟩ u (by rw [h3]; rfl)⟩
theorem set4_below {w0 w : World} {B q : Nat} (h : Below B w0 w) (hq : B ≤ q) (x y z u : Value) (W : World) (hW : W = (((w.setCell ⟨q, 0, none⟩ x).setCell ⟨q, 1, none⟩ y).setCell ⟨q, 2, none⟩ z).setCell ⟨q, 3, none⟩ u) : Below B w0 W := by
 subst hW
 exact (set3_below h hq x y z).setCell (p := ⟨q, 3, none⟩) hq u
theorem tailL_len (z : Zn) (hll : z.tail.length ≤ 12) {f t : Int} (h : t - f ≤ 10) : (z.tailL f t).length ≤ 1000 := by
 unfold Zn.tailL
 split
 ·simp
 ·rename_i hc
  obtain ⟨F, hF⟩ : ∃ F, max f z.year = F := ⟨_, rfl⟩
  obtain ⟨E, hE⟩ : ∃ E, min t 9999 = E := ⟨_, rfl⟩
  rw [hF, hE] at hc ⊢
  rw [List.length_map]
  unfold Zn.winW
  have hst : z.start F = z.year ∨ z.start F = F - 9 := by unfold Zn.start; split <;> omega
  have hst2 : F - 9 ≤ z.start F := by unfold Zn.start; split <;> omega
  generalize z.start F = S at *
  have h3 := (trans_sub z.lastT (S == z.year) (z.happ z.lastT.sv (evT z.tail S (E - S + 1).toNat))).length_le
  have h0 := happ_len z z.lastT.sv (evT z.tail S (E - S + 1).toNat)
  have h1 := evY_len z.tail S (E - S + 1).toNat
  rw [← evT_evY, List.length_map] at h1
  have h2 := Nat.mul_le_mul (show (E - S + 1).toNat ≤ 21 by omega) hll
  omega
theorem yearOf_det (t : Int) (h1 : -62135596800 ≤ t) (h2 : t < 253402300800) : ∃ Y, YearOf t Y ∧ ∀ w, Calls Tryz.prog 195 #[.int .i64 t] w fun e w' => e = .returned (.int .i64 Y) ∧ Below w.heap.size w w' := by
 obtain ⟨y, m, d, hv, hc, hf1, hf2⟩ := day_exists (D := t / 86400) (by omega) (by omega)
 have hy := Cv.validB_iff.1 hv
 refine ⟨y, ⟨hy.1, hy.2.1, by omega, by omega⟩, fun w => ?_⟩
 have HD := Lib.hid (fun W => civil_Date y m d W hv)
 rw [hc] at HD
 have hb1 : -719162 ≤ t / 86400 := by omega
 have hb2 : t / 86400 < 2932897 := by omega
 clear hv hc hf1 hf2 hy
 have E1 := Lib.hid (show max t (-62135596800) = t by omega)
 have E2 := Lib.hid (show min t 253402300799 = t by omega)
 go_enter Tryz.func195, Tryz.ntmps195
 go_wp2_with (first
  | (go_at_call 64; rw [E1.out, E2.out]; refine (Split_any t _ h1 h2).mono ?_; rintro e w1 ⟨rfl, hb1⟩)
  | (go_at_call 64; refine (Split_any t _ h1 h2).mono ?_; rintro e w1 ⟨rfl, hb1⟩)
  | (go_at_call 65; refine (HD.out _).mono ?_; rintro e w2 ⟨rfl, hb2⟩))
 go_ret
 exact ⟨rfl, ((hb1.trans (hb2.mono hb1.size))).alloc (by have := hb1.size; have := hb2.size; omega) _⟩
end Go.Proofs.YtdpbhjaicgkblaaGreatDoor
/- zone.Next. -/
namespace Go.Proofs.YtdpbhjaicgkblaaGreatDoor
set_option linter.unusedSimpArgs false
set_option linter.unusedVariables false
open Go.ChangeShapes Go.WideShapes Go.ChangeAt Go.RowKit
def inT (t : Int) : Bool := decide (-62135596800 ≤ t) && decide (t < 253402300800)
theorem instant_any (t : Int) (w : World) : Calls Tryz.prog 176 #[.int .i64 t] w fun e w' => e = .returned (.bool (inT t)) ∧ w = w' := by
 unfold inT
 by_cases h1 : -62135596800 ≤ t
 ·rw [decide_eq_true h1]
  go_enter Tryz.func176, Tryz.ntmps176
  go_wp2
  go_ret
  exact ⟨ret1 (vbool (by simp)), rfl⟩
 ·rw [decide_eq_false h1]
  go_enter Tryz.func176, Tryz.ntmps176
  go_wp2
  go_ret
  exact ⟨rfl, rfl⟩
theorem valid_len {z : Zn} (hv : z.valid = true) (hll : z.tail.length ≤ 12 ∨ 100 < z.tail.length) : z.tail.length ≤ 12 := by
 rcases hll with h | h
 ·exact h
 ·have h2 := (valid_parts hv).2
  unfold Zn.tailB at h2
  rw [if_neg (by intro e; rw [e] at h; simp at h)] at h2
  simp only [Bool.and_eq_true, decide_eq_true_eq] at h2
  omega
end Go.Proofs.YtdpbhjaicgkblaaGreatDoor

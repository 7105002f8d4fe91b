/- Joined by merge.py: ZoneW6, ZoneW7, ZoneW8. -/
import Derived.Test.YtdpkolnfbimheaaGreatGZe
/- zone.Valid. -/
namespace Go.Proofs.YtdpkolnfbimheaaGreat
set_option linter.unusedSimpArgs false
set_option linter.unusedVariables false
open Go.ChangeShapes Go.WideShapes Go.ChangeAt Go.RowKit

theorem eqTy (a b : Typ) (w : World) : (binOp .eql 23 (.agg #[.int .i64 a.off, .int .i64 a.sv, .string a.nm]) (.agg #[.int .i64 b.off, .int .i64 b.sv, .string b.nm])).run Tryz.prog w = .ok (.bool (decide (a = b))) w := by
  have u3 := Tryz.underlying3
  have u9 := Tryz.underlying9
  have hS : Tryz.prog.underlying 23 = some (.struct (Tryz.prog.fieldsOf 23)) := by kernel_rfl
  have hp : Tryz.prog.stoodInHeld 23 = false := by kernel_rfl
  have a3 : ∀ w, (isAgg 3).run Tryz.prog w = .ok false w := fun w => by kernel_rfl
  have z3 : ∀ w, (Go.sizeOf 3).run Tryz.prog w = .ok 1 w := fun w => by kernel_rfl
  have a9 : ∀ w, (isAgg 9).run Tryz.prog w = .ok false w := fun w => by kernel_rfl
  have z9 : ∀ w, (Go.sizeOf 9).run Tryz.prog w = .ok 1 w := fun w => by kernel_rfl
  rw [run_eql_struct, show (10000 : Nat) = 9999 + 1 from rfl, run_equalIn_agg w 9999 23 _ _ hS hp]
  simp only [Program.fieldsOf, Tryz.underlying23]
  go_simp
  have hb : (a.nm = b.nm) ↔ (a.nm.toList = b.nm.toList) := ⟨fun h => by rw [h], fun h => by
    rw [Lib.toList_data, Lib.toList_data] at h
    exact ByteArray.ext (Array.toList_inj.1 h)⟩
  have hd : decide (a = b) = (decide (a.off = b.off) && (decide (a.sv = b.sv) && decide (a.nm.toList = b.nm.toList))) := by
    rw [Bool.eq_iff_iff]
    simp [Typ.ext_iff', hb]
  rw [hd]
  by_cases h1 : a.off = b.off <;> by_cases h2 : a.sv = b.sv <;> by_cases h3 : a.nm.toList = b.nm.toList <;> simp [h1, h2, h3]
theorem tab_cons {a : Int} {b : Typ} {l : List Trn} {k : Nat} (h : k < l.length) : tabB a b (l.drop k) = ((decide (a < (l[k]!).at_) && (decide ((l[k]!).at_ < 253402300800) && (typB (l[k]!).ty && decide ((l[k]!).ty ≠ b)))) && tabB (l[k]!).at_ (l[k]!).ty (l.drop (k + 1))) := by
  rw [List.drop_eq_getElem_cons h, tabB, getElem!_pos l k h]
set_option maxRecDepth 100000 in
set_option maxHeartbeats 8000000 in
theorem Valid_zone (z : Zn) (vT vR : Value) (w : World) (hm : HasMax w) (hT : Rd Trn.cells 4 w vT z.table) (hR : Rd Rule.cells 11 w vR z.tail) (hfs : z.form.size < 4294967281) (hll : z.tail.length ≤ 12 ∨ 100 < z.tail.length) :
    Calls Tryz.prog 35 #[z.v vT vR] w fun e w' => e = .returned (.bool z.valid) ∧ Below w.heap.size w w' := by
  have hV : z.valid = (z.headB && z.tailB) := rfl
  have hH : z.headB = (Cv.nameZ z.nm && (typB z.first && (decide (z.table.length ≤ 1000) && tabB (-62135596800) z.first z.table))) := rfl
  obtain ⟨B, hB⟩ : ∃ B, z.valid = B := ⟨_, rfl⟩
  rw [hB]
  have HB := Lib.hid hB
  have HTT := Lib.hid hT
  have HRR := Lib.hid hR
  have HM := Lib.hid hm
  have HN := Lib.hid (fun W => zoneName z.nm W)
  have HY := Lib.hid (fun W => typed_any z.first W)
  obtain ⟨AT, cT, rfl⟩ := rd_vf hT
  obtain ⟨AR, cR, rfl⟩ := rd_vf hR
  have hzc := alloc_cells w [.string z.nm, .int .i64 z.first.off, .int .i64 z.first.sv, .string z.first.nm, .slice AT z.table.length cT, .slice AR z.tail.length cR, .int .i64 z.off, .string z.form, .int .i64 z.year] 27
  have hbz : Below w.heap.size w (w.alloc (.cells #[.string z.nm, .int .i64 z.first.off, .int .i64 z.first.sv, .string z.first.nm, .slice AT z.table.length cT, .slice AR z.tail.length cR, .int .i64 z.off, .string z.form, .int .i64 z.year] 27)) := (Below.refl _ _).alloc (Nat.le_refl _) _
  have hszz : w.heap.size < (w.alloc (.cells #[.string z.nm, .int .i64 z.first.off, .int .i64 z.first.sv, .string z.first.nm, .slice AT z.table.length cT, .slice AR z.tail.length cR, .int .i64 z.off, .string z.form, .int .i64 z.year] 27)).heap.size := by simp
  have HZC := Lib.hid hzc
  have HBZ := Lib.hid hbz
  clear hT hR hm hzc hbz hB
  cases hn : Cv.nameZ z.nm
  · have hB0 : false = B := by rw [← HB.out, hV, hH, hn]; rfl
    rw [hn] at HN
    have HB0 := Lib.hid hB0
    clear hn hB0 hV hH
    unfold Zn.v
    go_enter Tryz.func35, Tryz.ntmps35
    go_wp2_with (go_at_call 77; refine (HN.out _).mono ?_; rintro e w1 ⟨rfl, rfl⟩)
    go_ret
    exact ⟨ret1 (vbool HB0.out), HBZ.out⟩
  rw [hn] at HN
  cases ht : typB z.first
  · have hB0 : false = B := by rw [← HB.out, hV, hH, hn, ht]; rfl
    rw [ht] at HY
    have HB0 := Lib.hid hB0
    clear hn hB0 hV hH ht
    unfold Zn.v
    go_enter Tryz.func35, Tryz.ntmps35
    go_wp2_with (first | (go_at_call 77; refine (HN.out _).mono ?_; rintro e w1 ⟨rfl, rfl⟩) | (go_at_call 78; refine (HY.out _).mono ?_; rintro e w2 ⟨rfl, hb2⟩))
    go_ret
    exact ⟨ret1 (vbool HB0.out), HBZ.out.trans (hb2.mono (Nat.le_of_lt hszz))⟩
  rw [ht] at HY
  by_cases hl1 : z.table.length ≤ 1000
  · have HBV := Lib.hid (show B = (tabB (-62135596800) z.first z.table && z.tailB) by rw [← HB.out, hV, hH, hn, ht, decide_eq_true hl1]; rfl)
    have HHD := Lib.hid (fun h : tabB (-62135596800) z.first z.table = true => show z.headB = true by rw [hH, hn, ht, decide_eq_true hl1, h]; rfl)
    have hd : decide ((1000 : Int) < (z.table.length : Int)) = false := decide_eq_false (by omega)
    clear hn hV hH ht HB
    unfold Zn.v
    go_enter Tryz.func35, Tryz.ntmps35
    go_wp2_with (first | (go_at_call 77; refine (HN.out _).mono ?_; rintro e w1 ⟨rfl, rfl⟩) | (go_at_call 78; refine (HY.out _).mono ?_; rintro e w2 ⟨rfl, hb2⟩; have x1 := (hb2.cell (p := ⟨w.heap.size, 1, none⟩) hszz).trans (HZC.out 1 _ rfl); have x2 := (hb2.cell (p := ⟨w.heap.size, 2, none⟩) hszz).trans (HZC.out 2 _ rfl); have x3 := (hb2.cell (p := ⟨w.heap.size, 3, none⟩) hszz).trans (HZC.out 3 _ rfl); have x4 := (hb2.cell (p := ⟨w.heap.size, 4, none⟩) hszz).trans (HZC.out 4 _ rfl)))
    have hB2 : Below w.heap.size w w2 := HBZ.out.trans (hb2.mono (Nat.le_of_lt hszz))
    have hsz2 : w.heap.size < w2.heap.size := Nat.lt_of_lt_of_le hszz hb2.size
    have Z2 := Lib.hid (fun i u h => (hb2.cell (p := ⟨w.heap.size, i, none⟩) hszz).trans (HZC.out i u h))
    go_region
    have hbW : Below w2.heap.size w2 (w2.alloc (.cells #[.int .i64 z.first.off, .int .i64 z.first.sv, .string z.first.nm] 23)).drew := ((Below.refl _ _).alloc (Nat.le_refl _) _).trans (below_drewN (Below.refl _ _) 1)
    have q0 : (w2.alloc (.cells #[.int .i64 z.first.off, .int .i64 z.first.sv, .string z.first.nm] 23)).drew.cell? ⟨w2.heap.size, 0, none⟩ = some (.int .i64 z.first.off) := alloc_cells w2 [.int .i64 z.first.off, .int .i64 z.first.sv, .string z.first.nm] 23 0 _ rfl
    have q1 : (w2.alloc (.cells #[.int .i64 z.first.off, .int .i64 z.first.sv, .string z.first.nm] 23)).drew.cell? ⟨w2.heap.size, 1, none⟩ = some (.int .i64 z.first.sv) := alloc_cells w2 [.int .i64 z.first.off, .int .i64 z.first.sv, .string z.first.nm] 23 1 _ rfl
    have q2 : (w2.alloc (.cells #[.int .i64 z.first.off, .int .i64 z.first.sv, .string z.first.nm] 23)).drew.cell? ⟨w2.heap.size, 2, none⟩ = some (.string z.first.nm) := alloc_cells w2 [.int .i64 z.first.off, .int .i64 z.first.sv, .string z.first.nm] 23 2 _ rfl
    have f0 : ∀ i, (w2.alloc (.cells #[.int .i64 z.first.off, .int .i64 z.first.sv, .string z.first.nm] 23)).drew.frozen? ⟨w2.heap.size, i, none⟩ = false := fun i => alloc_frozen w2 _ _ i
    have hqW : w2.heap.size < (w2.alloc (.cells #[.int .i64 z.first.off, .int .i64 z.first.sv, .string z.first.nm] 23)).drew.heap.size := by simp [World.drew]
    have HF0 := Lib.hid f0
    generalize (w2.alloc (.cells #[.int .i64 z.first.off, .int .i64 z.first.sv, .string z.first.nm] 23)).drew = W at *
    obtain ⟨q, hq⟩ : ∃ q, q = w2.heap.size := ⟨_, rfl⟩
    have x4 : W.cell? ⟨w.heap.size, 4, none⟩ = some (.slice AT z.table.length cT) := (hbW.cell (p := ⟨w.heap.size, 4, none⟩) hsz2).trans (Z2.out 4 _ rfl)
    rw [← hq] at q0 q1 q2 HF0 hqW ⊢
    have hq2 : w2.heap.size ≤ q := Nat.le_of_eq hq.symm
    clear f0 x1 x2 x3 hq
    go_wp2
    go_loopw [3, 28] (fun v3 i wr => ∃ (k : Nat) (a : Int) (b : Typ), k ≤ z.table.length ∧ i = .int .i64 k ∧ v3 = .int .i64 a ∧ Below w2.heap.size w2 wr ∧ q < wr.heap.size ∧ wr.cell? ⟨q, 0, none⟩ = some (.int .i64 b.off) ∧ wr.cell? ⟨q, 1, none⟩ = some (.int .i64 b.sv) ∧ wr.cell? ⟨q, 2, none⟩ = some (.string b.nm) ∧ Hid (∀ i, wr.frozen? ⟨q, i, none⟩ = false) ∧ Hid (tabB (-62135596800) z.first z.table = tabB a b (z.table.drop k))) (fun _ i _ => z.table.length - (intOf i).toNat)
    case atStart => exact ⟨0, _, z.first, Nat.zero_le _, rfl, rfl, hbW, hqW, q0, q1, q2, HF0, Lib.hid rfl⟩
    case round =>
      obtain ⟨k, a, b, hk, rfl, rfl, hbr, hqr, p0, p1, p2, HFz, HTB⟩ := hrel
      have hbr0 : Below w.heap.size w wr := hB2.trans (hbr.mono (Nat.le_of_lt hsz2))
      have hszr : w.heap.size < wr.heap.size := Nat.lt_of_lt_of_le hsz2 hbr.size
      by_cases hlt : k < z.table.length
      · obtain ⟨gT, oT, hAT, hgT, hcT⟩ : ∃ gT oT, AT = some ⟨gT, oT, none⟩ ∧ gT < wr.heap.size ∧ ∀ i u, (Trn.cells z.table[k]!)[i]? = some u → wr.cell? ⟨gT, oT + k * 4 + i, none⟩ = some u := by
          rcases HTT.out.on hbr0 with ⟨e, _⟩ | ⟨gT, oT, c', hv, hgT, hcT⟩
          · rw [e] at hlt; simp at hlt
          · injection hv with e1 _ _
            exact ⟨gT, oT, e1, hgT, fun i u hu => hcT k hlt i u hu⟩
        subst hAT
        have e0 := hcT 0 _ rfl
        have e1 := hcT 1 _ rfl
        have e2 := hcT 2 _ rfl
        have e3 := hcT 3 _ rfl
        rw [Nat.add_zero] at e0
        have htab := tab_cons (a := a) (b := b) hlt
        generalize z.table[k]! = x at *
        obtain ⟨xa, xt⟩ := x
        dsimp only at *
        have HTX := Lib.hid (fun W => typed_any xt W)
        have hq0 : Below wr.heap.size wr (wr.alloc (.cells #[.int .i64 xa, .int .i64 xt.off, .int .i64 xt.sv, .string xt.nm] 38)) := alloc_below' _ _
        have HYC := Lib.hid (alloc_cells wr [.int .i64 xa, .int .i64 xt.off, .int .i64 xt.sv, .string xt.nm] 38)
        have hne := fun W => eqTy xt b W
        have hgd := gdTy
        have HR := Lib.hid (htab.symm.trans HTB.out.symm)
        clear hcT htab
        by_cases h1 : a < xa
        · have d1 : decide (xa ≤ a) = false := decide_eq_false (by omega)
          by_cases h2 : xa < 253402300800
          · have d2 : decide (253402300800 ≤ xa) = false := decide_eq_false (by omega)
            cases h3 : typB xt
            · have hB0 : false = B := by rw [HBV.out, ← HR.out, h3]; simp
              have HB0 := Lib.hid hB0
              rw [h3] at HTX
              clear hB0 h3
              go_wp2_with (go_at_call 78; refine (HTX.out _).mono ?_; rintro e w5 ⟨rfl, hb5⟩; have hz5 : wr.heap.size + 1 ≤ w5.heap.size := (by have := hb5.size; simp at this; omega); have hq5 : Below wr.heap.size wr w5 := hq0.trans (hb5.mono (by simp)); have y0 : w5.cell? ⟨wr.heap.size, 0, none⟩ = some (.int .i64 xa) := (hb5.cell (p := ⟨wr.heap.size, 0, none⟩) (by simp)).trans (HYC.out 0 _ rfl); have y1 : w5.cell? ⟨wr.heap.size, 1, none⟩ = some (.int .i64 xt.off) := (hb5.cell (p := ⟨wr.heap.size, 1, none⟩) (by simp)).trans (HYC.out 1 _ rfl); have y2 : w5.cell? ⟨wr.heap.size, 2, none⟩ = some (.int .i64 xt.sv) := (hb5.cell (p := ⟨wr.heap.size, 2, none⟩) (by simp)).trans (HYC.out 2 _ rfl); have y3 : w5.cell? ⟨wr.heap.size, 3, none⟩ = some (.string xt.nm) := (hb5.cell (p := ⟨wr.heap.size, 3, none⟩) (by simp)).trans (HYC.out 3 _ rfl); have r0 := (hq5.cell (p := ⟨q, 0, none⟩) hqr).trans p0; have r1 := (hq5.cell (p := ⟨q, 1, none⟩) hqr).trans p1; have r2 := (hq5.cell (p := ⟨q, 2, none⟩) hqr).trans p2; have rf := fun i => (hq5.frozen (p := ⟨q, i, none⟩) hqr).trans (HFz.out i))
              go_ret
              exact ⟨ret1 (vbool HB0.out), hbr0.trans (hq5.mono (Nat.le_of_lt hszr))⟩
            · rw [h3] at HTX
              by_cases h4 : xt = b
              · have hB0 : false = B := by rw [HBV.out, ← HR.out, decide_eq_false (show ¬ xt ≠ b from fun e => e h4)]; simp
                have HB0 := Lib.hid hB0
                have dx : decide (xt = b) = true := decide_eq_true h4
                clear hB0 h3 h4
                go_wp2_with (go_at_call 78; refine (HTX.out _).mono ?_; rintro e w5 ⟨rfl, hb5⟩; have hz5 : wr.heap.size + 1 ≤ w5.heap.size := (by have := hb5.size; simp at this; omega); have hq5 : Below wr.heap.size wr w5 := hq0.trans (hb5.mono (by simp)); have y0 : w5.cell? ⟨wr.heap.size, 0, none⟩ = some (.int .i64 xa) := (hb5.cell (p := ⟨wr.heap.size, 0, none⟩) (by simp)).trans (HYC.out 0 _ rfl); have y1 : w5.cell? ⟨wr.heap.size, 1, none⟩ = some (.int .i64 xt.off) := (hb5.cell (p := ⟨wr.heap.size, 1, none⟩) (by simp)).trans (HYC.out 1 _ rfl); have y2 : w5.cell? ⟨wr.heap.size, 2, none⟩ = some (.int .i64 xt.sv) := (hb5.cell (p := ⟨wr.heap.size, 2, none⟩) (by simp)).trans (HYC.out 2 _ rfl); have y3 : w5.cell? ⟨wr.heap.size, 3, none⟩ = some (.string xt.nm) := (hb5.cell (p := ⟨wr.heap.size, 3, none⟩) (by simp)).trans (HYC.out 3 _ rfl); have r0 := (hq5.cell (p := ⟨q, 0, none⟩) hqr).trans p0; have r1 := (hq5.cell (p := ⟨q, 1, none⟩) hqr).trans p1; have r2 := (hq5.cell (p := ⟨q, 2, none⟩) hqr).trans p2; have rf := fun i => (hq5.frozen (p := ⟨q, i, none⟩) hqr).trans (HFz.out i))
                go_ret
                exact ⟨ret1 (vbool HB0.out), hbr0.trans (hq5.mono (Nat.le_of_lt hszr))⟩
              · have HR2 := Lib.hid (show tabB (-62135596800) z.first z.table = tabB xa xt (z.table.drop (k + 1)) by rw [← HR.out, decide_eq_true h1, decide_eq_true h2, h3, decide_eq_true (show xt ≠ b from h4)]; rfl)
                have dx : decide (xt = b) = false := decide_eq_false h4
                clear h3 h4
                go_wp2_with (go_at_call 78; refine (HTX.out _).mono ?_; rintro e w5 ⟨rfl, hb5⟩; have hz5 : wr.heap.size + 1 ≤ w5.heap.size := (by have := hb5.size; simp at this; omega); have hq5 : Below wr.heap.size wr w5 := hq0.trans (hb5.mono (by simp)); have y0 : w5.cell? ⟨wr.heap.size, 0, none⟩ = some (.int .i64 xa) := (hb5.cell (p := ⟨wr.heap.size, 0, none⟩) (by simp)).trans (HYC.out 0 _ rfl); have y1 : w5.cell? ⟨wr.heap.size, 1, none⟩ = some (.int .i64 xt.off) := (hb5.cell (p := ⟨wr.heap.size, 1, none⟩) (by simp)).trans (HYC.out 1 _ rfl); have y2 : w5.cell? ⟨wr.heap.size, 2, none⟩ = some (.int .i64 xt.sv) := (hb5.cell (p := ⟨wr.heap.size, 2, none⟩) (by simp)).trans (HYC.out 2 _ rfl); have y3 : w5.cell? ⟨wr.heap.size, 3, none⟩ = some (.string xt.nm) := (hb5.cell (p := ⟨wr.heap.size, 3, none⟩) (by simp)).trans (HYC.out 3 _ rfl); have r0 := (hq5.cell (p := ⟨q, 0, none⟩) hqr).trans p0; have r1 := (hq5.cell (p := ⟨q, 1, none⟩) hqr).trans p1; have r2 := (hq5.cell (p := ⟨q, 2, none⟩) hqr).trans p2; have rf := fun i => (hq5.frozen (p := ⟨q, i, none⟩) hqr).trans (HFz.out i))
                go_region
                all_goals go_wp2
                have hs := set3 r0 r1 r2 (.int .i64 xt.off) (.int .i64 xt.sv) (.string xt.nm)
                have hb := set3_below (hbr.trans (hq5.mono hbr.size)) hq2 (.int .i64 xt.off) (.int .i64 xt.sv) (.string xt.nm)
                have hsz : q < (((w5.setCell ⟨q, 0, none⟩ (.int .i64 xt.off)).setCell ⟨q, 1, none⟩ (.int .i64 xt.sv)).setCell ⟨q, 2, none⟩ (.string xt.nm)).heap.size := by simp; omega
                go_roundw
                case rel => exact ⟨k + 1, xa, xt, by omega, by go_num, rfl, hb.trans (below_drewN (Below.refl _ _) 1), hsz, hs.1, hs.2.1, hs.2.2, Lib.hid (set3_frozen rf _ _ _), HR2⟩
                case measure => simp [intOf]; omega
          · have d2 : decide (253402300800 ≤ xa) = true := decide_eq_true (by omega)
            have hB0 : false = B := by rw [HBV.out, ← HR.out, decide_eq_false h2]; simp
            have HB0 := Lib.hid hB0
            clear hB0
            go_wp2
            go_ret
            exact ⟨ret1 (vbool HB0.out), hbr0.trans (hq0.mono (Nat.le_of_lt hszr))⟩
        · have d1 : decide (xa ≤ a) = true := decide_eq_true (by omega)
          have hB0 : false = B := by rw [HBV.out, ← HR.out, decide_eq_false h1]; simp
          have HB0 := Lib.hid hB0
          clear hB0
          go_wp2
          go_ret
          exact ⟨ret1 (vbool HB0.out), hbr0.trans (hq0.mono (Nat.le_of_lt hszr))⟩
      · have hk' : k = z.table.length := by omega
        subst hk'
        have ht1 : tabB (-62135596800) z.first z.table = true := by rw [HTB.out, List.drop_length]; rfl
        have HBF := Lib.hid (show z.tailB = B by rw [HBV.out, ht1, Bool.true_and])
        have zx := fun i u h => (hbr.cell (p := ⟨w.heap.size, i, none⟩) hsz2).trans (Z2.out i u h)
        have zc0 := zx 0 _ rfl
        have zc1 := zx 1 _ rfl
        have zc2 := zx 2 _ rfl
        have zc3 := zx 3 _ rfl
        have zc4 := zx 4 _ rfl
        have zc5 := zx 5 _ rfl
        have zc6 := zx 6 _ rfl
        have zc7 := zx 7 _ rfl
        have zc8 := zx 8 _ rfl
        have HTL := Lib.hid (tailed_any z _ _ wr (HM.out.on hbr0) hl1 (HTT.out.on hbr0) (HRR.out.on hbr0) hfs hll (HHD.out ht1))
        unfold Zn.v at HTL
        clear zx ht1
        go_wp2_with (go_at_call 79; refine HTL.out.mono ?_; rintro e w6 ⟨rfl, hb6⟩)
        go_ret
        exact ⟨ret1 (vbool HBF.out), hbr0.trans (hb6.mono (Nat.le_of_lt hszr))⟩
  · have hB0 : false = B := by rw [← HB.out, hV, hH, hn, ht, decide_eq_false hl1]; rfl
    have HB0 := Lib.hid hB0
    have hd : decide ((1000 : Int) < (z.table.length : Int)) = true := decide_eq_true (by omega)
    clear hn hB0 hV hH ht
    unfold Zn.v
    go_enter Tryz.func35, Tryz.ntmps35
    go_wp2_with (first | (go_at_call 77; refine (HN.out _).mono ?_; rintro e w1 ⟨rfl, rfl⟩) | (go_at_call 78; refine (HY.out _).mono ?_; rintro e w2 ⟨rfl, hb2⟩; have x4 := (hb2.cell (p := ⟨w.heap.size, 4, none⟩) hszz).trans (HZC.out 4 _ rfl)))
    go_ret
    exact ⟨ret1 (vbool HB0.out), HBZ.out.trans (hb2.mono (Nat.le_of_lt hszz))⟩

end Go.Proofs.YtdpkolnfbimheaaGreat

/- zone.nextAt and zone.Next. -/
namespace Go.Proofs.YtdpkolnfbimheaaGreat
set_option linter.unusedSimpArgs false
set_option linter.unusedVariables false
open Go.ChangeShapes Go.WideShapes Go.ChangeAt Go.RowKit

/-- what is returned where a transition is sought -/
def optV : Option Trn → Value
  | some x => .tuple #[.agg #[.int .i64 x.at_, .int .i64 x.ty.off, .int .i64 x.ty.sv, .string x.ty.nm], .bool true]
  | none => .tuple #[.agg #[.int .i64 0, .int .i64 0, .int .i64 0, .string ⟨#[]⟩], .bool false]
theorem tab_le {z : Zn} (hv : z.valid = true) : ∀ a b, a ≤ b → b < z.table.length → (z.table[a]!).at_ ≤ (z.table[b]!).at_ := fun a b hab hb => by
  have ha := (tab_asc (head_tab (valid_parts hv).1).1).1
  rcases Nat.lt_or_eq_of_le hab with h | h
  · rw [getElem!_pos z.table a (by omega), getElem!_pos z.table b hb]
    exact Int.le_of_lt ((List.pairwise_iff_getElem.1 ha) a b _ hb h)
  · rw [h]; exact Int.le_refl _
theorem set4 {w : World} {B : Nat} {a b c d : Value} (k0 : w.cell? ⟨B, 0, none⟩ = some a) (k1 : w.cell? ⟨B, 1, none⟩ = some b) (k2 : w.cell? ⟨B, 2, none⟩ = some c) (k3 : w.cell? ⟨B, 3, none⟩ = some d) (x y z u : Value) (W : World) (hW : W = (((w.setCell ⟨B, 0, none⟩ x).setCell ⟨B, 1, none⟩ y).setCell ⟨B, 2, none⟩ z).setCell ⟨B, 3, none⟩ u) :
    W.cell? ⟨B, 0, none⟩ = some x ∧ W.cell? ⟨B, 1, none⟩ = some y ∧ W.cell? ⟨B, 2, none⟩ = some z ∧ W.cell? ⟨B, 3, none⟩ = some u := by
  subst hW
  obtain ⟨h0, h1, h2⟩ := set3 k0 k1 k2 x y z
  have h3 := (setNe ((w.setCell ⟨B, 0, none⟩ x).setCell ⟨B, 1, none⟩ y) ⟨B, 2, none⟩ ⟨B, 3, none⟩ z (by simp)).trans ((setNe (w.setCell ⟨B, 0, none⟩ x) ⟨B, 1, none⟩ ⟨B, 3, none⟩ y (by simp)).trans ((setNe w ⟨B, 0, none⟩ ⟨B, 3, none⟩ x (by simp)).trans k3))
  exact ⟨(setNe _ ⟨B, 3, none⟩ ⟨B, 0, none⟩ u (by simp)).trans h0, (setNe _ ⟨B, 3, none⟩ ⟨B, 1, none⟩ u (by simp)).trans h1, (setNe _ ⟨B, 3, none⟩ ⟨B, 2, none⟩ u (by simp)).trans h2, World.cell?_setCell_same' _ ⟨B, 3, none⟩ u (by rw [h3]; rfl)⟩
theorem set4_below {w0 w : World} {B q : Nat} (h : Below B w0 w) (hq : B ≤ q) (x y z u : Value) (W : World) (hW : W = (((w.setCell ⟨q, 0, none⟩ x).setCell ⟨q, 1, none⟩ y).setCell ⟨q, 2, none⟩ z).setCell ⟨q, 3, none⟩ u) : Below B w0 W := by
  subst hW
  exact (set3_below h hq x y z).setCell (p := ⟨q, 3, none⟩) hq u
set_option maxRecDepth 100000 in
set_option maxHeartbeats 2000000 in
theorem nextAt_table (z : Zn) (vT vR : Value) (t : Int) (w : World) (hT : Rd Trn.cells 4 w vT z.table) (hR : Rd Rule.cells 11 w vR z.tail) (hll : z.tail.length ≤ 12) (hv : z.valid = true) (hk : z.srch t < z.table.length ∨ z.tail = []) :
    Calls Tryz.prog 48 #[z.v vT vR, .int .i64 t] w fun e w' => e = .returned (optV (z.nextF t)) ∧ Below w.heap.size w w' := by
  have hl := (head_tab (valid_parts hv).1).2
  have HSR := Lib.hid (fun W (hb : Below w.heap.size w W) => search_any z vT vR t W (by omega) (hT.on hb) (tab_le hv))
  have HTT := Lib.hid hT
  obtain ⟨k, hkk⟩ : ∃ k, z.srch t = k := ⟨_, rfl⟩
  rw [hkk] at HSR hk
  obtain ⟨AT, cT, rfl⟩ := rd_vf hT
  obtain ⟨AR, cR, rfl⟩ := rd_vf hR
  have HZC := Lib.hid (alloc_cells w [.string z.nm, .int .i64 z.first.off, .int .i64 z.first.sv, .string z.first.nm, .slice AT z.table.length cT, .slice AR z.tail.length cR, .int .i64 z.off, .string z.form, .int .i64 z.year] 27)
  have HBZ := Lib.hid (show Below w.heap.size w (w.alloc (.cells #[.string z.nm, .int .i64 z.first.off, .int .i64 z.first.sv, .string z.first.nm, .slice AT z.table.length cT, .slice AR z.tail.length cR, .int .i64 z.off, .string z.form, .int .i64 z.year] 27)) from (Below.refl _ _).alloc (Nat.le_refl _) _)
  unfold Zn.v at HSR ⊢
  clear hT hR
  by_cases hlt : k < z.table.length
  · have HX := Lib.hid (nextF_table hv hkk hlt)
    obtain ⟨g, off, hA, hg, hc⟩ : ∃ g off, AT = some ⟨g, off, none⟩ ∧ g < w.heap.size ∧ ∀ i u, (Trn.cells z.table[k]!)[i]? = some u → w.cell? ⟨g, off + k * 4 + i, none⟩ = some u := by
      rcases HTT.out with ⟨e, _⟩ | ⟨g, off, c', hv', hg, hc⟩
      · rw [e] at hlt; simp at hlt
      · injection hv' with e1 _ _
        exact ⟨g, off, e1, hg, fun i u hu => hc k hlt i u hu⟩
    subst hA
    have HC := Lib.hid hc
    rw [HX.out]
    generalize z.table[k]! = x at *
    obtain ⟨xa, xt⟩ := x
    unfold optV
    dsimp only at *
    clear hc hkk hk HX
    have hbW : Below w.heap.size w ((w.alloc (.cells #[.string z.nm, .int .i64 z.first.off, .int .i64 z.first.sv, .string z.first.nm, .slice (some ⟨g, off, none⟩) z.table.length cT, .slice AR z.tail.length cR, .int .i64 z.off, .string z.form, .int .i64 z.year] 27)).alloc (.cells #[.int .i64 0, .int .i64 0, .int .i64 0, .string ⟨#[]⟩] 38)) := HBZ.out.alloc (by simp) _
    have hszW : w.heap.size + 1 < ((w.alloc (.cells #[.string z.nm, .int .i64 z.first.off, .int .i64 z.first.sv, .string z.first.nm, .slice (some ⟨g, off, none⟩) z.table.length cT, .slice AR z.tail.length cR, .int .i64 z.off, .string z.form, .int .i64 z.year] 27)).alloc (.cells #[.int .i64 0, .int .i64 0, .int .i64 0, .string ⟨#[]⟩] 38)).heap.size := by simp
    have rc := alloc_cells (w.alloc (.cells #[.string z.nm, .int .i64 z.first.off, .int .i64 z.first.sv, .string z.first.nm, .slice (some ⟨g, off, none⟩) z.table.length cT, .slice AR z.tail.length cR, .int .i64 z.off, .string z.form, .int .i64 z.year] 27)) [.int .i64 0, .int .i64 0, .int .i64 0, .string ⟨#[]⟩] 38
    have rf := alloc_frozen (w.alloc (.cells #[.string z.nm, .int .i64 z.first.off, .int .i64 z.first.sv, .string z.first.nm, .slice (some ⟨g, off, none⟩) z.table.length cT, .slice AR z.tail.length cR, .int .i64 z.off, .string z.form, .int .i64 z.year] 27)) #[.int .i64 0, .int .i64 0, .int .i64 0, .string ⟨#[]⟩] 38
    rw [World.size_alloc] at rc rf
    have zc : ∀ i u, [Value.string z.nm, .int .i64 z.first.off, .int .i64 z.first.sv, .string z.first.nm, .slice (some ⟨g, off, none⟩) z.table.length cT, .slice AR z.tail.length cR, .int .i64 z.off, .string z.form, .int .i64 z.year][i]? = some u → ((w.alloc (.cells #[.string z.nm, .int .i64 z.first.off, .int .i64 z.first.sv, .string z.first.nm, .slice (some ⟨g, off, none⟩) z.table.length cT, .slice AR z.tail.length cR, .int .i64 z.off, .string z.form, .int .i64 z.year] 27)).alloc (.cells #[.int .i64 0, .int .i64 0, .int .i64 0, .string ⟨#[]⟩] 38)).cell? ⟨w.heap.size, i, none⟩ = some u := fun i u h => Lib.cell?_alloc_some _ (HZC.out i u h)
    have RC := Lib.hid rc
    have RF := Lib.hid rf
    have ZC := Lib.hid zc
    have HBW := Lib.hid hbW
    clear rc rf zc hbW HZC HBZ
    go_enter Tryz.func48, Tryz.ntmps48
    go_wp2_with fail
    generalize ((w.alloc (.cells #[.string z.nm, .int .i64 z.first.off, .int .i64 z.first.sv, .string z.first.nm, .slice (some ⟨g, off, none⟩) z.table.length cT, .slice AR z.tail.length cR, .int .i64 z.off, .string z.form, .int .i64 z.year] 27)).alloc (.cells #[.int .i64 0, .int .i64 0, .int .i64 0, .string ⟨#[]⟩] 38)) = W at *
    refine (HSR.out W HBW.out).mono ?_
    rintro e w3 ⟨rfl, hb3⟩
    have hb30 : Below w.heap.size w w3 := HBW.out.trans (hb3.mono (by omega))
    have hsz3 : w.heap.size + 1 < w3.heap.size := Nat.lt_of_lt_of_le hszW hb3.size
    have x4 := (hb3.cell (p := ⟨w.heap.size, 4, none⟩) (by show w.heap.size < _; omega)).trans (ZC.out 4 _ rfl)
    have hcw := fun i u h => (hb30.cell (p := ⟨g, off + k * 4 + i, none⟩) hg).trans (HC.out i u h)
    have e0 := hcw 0 _ rfl
    have e1 := hcw 1 _ rfl
    have e2 := hcw 2 _ rfl
    have e3 := hcw 3 _ rfl
    rw [Nat.add_zero] at e0
    have r0 := (hb3.cell (p := ⟨w.heap.size + 1, 0, none⟩) hszW).trans (RC.out 0 _ rfl)
    have r1 := (hb3.cell (p := ⟨w.heap.size + 1, 1, none⟩) hszW).trans (RC.out 1 _ rfl)
    have r2 := (hb3.cell (p := ⟨w.heap.size + 1, 2, none⟩) hszW).trans (RC.out 2 _ rfl)
    have r3 := (hb3.cell (p := ⟨w.heap.size + 1, 3, none⟩) hszW).trans (RC.out 3 _ rfl)
    have rf := fun i => (hb3.frozen (p := ⟨w.heap.size + 1, i, none⟩) hszW).trans (RF.out i)
    clear hcw
    go_wp2
    obtain ⟨s0, s1, s2, s3⟩ := set4 r0 r1 r2 r3 (.int .i64 xa) (.int .i64 xt.off) (.int .i64 xt.sv) (.string xt.nm) _ rfl
    have hB9 := set4_below hb30 (Nat.le_succ _) (.int .i64 xa) (.int .i64 xt.off) (.int .i64 xt.sv) (.string xt.nm) _ rfl
    generalize (((w3.setCell ⟨w.heap.size + 1, 0, none⟩ (.int .i64 xa)).setCell ⟨w.heap.size + 1, 1, none⟩ (.int .i64 xt.off)).setCell ⟨w.heap.size + 1, 2, none⟩ (.int .i64 xt.sv)).setCell ⟨w.heap.size + 1, 3, none⟩ (.string xt.nm) = w9 at *
    exact bodyPost_ret (v := .tuple #[.agg #[.int .i64 xa, .int .i64 xt.off, .int .i64 xt.sv, .string xt.nm], .bool true]) (by simp [results, Tryz.results48, go_sem, s0, s1, s2, s3]) rfl ⟨rfl, hB9⟩
  · have h0 := hk.resolve_left hlt
    have hX : z.nextF t = none := (nextF_tail hv (by rw [show z.table.countP (fun x => !decide (t < x.at_)) = k from hkk]; exact hlt)).trans (if_pos h0)
    have HL0 := Lib.hid (show z.tail.length = 0 by rw [h0]; rfl)
    rw [hX]
    unfold optV
    clear hkk hk hX h0
    have hbW : Below w.heap.size w ((w.alloc (.cells #[.string z.nm, .int .i64 z.first.off, .int .i64 z.first.sv, .string z.first.nm, .slice AT z.table.length cT, .slice AR z.tail.length cR, .int .i64 z.off, .string z.form, .int .i64 z.year] 27)).alloc (.cells #[.int .i64 0, .int .i64 0, .int .i64 0, .string ⟨#[]⟩] 38)) := HBZ.out.alloc (by simp) _
    have hszW : w.heap.size + 1 < ((w.alloc (.cells #[.string z.nm, .int .i64 z.first.off, .int .i64 z.first.sv, .string z.first.nm, .slice AT z.table.length cT, .slice AR z.tail.length cR, .int .i64 z.off, .string z.form, .int .i64 z.year] 27)).alloc (.cells #[.int .i64 0, .int .i64 0, .int .i64 0, .string ⟨#[]⟩] 38)).heap.size := by simp
    have rc := alloc_cells (w.alloc (.cells #[.string z.nm, .int .i64 z.first.off, .int .i64 z.first.sv, .string z.first.nm, .slice AT z.table.length cT, .slice AR z.tail.length cR, .int .i64 z.off, .string z.form, .int .i64 z.year] 27)) [.int .i64 0, .int .i64 0, .int .i64 0, .string ⟨#[]⟩] 38
    have rf := alloc_frozen (w.alloc (.cells #[.string z.nm, .int .i64 z.first.off, .int .i64 z.first.sv, .string z.first.nm, .slice AT z.table.length cT, .slice AR z.tail.length cR, .int .i64 z.off, .string z.form, .int .i64 z.year] 27)) #[.int .i64 0, .int .i64 0, .int .i64 0, .string ⟨#[]⟩] 38
    rw [World.size_alloc] at rc rf
    have zc : ∀ i u, [Value.string z.nm, .int .i64 z.first.off, .int .i64 z.first.sv, .string z.first.nm, .slice AT z.table.length cT, .slice AR z.tail.length cR, .int .i64 z.off, .string z.form, .int .i64 z.year][i]? = some u → ((w.alloc (.cells #[.string z.nm, .int .i64 z.first.off, .int .i64 z.first.sv, .string z.first.nm, .slice AT z.table.length cT, .slice AR z.tail.length cR, .int .i64 z.off, .string z.form, .int .i64 z.year] 27)).alloc (.cells #[.int .i64 0, .int .i64 0, .int .i64 0, .string ⟨#[]⟩] 38)).cell? ⟨w.heap.size, i, none⟩ = some u := fun i u h => Lib.cell?_alloc_some _ (HZC.out i u h)
    have RC := Lib.hid rc
    have RF := Lib.hid rf
    have ZC := Lib.hid zc
    have HBW := Lib.hid hbW
    clear rc rf zc hbW HZC HBZ
    go_enter Tryz.func48, Tryz.ntmps48
    go_wp2_with fail
    generalize ((w.alloc (.cells #[.string z.nm, .int .i64 z.first.off, .int .i64 z.first.sv, .string z.first.nm, .slice AT z.table.length cT, .slice AR z.tail.length cR, .int .i64 z.off, .string z.form, .int .i64 z.year] 27)).alloc (.cells #[.int .i64 0, .int .i64 0, .int .i64 0, .string ⟨#[]⟩] 38)) = W at *
    refine (HSR.out W HBW.out).mono ?_
    rintro e w3 ⟨rfl, hb3⟩
    have hb30 : Below w.heap.size w w3 := HBW.out.trans (hb3.mono (by omega))
    have hsz3 : w.heap.size + 1 < w3.heap.size := Nat.lt_of_lt_of_le hszW hb3.size
    have x5 := (hb3.cell (p := ⟨w.heap.size, 5, none⟩) (by show w.heap.size < _; omega)).trans (ZC.out 5 _ rfl)
    rw [HL0.out] at x5
    have x4 := (hb3.cell (p := ⟨w.heap.size, 4, none⟩) (by show w.heap.size < _; omega)).trans (ZC.out 4 _ rfl)
    have r0 := (hb3.cell (p := ⟨w.heap.size + 1, 0, none⟩) hszW).trans (RC.out 0 _ rfl)
    have r1 := (hb3.cell (p := ⟨w.heap.size + 1, 1, none⟩) hszW).trans (RC.out 1 _ rfl)
    have r2 := (hb3.cell (p := ⟨w.heap.size + 1, 2, none⟩) hszW).trans (RC.out 2 _ rfl)
    have r3 := (hb3.cell (p := ⟨w.heap.size + 1, 3, none⟩) hszW).trans (RC.out 3 _ rfl)
    have rf := fun i => (hb3.frozen (p := ⟨w.heap.size + 1, i, none⟩) hszW).trans (RF.out i)
    go_wp2
    obtain ⟨s0, s1, s2, s3⟩ := set4 r0 r1 r2 r3 (.int .i64 0) (.int .i64 0) (.int .i64 0) (.string ⟨#[]⟩) _ rfl
    have hB9 := set4_below hb30 (Nat.le_succ _) (.int .i64 0) (.int .i64 0) (.int .i64 0) (.string ⟨#[]⟩) _ rfl
    generalize (((w3.setCell ⟨w.heap.size + 1, 0, none⟩ (.int .i64 0)).setCell ⟨w.heap.size + 1, 1, none⟩ (.int .i64 0)).setCell ⟨w.heap.size + 1, 2, none⟩ (.int .i64 0)).setCell ⟨w.heap.size + 1, 3, none⟩ (.string ⟨#[]⟩) = w9 at *
    exact bodyPost_ret (v := .tuple #[.agg #[.int .i64 0, .int .i64 0, .int .i64 0, .string ⟨#[]⟩], .bool false]) (by simp [results, Tryz.results48, go_sem, s0, s1, s2, s3]) rfl ⟨rfl, hB9⟩

theorem tailL_len (z : Zn) (hll : z.tail.length ≤ 12) {f t : Int} (h : t - f ≤ 10) : (z.tailL f t).length ≤ 1000 := by
  unfold Zn.tailL
  split
  · simp
  · rename_i hc
    obtain ⟨F, hF⟩ : ∃ F, max f z.year = F := ⟨_, rfl⟩
    obtain ⟨E, hE⟩ : ∃ E, min t 9999 = E := ⟨_, rfl⟩
    rw [hF, hE] at hc ⊢
    rw [List.length_map]
    unfold Zn.winW
    have hst : z.start F = z.year ∨ z.start F = F - 9 := by unfold Zn.start; split <;> omega
    have hst2 : F - 9 ≤ z.start F := by unfold Zn.start; split <;> omega
    generalize z.start F = S at *
    have h3 := (trans_sub z.lastT (S == z.year) (z.happ z.lastT.sv (evT z.tail S (E - S + 1).toNat))).length_le
    have h0 := happ_len z z.lastT.sv (evT z.tail S (E - S + 1).toNat)
    have h1 := evY_len z.tail S (E - S + 1).toNat
    rw [← evT_evY, List.length_map] at h1
    have h2 := Nat.mul_le_mul (show (E - S + 1).toNat ≤ 21 by omega) hll
    omega
theorem find_at {α : Type} [Inhabited α] {p : α → Bool} {l : List α} {q : Nat} (hq : q < l.length) (h : (l.take q).find? p = none) (h2 : p l[q]! = true) : l.find? p = some l[q]! := by
  have e : l = l.take q ++ (l[q]! :: l.drop (q + 1)) := by
    rw [getElem!_pos l q hq, ← List.drop_eq_getElem_cons hq, List.take_append_drop]
  conv => lhs; rw [e]
  rw [List.find?_append, h, List.find?_cons, h2]; rfl
theorem find_past {α : Type} [Inhabited α] {p : α → Bool} {l : List α} {q : Nat} (hq : q < l.length) (h : (l.take q).find? p = none) (h2 : p l[q]! = false) : (l.take (q + 1)).find? p = none := by
  rw [List.take_succ_eq_append_getElem hq, List.find?_append, h, List.find?_cons, ← getElem!_pos l q hq, h2]; rfl
theorem yearOf_det (t : Int) (h1 : -62135596800 ≤ t) (h2 : t < 253402300800) : ∃ Y, YearOf t Y ∧ ∀ w, Calls Tryz.prog 44 #[.int .i64 t] w fun e w' => e = .returned (.int .i64 Y) ∧ Below w.heap.size w w' := by
  obtain ⟨y, m, d, hv, hc, hf1, hf2⟩ := day_exists (D := t / 86400) (by omega) (by omega)
  have hy := Cv.validB_iff.1 hv
  refine ⟨y, ⟨hy.1, hy.2.1, by omega, by omega⟩, fun w => ?_⟩
  have HD := Lib.hid (fun W => civil_Date y m d W hv)
  rw [hc] at HD
  have hb1 : -719162 ≤ t / 86400 := by omega
  have hb2 : t / 86400 < 2932897 := by omega
  clear hv hc hf1 hf2 hy
  have E1 := Lib.hid (show max t (-62135596800) = t by omega)
  have E2 := Lib.hid (show min t 253402300799 = t by omega)
  go_enter Tryz.func44, Tryz.ntmps44
  go_wp2_with (first
    | (go_at_call 95; rw [E1.out, E2.out]; refine (Split_any t _ h1 h2).mono ?_; rintro e w1 ⟨rfl, hb1⟩)
    | (go_at_call 95; refine (Split_any t _ h1 h2).mono ?_; rintro e w1 ⟨rfl, hb1⟩)
    | (go_at_call 96; refine (HD.out _).mono ?_; rintro e w2 ⟨rfl, hb2⟩))
  go_ret
  exact ⟨rfl, ((hb1.trans (hb2.mono hb1.size))).alloc (by have := hb1.size; have := hb2.size; omega) _⟩
set_option maxRecDepth 100000 in
set_option maxHeartbeats 8000000 in
theorem nextAt_tail (z : Zn) (vT vR : Value) (t : Int) (w : World) (hm : HasMax w) (hT : Rd Trn.cells 4 w vT z.table) (hR : Rd Rule.cells 11 w vR z.tail) (hfs : z.form.size < 4294967281) (hll : z.tail.length ≤ 12) (hv : z.valid = true) (ht1 : -62135596800 ≤ t) (ht2 : t < 253402300800) (hlt : ¬ z.srch t < z.table.length) (h0 : z.tail ≠ []) :
    Calls Tryz.prog 48 #[z.v vT vR, .int .i64 t] w fun e w' => e = .returned (optV (z.nextF t)) ∧ Below w.heap.size w w' := by
  have hl := (head_tab (valid_parts hv).1).2
  have ok := valid_tail hv h0
  have y1 := ok.y1
  have y2 := ok.y2
  obtain ⟨Y, hY, hYC⟩ := yearOf_det t ht1 ht2
  have hY1 := hY.y1
  have hY2 := hY.y2
  have HSR := Lib.hid (fun W (hb : Below w.heap.size w W) => search_any z vT vR t W (by omega) (hT.on hb) (tab_le hv))
  have HYC := Lib.hid hYC
  have HYO := Lib.hid hY
  have OK := Lib.hid ok
  have HTT := Lib.hid hT
  have HRR := Lib.hid hR
  have HM := Lib.hid hm
  have HX := Lib.hid ((nextF_tail hv hlt).trans (if_neg h0))
  have hne0 : ((z.tail.length : Int) == 0) = false := by
    have : 0 < z.tail.length := List.length_pos_iff.2 h0
    simp; omega
  obtain ⟨k, hkk⟩ : ∃ k, z.srch t = k := ⟨_, rfl⟩
  rw [hkk] at HSR hlt
  obtain ⟨AT, cT, rfl⟩ := rd_vf hT
  obtain ⟨AR, cR, rfl⟩ := rd_vf hR
  have HZC := Lib.hid (alloc_cells w [.string z.nm, .int .i64 z.first.off, .int .i64 z.first.sv, .string z.first.nm, .slice AT z.table.length cT, .slice AR z.tail.length cR, .int .i64 z.off, .string z.form, .int .i64 z.year] 27)
  have HBZ := Lib.hid (show Below w.heap.size w (w.alloc (.cells #[.string z.nm, .int .i64 z.first.off, .int .i64 z.first.sv, .string z.first.nm, .slice AT z.table.length cT, .slice AR z.tail.length cR, .int .i64 z.off, .string z.form, .int .i64 z.year] 27)) from (Below.refl _ _).alloc (Nat.le_refl _) _)
  rw [HX.out]
  clear hT hR hm hY hYC hkk ok h0 hv HX
  unfold Zn.v at HSR ⊢
  have hbW : Below w.heap.size w ((w.alloc (.cells #[.string z.nm, .int .i64 z.first.off, .int .i64 z.first.sv, .string z.first.nm, .slice AT z.table.length cT, .slice AR z.tail.length cR, .int .i64 z.off, .string z.form, .int .i64 z.year] 27)).alloc (.cells #[.int .i64 0, .int .i64 0, .int .i64 0, .string ⟨#[]⟩] 38)) := HBZ.out.alloc (by simp) _
  have hszW : w.heap.size + 1 < ((w.alloc (.cells #[.string z.nm, .int .i64 z.first.off, .int .i64 z.first.sv, .string z.first.nm, .slice AT z.table.length cT, .slice AR z.tail.length cR, .int .i64 z.off, .string z.form, .int .i64 z.year] 27)).alloc (.cells #[.int .i64 0, .int .i64 0, .int .i64 0, .string ⟨#[]⟩] 38)).heap.size := by simp
  have rc := alloc_cells (w.alloc (.cells #[.string z.nm, .int .i64 z.first.off, .int .i64 z.first.sv, .string z.first.nm, .slice AT z.table.length cT, .slice AR z.tail.length cR, .int .i64 z.off, .string z.form, .int .i64 z.year] 27)) [.int .i64 0, .int .i64 0, .int .i64 0, .string ⟨#[]⟩] 38
  have rf := alloc_frozen (w.alloc (.cells #[.string z.nm, .int .i64 z.first.off, .int .i64 z.first.sv, .string z.first.nm, .slice AT z.table.length cT, .slice AR z.tail.length cR, .int .i64 z.off, .string z.form, .int .i64 z.year] 27)) #[.int .i64 0, .int .i64 0, .int .i64 0, .string ⟨#[]⟩] 38
  rw [World.size_alloc] at rc rf
  have zc : ∀ i u, [Value.string z.nm, .int .i64 z.first.off, .int .i64 z.first.sv, .string z.first.nm, .slice AT z.table.length cT, .slice AR z.tail.length cR, .int .i64 z.off, .string z.form, .int .i64 z.year][i]? = some u → ((w.alloc (.cells #[.string z.nm, .int .i64 z.first.off, .int .i64 z.first.sv, .string z.first.nm, .slice AT z.table.length cT, .slice AR z.tail.length cR, .int .i64 z.off, .string z.form, .int .i64 z.year] 27)).alloc (.cells #[.int .i64 0, .int .i64 0, .int .i64 0, .string ⟨#[]⟩] 38)).cell? ⟨w.heap.size, i, none⟩ = some u := fun i u h => Lib.cell?_alloc_some _ (HZC.out i u h)
  have RC := Lib.hid rc
  have RF := Lib.hid rf
  have ZC := Lib.hid zc
  have HBW := Lib.hid hbW
  clear rc rf zc hbW HZC HBZ
  go_enter Tryz.func48, Tryz.ntmps48
  go_wp2_with fail
  generalize ((w.alloc (.cells #[.string z.nm, .int .i64 z.first.off, .int .i64 z.first.sv, .string z.first.nm, .slice AT z.table.length cT, .slice AR z.tail.length cR, .int .i64 z.off, .string z.form, .int .i64 z.year] 27)).alloc (.cells #[.int .i64 0, .int .i64 0, .int .i64 0, .string ⟨#[]⟩] 38)) = W at *
  refine (HSR.out W HBW.out).mono ?_
  rintro e w3 ⟨rfl, hb3⟩
  have hb30 : Below w.heap.size w w3 := HBW.out.trans (hb3.mono (by omega))
  have hsz3 : w.heap.size + 1 < w3.heap.size := Nat.lt_of_lt_of_le hszW hb3.size
  have x5 := (hb3.cell (p := ⟨w.heap.size, 5, none⟩) (by show w.heap.size < _; omega)).trans (ZC.out 5 _ rfl)
  have x4 := (hb3.cell (p := ⟨w.heap.size, 4, none⟩) (by show w.heap.size < _; omega)).trans (ZC.out 4 _ rfl)
  have r0 := (hb3.cell (p := ⟨w.heap.size + 1, 0, none⟩) hszW).trans (RC.out 0 _ rfl)
  have r1 := (hb3.cell (p := ⟨w.heap.size + 1, 1, none⟩) hszW).trans (RC.out 1 _ rfl)
  have r2 := (hb3.cell (p := ⟨w.heap.size + 1, 2, none⟩) hszW).trans (RC.out 2 _ rfl)
  have r3 := (hb3.cell (p := ⟨w.heap.size + 1, 3, none⟩) hszW).trans (RC.out 3 _ rfl)
  have rf := fun i => (hb3.frozen (p := ⟨w.heap.size + 1, i, none⟩) hszW).trans (RF.out i)
  have hsz3' : w.heap.size < w3.heap.size := by omega
  have x8 := (hb3.cell (p := ⟨w.heap.size, 8, none⟩) (by show w.heap.size < _; omega)).trans (ZC.out 8 _ rfl)
  have Z3 := Lib.hid (fun i u h => (hb3.cell (p := ⟨w.heap.size, i, none⟩) (by show w.heap.size < _; omega)).trans (ZC.out i u h))
  have hd3 : Below w3.heap.size w3 w3.drew := below_drewN (Below.refl w3.heap.size w3) 1
  have HS := Lib.hid (fun w' (hb : Below w3.heap.size w3 w') => And.intro hb ((hb.cell (p := ⟨w.heap.size, 8, none⟩) hsz3').trans x8))
  go_wp2
  go_region_held3 (fun w' => Below w3.heap.size w3 w' ∧ w'.cell? ⟨w.heap.size, 8, none⟩ = some (.int .i64 z.year)) (first | exact HS.out _ hd3 | exact HS.out _ ((by assumption : Below w3.heap.size w3 _ ∧ _).1.trans (hb6.mono (by assumption : Below w3.heap.size w3 _ ∧ _).1.size)) | go_keep)
    (first | (go_at_call 44; refine (HYC.out _).mono ?_; rintro e w6 ⟨rfl, hb6⟩))
  rename_i hHeld
  have hb36 := hHeld.1
  have hwY : IntKind.i64.wrap (Y - 1) = Y - 1 := by rw [IntKind.wrap_i64]; omega
  rw [hwY]
  obtain ⟨F, hF⟩ : ∃ F, max z.year (Y - 1) = F := ⟨_, rfl⟩
  rw [hF]
  have hF1 : z.year ≤ F ∧ 1 ≤ F ∧ F ≤ 9999 := by omega
  have hb60 : Below w.heap.size w w6 := hb30.trans (hb36.mono (by omega))
  have hsz6 : w.heap.size + 1 < w6.heap.size := Nat.lt_of_lt_of_le hsz3 hb36.size
  have Z6 := Lib.hid (fun i u h => (hb36.cell (p := ⟨w.heap.size, i, none⟩) hsz3').trans (Z3.out i u h))
  have R6 := Lib.hid (And.intro ((hb36.cell (p := ⟨w.heap.size + 1, 0, none⟩) hsz3).trans r0) (And.intro ((hb36.cell (p := ⟨w.heap.size + 1, 1, none⟩) hsz3).trans r1) (And.intro ((hb36.cell (p := ⟨w.heap.size + 1, 2, none⟩) hsz3).trans r2) ((hb36.cell (p := ⟨w.heap.size + 1, 3, none⟩) hsz3).trans r3))))
  have RF6 := Lib.hid (fun i => (hb36.frozen (p := ⟨w.heap.size + 1, i, none⟩) hsz3).trans (rf i))
  have hP0 := past_start OK.out HYO.out
  rw [hF] at hP0
  have HP0 := Lib.hid hP0
  have HFE := Lib.hid hF.symm
  clear hP0 hHeld hb36 hb6 HS hd3 x8 Z3 r0 r1 r2 r3 rf hb3 hb30 x4 x5 hsz3 hsz3' hwY hF RC RF ZC HBW hlt
  go_wp2
  go_loopw [8] (fun v wv => ∃ j : Nat, v = .int .i64 (F + 9 * j) ∧ j ≤ 5 ∧ Below w6.heap.size w6 wv ∧ Hid (z.past t (F + 9 * j))) (fun v _ => (30000 - intOf v).toNat)
  case atStart => exact ⟨0, by simp, by omega, Below.refl _ _, by rw [show F + 9 * ((0 : Nat) : Int) = F by omega]; exact HP0⟩
  case round =>
    obtain ⟨j, rfl, hj, hbv, HP⟩ := hrel
    have hbv0 : Below w.heap.size w wr := hb60.trans (hbv.mono (by omega))
    have hszv : w.heap.size + 1 < wr.heap.size := Nat.lt_of_lt_of_le hsz6 hbv.size
    obtain ⟨y, hy⟩ : ∃ y, F + 9 * (j : Int) = y := ⟨_, rfl⟩
    rw [hy] at HP ⊢
    obtain ⟨M, hM⟩ : ∃ M, min 9999 (F + 27) = M := ⟨_, rfl⟩
    have zv := fun i u h => (hbv.cell (p := ⟨w.heap.size, i, none⟩) (by show w.heap.size < _; omega)).trans (Z6.out i u h)
    have q0 := (hbv.cell (p := ⟨w.heap.size + 1, 0, none⟩) hsz6).trans R6.out.1
    have q1 := (hbv.cell (p := ⟨w.heap.size + 1, 1, none⟩) hsz6).trans R6.out.2.1
    have q2 := (hbv.cell (p := ⟨w.heap.size + 1, 2, none⟩) hsz6).trans R6.out.2.2.1
    have q3 := (hbv.cell (p := ⟨w.heap.size + 1, 3, none⟩) hsz6).trans R6.out.2.2.2
    have qf := fun i => (hbv.frozen (p := ⟨w.heap.size + 1, i, none⟩) hsz6).trans (RF6.out i)
    by_cases hlt : y ≤ M
    · have e98 : y + 9 - 1 = y + 8 := by omega
      have HTA := Lib.hid (tail_any z _ _ y (y + 9 - 1) wr (HM.out.on hbv0) (by omega) (HTT.out.on hbv0) (HRR.out.on hbv0) hfs hll (fun _ => OK.out) (by omega) (by omega) (by omega))
      unfold TailEnd at HTA
      unfold Zn.v at HTA
      rw [show z.tailL y (y + 9 - 1) = z.tailL y (y + 8) by rw [e98]] at HTA
      have HHIT := Lib.hid (fun x h => past_hit OK.out (show z.year ≤ y by omega) (show y ≤ 9999 by omega) HP.out (x := x) h)
      have HSTEP := Lib.hid (fun h => past_step OK.out (show z.year ≤ y by omega) (show y ≤ 9999 by omega) HP.out h)
      have hLL : (z.tailL y (y + 8)).length ≤ 1000 := tailL_len z hll (by omega)
      generalize z.tailL y (y + 8) = L at *
      have zv0 := zv 0 _ rfl
      have zv1 := zv 1 _ rfl
      have zv2 := zv 2 _ rfl
      have zv3 := zv 3 _ rfl
      have zv4 := zv 4 _ rfl
      have zv5 := zv 5 _ rfl
      have zv6 := zv 6 _ rfl
      have zv7 := zv 7 _ rfl
      have zv8 := zv 8 _ rfl
      clear zv e98
      go_wp2_with (go_at_call 45; refine HTA.out.mono ?_; rintro e w7 ⟨v7, rfl, hr7, hb7, _⟩; obtain ⟨A7, c7, rfl⟩ := rd_vf hr7)
      generalize hw8 : wr = w8 at *
      clear hw8
      have hsz7 : w.heap.size + 1 < w7.heap.size := Nat.lt_of_lt_of_le hszv hb7.size
      have R7 := Lib.hid hr7
      have p0 := (hb7.cell (p := ⟨w.heap.size + 1, 0, none⟩) hszv).trans q0
      have p1 := (hb7.cell (p := ⟨w.heap.size + 1, 1, none⟩) hszv).trans q1
      have p2 := (hb7.cell (p := ⟨w.heap.size + 1, 2, none⟩) hszv).trans q2
      have p3 := (hb7.cell (p := ⟨w.heap.size + 1, 3, none⟩) hszv).trans q3
      have pf := fun i => (hb7.frozen (p := ⟨w.heap.size + 1, i, none⟩) hszv).trans (qf i)
      have PP := Lib.hid (And.intro p0 (And.intro p1 (And.intro p2 p3)))
      have PF := Lib.hid pf
      have hb70 : Below w.heap.size w w7 := hbv0.trans (hb7.mono (by omega))
      clear zv0 zv1 zv2 zv3 zv4 zv5 zv6 zv7 zv8 hr7 HTA q0 q1 q2 q3 qf p0 p1 p2 p3 pf
      go_loopw [50] (fun i wv => ∃ q : Nat, q ≤ L.length ∧ i = .int .i64 q ∧ Below w7.heap.size w7 wv ∧ Hid ((L.take q).find? (fun x => decide (t < x.at_)) = none)) (fun i _ => L.length - (intOf i).toNat)
      case atStart => exact ⟨0, Nat.zero_le _, rfl, Below.refl _ _, Lib.hid rfl⟩
      case round =>
        obtain ⟨q, hq, rfl, hbq, HQ⟩ := hrel
        have hszq : w.heap.size + 1 < wr.heap.size := Nat.lt_of_lt_of_le hsz7 hbq.size
        have hbq0 : Below w.heap.size w wr := hb70.trans (hbq.mono (by omega))
        by_cases hlq : q < L.length
        · obtain ⟨g, off, hA, hg, hc⟩ : ∃ g off, A7 = some ⟨g, off, none⟩ ∧ g < wr.heap.size ∧ ∀ i u, (Trn.cells L[q]!)[i]? = some u → wr.cell? ⟨g, off + q * 4 + i, none⟩ = some u := by
            rcases R7.out.on hbq with ⟨e, _⟩ | ⟨g, off, c', hv', hg, hc⟩
            · rw [e] at hlq; simp at hlq
            · injection hv' with e1 _ _
              exact ⟨g, off, e1, hg, fun i u hu => hc q hlq i u hu⟩
          subst hA
          have e0 := hc 0 _ rfl
          have e1 := hc 1 _ rfl
          have e2 := hc 2 _ rfl
          have e3 := hc 3 _ rfl
          rw [Nat.add_zero] at e0
          have HFA := Lib.hid (fun h => find_at (p := fun x => decide (t < x.at_)) hlq HQ.out h)
          have HFP := Lib.hid (fun h => find_past (p := fun x => decide (t < x.at_)) hlq HQ.out h)
          generalize L[q]! = x at *
          obtain ⟨xa, xt⟩ := x
          dsimp only at *
          clear hc
          by_cases hat : t < xa
          · have HN := Lib.hid (HHIT.out _ (HFA.out (decide_eq_true hat)))
            have dd : decide (t < xa) = true := decide_eq_true hat
            have k0 := (hbq.cell (p := ⟨w.heap.size + 1, 0, none⟩) hsz7).trans PP.out.1
            have k1 := (hbq.cell (p := ⟨w.heap.size + 1, 1, none⟩) hsz7).trans PP.out.2.1
            have k2 := (hbq.cell (p := ⟨w.heap.size + 1, 2, none⟩) hsz7).trans PP.out.2.2.1
            have k3 := (hbq.cell (p := ⟨w.heap.size + 1, 3, none⟩) hsz7).trans PP.out.2.2.2
            have kf := fun i => (hbq.frozen (p := ⟨w.heap.size + 1, i, none⟩) hsz7).trans (PF.out i)
            clear HFA HFP
            go_wp2
            obtain ⟨s0, s1, s2, s3⟩ := set4 k0 k1 k2 k3 (.int .i64 xa) (.int .i64 xt.off) (.int .i64 xt.sv) (.string xt.nm) _ rfl
            have hB9 := set4_below hbq0 (Nat.le_succ _) (.int .i64 xa) (.int .i64 xt.off) (.int .i64 xt.sv) (.string xt.nm) _ rfl
            generalize (((wr.setCell ⟨w.heap.size + 1, 0, none⟩ (.int .i64 xa)).setCell ⟨w.heap.size + 1, 1, none⟩ (.int .i64 xt.off)).setCell ⟨w.heap.size + 1, 2, none⟩ (.int .i64 xt.sv)).setCell ⟨w.heap.size + 1, 3, none⟩ (.string xt.nm) = w9 at *
            have u0 := Lib.cell?_alloc_some (.cells #[.int .i64 xa, .int .i64 xt.off, .int .i64 xt.sv, .string xt.nm] 38) s0
            have u1 := Lib.cell?_alloc_some (.cells #[.int .i64 xa, .int .i64 xt.off, .int .i64 xt.sv, .string xt.nm] 38) s1
            have u2 := Lib.cell?_alloc_some (.cells #[.int .i64 xa, .int .i64 xt.off, .int .i64 xt.sv, .string xt.nm] 38) s2
            have u3 := Lib.cell?_alloc_some (.cells #[.int .i64 xa, .int .i64 xt.off, .int .i64 xt.sv, .string xt.nm] 38) s3
            have hB10 : Below w.heap.size w (w9.alloc (.cells #[.int .i64 xa, .int .i64 xt.off, .int .i64 xt.sv, .string xt.nm] 38)) := hB9.alloc hB9.size _
            generalize w9.alloc (.cells #[.int .i64 xa, .int .i64 xt.off, .int .i64 xt.sv, .string xt.nm] 38) = w10 at *
            exact bodyPost_ret (v := .tuple #[.agg #[.int .i64 xa, .int .i64 xt.off, .int .i64 xt.sv, .string xt.nm], .bool true]) (by simp [results, Tryz.results48, go_sem, u0, u1, u2, u3]) rfl ⟨by rw [HN.out]; rfl, hB10⟩
          · have HS := Lib.hid (HFP.out (decide_eq_false hat))
            have dd : decide (t < xa) = false := decide_eq_false hat
            clear HFA HFP
            go_wp2
            go_roundw
            case rel => exact ⟨q + 1, by omega, by go_num, hbq.alloc hbq.size _, HS⟩
            case measure => simp [intOf]; omega
        · have hqe : q = L.length := by omega
          subst hqe
          rw [List.take_length] at HQ
          have HS := Lib.hid (HSTEP.out HQ.out)
          go_wp2
          go_roundw
          case rel => exact ⟨j + 1, by go_num, by omega, (hbv.trans (hb7.mono hbv.size)).trans (hbq.mono (Nat.le_trans hbv.size hb7.size)), by rw [show F + 9 * ((j + 1 : Nat) : Int) = y + 9 by omega]; exact HS⟩
          case measure => simp [intOf]; omega
    · have HX := Lib.hid (past_end OK.out HYO.out HFE.out HP.out hy.symm (by omega))
      clear zv
      go_wp2
      obtain ⟨s0, s1, s2, s3⟩ := set4 q0 q1 q2 q3 (.int .i64 0) (.int .i64 0) (.int .i64 0) (.string ⟨#[]⟩) _ rfl
      have hB9 := set4_below hbv0 (Nat.le_succ _) (.int .i64 0) (.int .i64 0) (.int .i64 0) (.string ⟨#[]⟩) _ rfl
      generalize (((wr.setCell ⟨w.heap.size + 1, 0, none⟩ (.int .i64 0)).setCell ⟨w.heap.size + 1, 1, none⟩ (.int .i64 0)).setCell ⟨w.heap.size + 1, 2, none⟩ (.int .i64 0)).setCell ⟨w.heap.size + 1, 3, none⟩ (.string ⟨#[]⟩) = w9 at *
      exact bodyPost_ret (v := .tuple #[.agg #[.int .i64 0, .int .i64 0, .int .i64 0, .string ⟨#[]⟩], .bool false]) (by simp [results, Tryz.results48, go_sem, s0, s1, s2, s3]) rfl ⟨by rw [HX.out]; rfl, hB9⟩

end Go.Proofs.YtdpkolnfbimheaaGreat

/- zone.Next. -/
namespace Go.Proofs.YtdpkolnfbimheaaGreat
set_option linter.unusedSimpArgs false
set_option linter.unusedVariables false
open Go.ChangeShapes Go.WideShapes Go.ChangeAt Go.RowKit

def inT (t : Int) : Bool := decide (-62135596800 ≤ t) && decide (t < 253402300800)
theorem instant_any (t : Int) (w : World) : Calls Tryz.prog 47 #[.int .i64 t] w fun e w' => e = .returned (.bool (inT t)) ∧ w = w' := by
  unfold inT
  by_cases h1 : -62135596800 ≤ t
  · rw [decide_eq_true h1]
    go_enter Tryz.func47, Tryz.ntmps47
    go_wp2
    go_ret
    exact ⟨ret1 (vbool (by simp)), rfl⟩
  · rw [decide_eq_false h1]
    go_enter Tryz.func47, Tryz.ntmps47
    go_wp2
    go_ret
    exact ⟨rfl, rfl⟩
theorem optV_form (o : Option Trn) : ∃ xa o1 o2 o3 b, optV o = .tuple #[.agg #[.int .i64 xa, .int .i64 o1, .int .i64 o2, .string o3], .bool b] := by
  cases o with
  | none => exact ⟨_, _, _, _, _, rfl⟩
  | some x => exact ⟨_, _, _, _, _, rfl⟩
theorem nextAt_any (z : Zn) (vT vR : Value) (t : Int) (w : World) (hm : HasMax w) (hT : Rd Trn.cells 4 w vT z.table) (hR : Rd Rule.cells 11 w vR z.tail) (hfs : z.form.size < 4294967281) (hll : z.tail.length ≤ 12) (hv : z.valid = true) (ht : inT t = true) :
    Calls Tryz.prog 48 #[z.v vT vR, .int .i64 t] w fun e w' => e = .returned (optV (z.nextF t)) ∧ Below w.heap.size w w' := by
  unfold inT at ht
  simp only [Bool.and_eq_true, decide_eq_true_eq] at ht
  by_cases hk : z.srch t < z.table.length ∨ z.tail = []
  · exact nextAt_table z vT vR t w hT hR hll hv hk
  · exact nextAt_tail z vT vR t w hm hT hR hfs hll hv ht.1 ht.2 (fun e => hk (.inl e)) (fun e => hk (.inr e))
theorem valid_len {z : Zn} (hv : z.valid = true) (hll : z.tail.length ≤ 12 ∨ 100 < z.tail.length) : z.tail.length ≤ 12 := by
  rcases hll with h | h
  · exact h
  · have h2 := (valid_parts hv).2
    unfold Zn.tailB at h2
    rw [if_neg (by intro e; rw [e] at h; simp at h)] at h2
    simp only [Bool.and_eq_true, decide_eq_true_eq] at h2
    omega
/-- what zone.Next returns -/
def Zn.nextV (z : Zn) (t : Int) : Option Trn := if inT t = true ∧ z.valid = true then z.nextF t else none
set_option maxRecDepth 100000 in
set_option maxHeartbeats 4000000 in
theorem Next_any (z : Zn) (vT vR : Value) (t : Int) (w : World) (hm : HasMax w) (hT : Rd Trn.cells 4 w vT z.table) (hR : Rd Rule.cells 11 w vR z.tail) (hfs : z.form.size < 4294967281) (hll : z.tail.length ≤ 12 ∨ 100 < z.tail.length) :
    Calls Tryz.prog 15 #[z.v vT vR, .int .i64 t] w fun e w' => e = .returned (optV (z.nextV t)) ∧ Below w.heap.size w w' := by
  have HI := Lib.hid (fun W => instant_any t W)
  have HV := Lib.hid (fun W (hb : Below w.heap.size w W) => Valid_zone z vT vR W (hm.on hb) (hT.on hb) (hR.on hb) hfs hll)
  have HN := Lib.hid (fun hv ht W (hb : Below w.heap.size w W) => nextAt_any z vT vR t W (hm.on hb) (hT.on hb) (hR.on hb) hfs (valid_len hv hll) hv ht)
  obtain ⟨AT, cT, rfl⟩ := rd_vf hT
  obtain ⟨AR, cR, rfl⟩ := rd_vf hR
  have HZC := Lib.hid (alloc_cells w [.string z.nm, .int .i64 z.first.off, .int .i64 z.first.sv, .string z.first.nm, .slice AT z.table.length cT, .slice AR z.tail.length cR, .int .i64 z.off, .string z.form, .int .i64 z.year] 27)
  have HBZ := Lib.hid (show Below w.heap.size w (w.alloc (.cells #[.string z.nm, .int .i64 z.first.off, .int .i64 z.first.sv, .string z.first.nm, .slice AT z.table.length cT, .slice AR z.tail.length cR, .int .i64 z.off, .string z.form, .int .i64 z.year] 27)) from (Below.refl _ _).alloc (Nat.le_refl _) _)
  clear hT hR hm
  unfold Zn.v at HV HN ⊢
  have hbW : Below w.heap.size w ((w.alloc (.cells #[.string z.nm, .int .i64 z.first.off, .int .i64 z.first.sv, .string z.first.nm, .slice AT z.table.length cT, .slice AR z.tail.length cR, .int .i64 z.off, .string z.form, .int .i64 z.year] 27)).alloc (.cells #[.int .i64 0, .int .i64 0, .int .i64 0, .string ⟨#[]⟩] 38)) := HBZ.out.alloc (by simp) _
  have hszW : w.heap.size + 1 < ((w.alloc (.cells #[.string z.nm, .int .i64 z.first.off, .int .i64 z.first.sv, .string z.first.nm, .slice AT z.table.length cT, .slice AR z.tail.length cR, .int .i64 z.off, .string z.form, .int .i64 z.year] 27)).alloc (.cells #[.int .i64 0, .int .i64 0, .int .i64 0, .string ⟨#[]⟩] 38)).heap.size := by simp
  have rc := alloc_cells (w.alloc (.cells #[.string z.nm, .int .i64 z.first.off, .int .i64 z.first.sv, .string z.first.nm, .slice AT z.table.length cT, .slice AR z.tail.length cR, .int .i64 z.off, .string z.form, .int .i64 z.year] 27)) [.int .i64 0, .int .i64 0, .int .i64 0, .string ⟨#[]⟩] 38
  have rf := alloc_frozen (w.alloc (.cells #[.string z.nm, .int .i64 z.first.off, .int .i64 z.first.sv, .string z.first.nm, .slice AT z.table.length cT, .slice AR z.tail.length cR, .int .i64 z.off, .string z.form, .int .i64 z.year] 27)) #[.int .i64 0, .int .i64 0, .int .i64 0, .string ⟨#[]⟩] 38
  rw [World.size_alloc] at rc rf
  have zc : ∀ i u, [Value.string z.nm, .int .i64 z.first.off, .int .i64 z.first.sv, .string z.first.nm, .slice AT z.table.length cT, .slice AR z.tail.length cR, .int .i64 z.off, .string z.form, .int .i64 z.year][i]? = some u → ((w.alloc (.cells #[.string z.nm, .int .i64 z.first.off, .int .i64 z.first.sv, .string z.first.nm, .slice AT z.table.length cT, .slice AR z.tail.length cR, .int .i64 z.off, .string z.form, .int .i64 z.year] 27)).alloc (.cells #[.int .i64 0, .int .i64 0, .int .i64 0, .string ⟨#[]⟩] 38)).cell? ⟨w.heap.size, i, none⟩ = some u := fun i u h => Lib.cell?_alloc_some _ (HZC.out i u h)
  have RC := Lib.hid rc
  have RF := Lib.hid rf
  have ZC := Lib.hid zc
  have HBW := Lib.hid hbW
  clear rc rf zc hbW HZC HBZ
  cases ht : inT t
  · have HX := Lib.hid (show z.nextV t = none from if_neg (by rw [ht]; simp))
    rw [ht] at HI
    clear ht HV HN
    go_enter Tryz.func15, Tryz.ntmps15
    go_wp2_with fail
    generalize ((w.alloc (.cells #[.string z.nm, .int .i64 z.first.off, .int .i64 z.first.sv, .string z.first.nm, .slice AT z.table.length cT, .slice AR z.tail.length cR, .int .i64 z.off, .string z.form, .int .i64 z.year] 27)).alloc (.cells #[.int .i64 0, .int .i64 0, .int .i64 0, .string ⟨#[]⟩] 38)) = W at *
    have k0 := RC.out 0 _ rfl
    have k1 := RC.out 1 _ rfl
    have k2 := RC.out 2 _ rfl
    have k3 := RC.out 3 _ rfl
    have kf := RF.out
    refine (HI.out _).mono ?_
    rintro e w1 ⟨rfl, rfl⟩
    go_wp2
    obtain ⟨s0, s1, s2, s3⟩ := set4 k0 k1 k2 k3 (.int .i64 0) (.int .i64 0) (.int .i64 0) (.string ⟨#[]⟩) _ rfl
    have hB9 := set4_below HBW.out (Nat.le_succ _) (.int .i64 0) (.int .i64 0) (.int .i64 0) (.string ⟨#[]⟩) _ rfl
    generalize (((W.setCell ⟨w.heap.size + 1, 0, none⟩ (.int .i64 0)).setCell ⟨w.heap.size + 1, 1, none⟩ (.int .i64 0)).setCell ⟨w.heap.size + 1, 2, none⟩ (.int .i64 0)).setCell ⟨w.heap.size + 1, 3, none⟩ (.string ⟨#[]⟩) = w9 at *
    exact bodyPost_ret (v := .tuple #[.agg #[.int .i64 0, .int .i64 0, .int .i64 0, .string ⟨#[]⟩], .bool false]) (by simp [results, Tryz.results15, go_sem, s0, s1, s2, s3]) rfl ⟨by rw [HX.out]; rfl, hB9⟩
  · rw [ht] at HI
    have HT := Lib.hid ht
    clear ht
    cases hv : z.valid
    · have HX := Lib.hid (show z.nextV t = none from if_neg (by rw [hv]; simp))
      rw [hv] at HV
      clear hv HN
      go_enter Tryz.func15, Tryz.ntmps15
      go_wp2_with fail
      generalize ((w.alloc (.cells #[.string z.nm, .int .i64 z.first.off, .int .i64 z.first.sv, .string z.first.nm, .slice AT z.table.length cT, .slice AR z.tail.length cR, .int .i64 z.off, .string z.form, .int .i64 z.year] 27)).alloc (.cells #[.int .i64 0, .int .i64 0, .int .i64 0, .string ⟨#[]⟩] 38)) = W at *
      have c0 := ZC.out 0 _ rfl
      have c1 := ZC.out 1 _ rfl
      have c2 := ZC.out 2 _ rfl
      have c3 := ZC.out 3 _ rfl
      have c4 := ZC.out 4 _ rfl
      have c5 := ZC.out 5 _ rfl
      have c6 := ZC.out 6 _ rfl
      have c7 := ZC.out 7 _ rfl
      have c8 := ZC.out 8 _ rfl
      go_wp2_with (first
        | (go_at_call 47; refine (HI.out _).mono ?_; rintro e w1 ⟨rfl, rfl⟩)
        | (go_at_call 35; refine (HV.out _ HBW.out).mono ?_; rintro e w3 ⟨rfl, hb3⟩; have k0 := (hb3.cell (p := ⟨w.heap.size + 1, 0, none⟩) hszW).trans (RC.out 0 _ rfl); have k1 := (hb3.cell (p := ⟨w.heap.size + 1, 1, none⟩) hszW).trans (RC.out 1 _ rfl); have k2 := (hb3.cell (p := ⟨w.heap.size + 1, 2, none⟩) hszW).trans (RC.out 2 _ rfl); have k3 := (hb3.cell (p := ⟨w.heap.size + 1, 3, none⟩) hszW).trans (RC.out 3 _ rfl); have kf := fun i => (hb3.frozen (p := ⟨w.heap.size + 1, i, none⟩) hszW).trans (RF.out i)))
      obtain ⟨s0, s1, s2, s3⟩ := set4 k0 k1 k2 k3 (.int .i64 0) (.int .i64 0) (.int .i64 0) (.string ⟨#[]⟩) _ rfl
      have hB9 := set4_below (HBW.out.trans (hb3.mono (by omega))) (Nat.le_succ _) (.int .i64 0) (.int .i64 0) (.int .i64 0) (.string ⟨#[]⟩) _ rfl
      generalize (((w3.setCell ⟨w.heap.size + 1, 0, none⟩ (.int .i64 0)).setCell ⟨w.heap.size + 1, 1, none⟩ (.int .i64 0)).setCell ⟨w.heap.size + 1, 2, none⟩ (.int .i64 0)).setCell ⟨w.heap.size + 1, 3, none⟩ (.string ⟨#[]⟩) = w9 at *
      exact bodyPost_ret (v := .tuple #[.agg #[.int .i64 0, .int .i64 0, .int .i64 0, .string ⟨#[]⟩], .bool false]) (by simp [results, Tryz.results15, go_sem, s0, s1, s2, s3]) rfl ⟨by rw [HX.out]; rfl, hB9⟩
    · have HX := Lib.hid (show z.nextV t = z.nextF t from if_pos ⟨HT.out, hv⟩)
      have HNN := Lib.hid (HN.out hv HT.out)
      rw [hv] at HV
      clear hv HN
      obtain ⟨xa, o1, o2, o3, b, hO⟩ := optV_form (z.nextF t)
      rw [hO] at HNN
      have HO := Lib.hid hO
      clear hO
      go_enter Tryz.func15, Tryz.ntmps15
      go_wp2_with fail
      generalize ((w.alloc (.cells #[.string z.nm, .int .i64 z.first.off, .int .i64 z.first.sv, .string z.first.nm, .slice AT z.table.length cT, .slice AR z.tail.length cR, .int .i64 z.off, .string z.form, .int .i64 z.year] 27)).alloc (.cells #[.int .i64 0, .int .i64 0, .int .i64 0, .string ⟨#[]⟩] 38)) = W at *
      have c0 := ZC.out 0 _ rfl
      have c1 := ZC.out 1 _ rfl
      have c2 := ZC.out 2 _ rfl
      have c3 := ZC.out 3 _ rfl
      have c4 := ZC.out 4 _ rfl
      have c5 := ZC.out 5 _ rfl
      have c6 := ZC.out 6 _ rfl
      have c7 := ZC.out 7 _ rfl
      have c8 := ZC.out 8 _ rfl
      go_wp2_with (first
        | (go_at_call 47; refine (HI.out _).mono ?_; rintro e w1 ⟨rfl, rfl⟩)
        | (go_at_call 35; refine (HV.out _ HBW.out).mono ?_; rintro e w3 ⟨rfl, hb3⟩; have h30 : Below w.heap.size w w3 := HBW.out.trans (hb3.mono (by omega)); have zz := (fun i u h => (hb3.cell (p := ⟨w.heap.size, i, none⟩) (by show w.heap.size < _; omega)).trans (ZC.out i u h)); have d0 := zz 0 _ rfl; have d1 := zz 1 _ rfl; have d2 := zz 2 _ rfl; have d3 := zz 3 _ rfl; have d4 := zz 4 _ rfl; have d5 := zz 5 _ rfl; have d6 := zz 6 _ rfl; have d7 := zz 7 _ rfl; have d8 := zz 8 _ rfl; clear zz)
        | (go_at_call 48; refine (HNN.out _ h30).mono ?_; rintro e w4 ⟨rfl, hb4⟩; have hsz3 : w.heap.size + 1 < w3.heap.size := Nat.lt_of_lt_of_le hszW hb3.size; have k0 := (hb4.cell (p := ⟨w.heap.size + 1, 0, none⟩) hsz3).trans ((hb3.cell (p := ⟨w.heap.size + 1, 0, none⟩) hszW).trans (RC.out 0 _ rfl)); have k1 := (hb4.cell (p := ⟨w.heap.size + 1, 1, none⟩) hsz3).trans ((hb3.cell (p := ⟨w.heap.size + 1, 1, none⟩) hszW).trans (RC.out 1 _ rfl)); have k2 := (hb4.cell (p := ⟨w.heap.size + 1, 2, none⟩) hsz3).trans ((hb3.cell (p := ⟨w.heap.size + 1, 2, none⟩) hszW).trans (RC.out 2 _ rfl)); have k3 := (hb4.cell (p := ⟨w.heap.size + 1, 3, none⟩) hsz3).trans ((hb3.cell (p := ⟨w.heap.size + 1, 3, none⟩) hszW).trans (RC.out 3 _ rfl)); have kf := fun i => (hb4.frozen (p := ⟨w.heap.size + 1, i, none⟩) hsz3).trans ((hb3.frozen (p := ⟨w.heap.size + 1, i, none⟩) hszW).trans (RF.out i))))
      obtain ⟨s0, s1, s2, s3⟩ := set4 k0 k1 k2 k3 (.int .i64 xa) (.int .i64 o1) (.int .i64 o2) (.string o3) _ rfl
      have hB9 := set4_below (h30.trans (hb4.mono (by omega))) (Nat.le_succ _) (.int .i64 xa) (.int .i64 o1) (.int .i64 o2) (.string o3) _ rfl
      generalize (((w4.setCell ⟨w.heap.size + 1, 0, none⟩ (.int .i64 xa)).setCell ⟨w.heap.size + 1, 1, none⟩ (.int .i64 o1)).setCell ⟨w.heap.size + 1, 2, none⟩ (.int .i64 o2)).setCell ⟨w.heap.size + 1, 3, none⟩ (.string o3) = w9 at *
      exact bodyPost_ret (v := .tuple #[.agg #[.int .i64 xa, .int .i64 o1, .int .i64 o2, .string o3], .bool b]) (by simp [results, Tryz.results15, go_sem, s0, s1, s2, s3]) rfl ⟨by rw [HX.out, HO.out], hB9⟩

end Go.Proofs.YtdpkolnfbimheaaGreat

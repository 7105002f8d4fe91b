/- The law LocalBack. -/
import Derived.Test.YtdpkolnfbimheaaGreatGLc
namespace Go.Proofs.YtdpkolnfbimheaaGreat
set_option linter.unusedSimpArgs false
set_option linter.unusedVariables false
open Go.ChangeShapes Go.WideShapes Go.ChangeAt Go.RowKit

theorem contains_any {W : World} {base : Nat} {v : Value} {IL : List Int} (x : Int) (h : W.ownsRow base 3 1 v IL.length (IL.map encI)) (hn : IL.length ≤ 1000000) :
    Calls Tryz.prog 27 #[v, .int .i64 x] W fun e w' => e = .returned (.bool (IL.contains x)) ∧ W = w' := by
  obtain ⟨A, c, rfl⟩ := own_formN h
  by_cases h0 : 0 < IL.length
  · obtain ⟨g, off, rfl, _, _, hc⟩ := int_row h h0
    have := Tryz.slices_Contains_int g off IL.length c IL x W (Nat.le_refl _) (by omega) (fun j hj => by rw [hc j hj, List.getD_eq_getElem?_getD, getElem!_def]; cases hq : IL[j]? <;> rfl)
    rw [List.take_length] at this
    exact this.mono fun e w' ⟨h1, h2⟩ => ⟨h1, h2.symm⟩
  · have : IL = [] := List.eq_nil_of_length_eq_zero (by omega)
    subst this
    exact (Tryz.slices_Contains_int_empty A c x W).mono fun e w' ⟨h1, h2⟩ => ⟨h1, h2.symm⟩
theorem ofV_ok {z : Zn} {t : Int} (h : (z.ofV t).2 = 0) : z.valid = true ∧ inTB t = true ∧ inTB (t + z.offF t) = true ∧ z.ofV t = (t + z.offF t, 0) := by
  unfold Zn.ofV at h ⊢
  cases hv : z.valid
  · rw [hv] at h; simp at h
  · cases h1 : inTB t
    · rw [hv, h1] at h; simp at h
    · cases h2 : inTB (t + z.offF t)
      · rw [hv, h1, h2] at h; simp at h
      · simp
/-- an instant is among the instants of its local time -/
theorem back1 {z : Zn} {t : Int} (h : (z.ofV t).2 = 0) : z.insV (z.ofV t).1 = (z.insts (z.ofV t).1, 0) ∧ (z.insts (z.ofV t).1).contains t = true := by
  obtain ⟨hv, h1, h2, h3⟩ := ofV_ok h
  rw [h3]
  unfold Zn.insV
  rw [← inTB_T, hv, h2]
  refine ⟨by simp, ?_⟩
  rw [List.contains_iff_mem]
  unfold inTB at h1
  exact (mem_insts hv).2 ⟨by simpa using h1, rfl⟩
theorem insV_ok {z : Zn} {l : Int} (h : (z.insV l).2 = 0) : z.valid = true ∧ inT l = true ∧ z.insV l = (z.insts l, 0) := by
  unfold Zn.insV at h ⊢
  cases hv : z.valid
  · rw [hv] at h; simp at h
  · cases h1 : inT l
    · rw [hv, h1] at h; simp at h
    · simp
/-- the instants of a local time have it -/
theorem back2 {z : Zn} {l : Int} (hv : z.valid = true) (hl : inT l = true) {i : Nat} (hi : i < (z.insts l).length) : z.ofV (z.insts l)[i]! = (l, 0) := by
  have hm : (z.insts l)[i]! ∈ z.insts l := by rw [getElem!_pos _ i hi]; exact List.getElem_mem hi
  obtain ⟨h1, h2⟩ := (mem_insts hv).1 hm
  unfold Zn.ofV
  rw [hv, show inTB (z.insts l)[i]! = true from decide_eq_true h1, h2, inTB_T, hl]
  simp
theorem back3 {z : Zn} {l : Int} (hv : z.valid = true) {i : Nat} (hi : i + 1 < (z.insts l).length) : (z.insts l)[i]! < (z.insts l)[i + 1]! := by
  have := List.pairwise_iff_getElem.1 (insts_asc hv l) i (i + 1) (by omega) hi (by omega)
  rwa [getElem!_pos _ i (by omega), getElem!_pos _ (i + 1) hi]
theorem resV_F {z : Zn} {l g f : Int} (hv : z.valid = true) (hl : inT l = true) (hg : 1 ≤ g ∧ g ≤ 4) (hf : 1 ≤ f ∧ f ≤ 3) : z.resV l g f = z.resF l g f := by
  unfold Zn.resV
  rw [if_neg (by rw [hv, show polB g f = true from decide_eq_true ⟨hg.1, hg.2, hf.1, hf.2⟩]; simp), inTB_T, if_neg (by rw [hl]; simp)]
theorem resF_1 {z : Zn} {l : Int} (h : z.insts l = []) (f : Int) : z.resF l 1 f = (0, 11) ∨ z.resF l 1 f = (0, 2) := by
  unfold Zn.resF
  rw [h, if_neg (by simp), if_neg (by simp)]
  split
  · right; rfl
  · left
    show (if (11 : Int) ≠ 0 then ((0 : Int), (11 : Int)) else _) = _
    rw [if_pos (by decide)]

-- the walk, printed by gen_lawback.py
set_option maxRecDepth 100000 in
set_option maxHeartbeats 8000000 in
theorem law_LocalBack (z : Zn) (vT vR : Value) (t l : Int) (w : World) (hT : Rd Trn.cells 4 w vT z.table) (hR : Rd Rule.cells 11 w vR z.tail) (hm : HasMax w) :
    Calls Tryz.prog 6 #[z.v vT vR, .int .i64 t, .int .i64 l] w fun e w' => e = .returned (.bool true) ∧ Below w.heap.size w w' := by
  have HA := Lib.hid (fun W (hb : Below w.heap.size w W) => awake23_any W (hm.on hb))
  have HF0 := Lib.hid (fun W (hb : Below w.heap.size w W) => few_any z vT vR W (hT.on hb) (hR.on hb))
  have HOF0 := Lib.hid (fun hfs hll t W (hb : Below w.heap.size w W) => Of_any z vT vR t W (hm.on hb) (hT.on hb) (hR.on hb) hfs hll)
  have HIN0 := Lib.hid (fun hfs hll htl l W (hb : Below w.heap.size w W) => Instants_any z vT vR l W (hm.on hb) (hT.on hb) (hR.on hb) hfs hll htl)
  have HRS0 := Lib.hid (fun hfs hll htl g f W (hb : Below w.heap.size w W) => Resolve_any z vT vR l g f W (hm.on hb) (hT.on hb) (hR.on hb) hfs hll htl)
  obtain ⟨AT, cT, rfl⟩ := rd_vf hT
  obtain ⟨AR, cR, rfl⟩ := rd_vf hR
  clear hT hR hm
  have hB1 : Below w.heap.size w (w.alloc (.cells #[.string z.nm, .int .i64 z.first.off, .int .i64 z.first.sv, .string z.first.nm, .slice AT z.table.length cT, .slice AR z.tail.length cR, .int .i64 z.off, .string z.form, .int .i64 z.year] 27)) := (Below.refl _ _).alloc (Nat.le_refl _) _
  have b0 := Blk.new w #[.string z.nm, .int .i64 z.first.off, .int .i64 z.first.sv, .string z.first.nm, .slice AT z.table.length cT, .slice AR z.tail.length cR, .int .i64 z.off, .string z.form, .int .i64 z.year] 27
  unfold Zn.v at HF0 HOF0 HIN0 HRS0 ⊢
  go_enter Tryz.func6, Tryz.ntmps6
  go_wp2_with fail
  generalize (w.alloc (.cells #[.string z.nm, .int .i64 z.first.off, .int .i64 z.first.sv, .string z.first.nm, .slice AT z.table.length cT, .slice AR z.tail.length cR, .int .i64 z.off, .string z.form, .int .i64 z.year] 27)) = W at *
  have hw : w.heap.size ≤ W.heap.size := hB1.size
  have HF := Lib.hid (fun W' (hb : Below W.heap.size W W') => HF0.out W' (hB1.trans (hb.mono hw)))
  have HOF1 := Lib.hid (fun hfs hll t W' (hb : Below W.heap.size W W') => HOF0.out hfs hll t W' (hB1.trans (hb.mono hw)))
  have HIN1 := Lib.hid (fun hfs hll htl l W' (hb : Below W.heap.size W W') => HIN0.out hfs hll htl l W' (hB1.trans (hb.mono hw)))
  have HRS1 := Lib.hid (fun hfs hll htl g f W' (hb : Below W.heap.size W W') => HRS0.out hfs hll htl g f W' (hB1.trans (hb.mono hw)))
  clear HF0 HOF0 HIN0 HRS0
  refine (HA.out W hB1).mono ?_
  rintro e w1 ⟨rfl, hb1⟩
  clear HA
  have KZ := b0.below hb1 b0.lt
  have KL := KZ.lt
  have z0 := KZ.cl 0 _ rfl
  have z1 := KZ.cl 1 _ rfl
  have z2 := KZ.cl 2 _ rfl
  have z3 := KZ.cl 3 _ rfl
  have z4 := KZ.cl 4 _ rfl
  have z5 := KZ.cl 5 _ rfl
  have z6 := KZ.cl 6 _ rfl
  have z7 := KZ.cl 7 _ rfl
  have z8 := KZ.cl 8 _ rfl
  cases hf : z.fewB
  · go_wp2_with (go_at_call 24; refine (HF.out w1 hb1).mono ?_; rintro e w2 ⟨rfl, hb2⟩; rw [hf]; have hb2 := hb1.trans (hb2.mono hb1.size); clear HF; have KZ := b0.below hb2 b0.lt; have KL := KZ.lt; have z0 := KZ.cl 0 _ rfl; have z1 := KZ.cl 1 _ rfl; have z2 := KZ.cl 2 _ rfl; have z3 := KZ.cl 3 _ rfl; have z4 := KZ.cl 4 _ rfl; have z5 := KZ.cl 5 _ rfl; have z6 := KZ.cl 6 _ rfl; have z7 := KZ.cl 7 _ rfl; have z8 := KZ.cl 8 _ rfl)
    go_ret
    exact ⟨rfl, hB1.trans (hb2.mono hw)⟩
  · obtain ⟨htl, hll, hfs0⟩ := few_parts hf
    have hfs : z.form.size < 4294967281 := by omega
    have HOF := Lib.hid (fun t W' hb => HOF1.out hfs (.inl hll) t W' hb)
    have HIN := Lib.hid (fun l W' hb => HIN1.out hfs hll htl l W' hb)
    have HRS := Lib.hid (fun g f W' hb => HRS1.out hfs hll htl g f W' hb)
    have HLN := Lib.hid (fun (hv : z.valid = true) x => show (z.insts x).length ≤ 1000000 by
      have h1 := pieces_len (mild_wide hv htl (a := x) (b := x + 1) (by omega))
      have h2 : (z.insts x).length ≤ (z.pieces (wideA x) (wideB (x + 1))).length := List.length_filterMap_le _ _
      omega)
    clear HOF1 HIN1 HRS1
    by_cases hil0 : (z.insV l).2 = 0
    · obtain ⟨hv, hl, hil⟩ := insV_ok hil0
      clear hil0
      have HB2 := Lib.hid (fun i hi => back2 (l := l) hv hl (i := i) hi)
      have HB3 := Lib.hid (fun i hi => back3 (l := l) hv (i := i) hi)
      have HRF := Lib.hid (fun g f hg hf => resV_F (g := g) (f := f) hv hl hg hf)
      have HR1 := Lib.hid (fun h f => resF_1 (z := z) (l := l) h f)
      have hIL := HLN.out hv l
      by_cases he : (z.ofV t).2 = 0
      · obtain ⟨hi1, hc1⟩ := back1 he
        obtain ⟨x, hx⟩ : ∃ x, (z.ofV t).1 = x := ⟨_, rfl⟩
        have hof : z.ofV t = (x, 0) := Prod.ext hx he
        rw [hx] at hi1 hc1
        clear he hx
        have HINX := Lib.hid (fun W' hb => HIN.out x W' hb)
        have HINL := Lib.hid (fun W' hb => HIN.out l W' hb)
        clear HIN
        go_wp2_with (first | (go_at_call 24; refine (HF.out w1 hb1).mono ?_; rintro e w2 ⟨rfl, hb2⟩; rw [hf]; have hb2 := hb1.trans (hb2.mono hb1.size); clear HF; have KZ := b0.below hb2 b0.lt; have KL := KZ.lt; have z0 := KZ.cl 0 _ rfl; have z1 := KZ.cl 1 _ rfl; have z2 := KZ.cl 2 _ rfl; have z3 := KZ.cl 3 _ rfl; have z4 := KZ.cl 4 _ rfl; have z5 := KZ.cl 5 _ rfl; have z6 := KZ.cl 6 _ rfl; have z7 := KZ.cl 7 _ rfl; have z8 := KZ.cl 8 _ rfl) | (go_at_call 25; refine (HOF.out t w2 hb2).mono ?_; rintro e w3 ⟨rfl, hb3⟩; rw [hof]; have hb3 := hb2.trans (hb3.mono hb2.size); have KZ := b0.below hb3 b0.lt; have KL := KZ.lt; have z0 := KZ.cl 0 _ rfl; have z1 := KZ.cl 1 _ rfl; have z2 := KZ.cl 2 _ rfl; have z3 := KZ.cl 3 _ rfl; have z4 := KZ.cl 4 _ rfl; have z5 := KZ.cl 5 _ rfl; have z6 := KZ.cl 6 _ rfl; have z7 := KZ.cl 7 _ rfl; have z8 := KZ.cl 8 _ rfl) | (go_at_call 26; refine (HINX.out w3 hb3).mono ?_; clear HINX; rintro e w4 ⟨v4, rfl, hr4, hb4⟩; rw [hi1] at hr4 ⊢; have hb4 := hb3.trans (hb4.mono hb3.size); obtain ⟨A4, c4, rfl⟩ := own_formN hr4; have HC := Lib.hid (contains_any t hr4 (HLN.out hv x)); have KZ := b0.below hb4 b0.lt; have KL := KZ.lt; have z0 := KZ.cl 0 _ rfl; have z1 := KZ.cl 1 _ rfl; have z2 := KZ.cl 2 _ rfl; have z3 := KZ.cl 3 _ rfl; have z4 := KZ.cl 4 _ rfl; have z5 := KZ.cl 5 _ rfl; have z6 := KZ.cl 6 _ rfl; have z7 := KZ.cl 7 _ rfl; have z8 := KZ.cl 8 _ rfl) | (go_at_call 27; refine HC.out.mono ?_; rintro e wc ⟨rfl, rfl⟩; rw [hc1]; clear HC hr4) | (go_at_call 26; refine (HINL.out w4 hb4).mono ?_; rintro e w5 ⟨v5, rfl, hr5, hb5⟩; rw [hil] at hr5 ⊢; have hb5 := hb4.trans (hb5.mono hb4.size); obtain ⟨A5, c5, rfl⟩ := own_formN hr5; clear HINL; have KZ := b0.below hb5 b0.lt; have KL := KZ.lt; have z0 := KZ.cl 0 _ rfl; have z1 := KZ.cl 1 _ rfl; have z2 := KZ.cl 2 _ rfl; have z3 := KZ.cl 3 _ rfl; have z4 := KZ.cl 4 _ rfl; have z5 := KZ.cl 5 _ rfl; have z6 := KZ.cl 6 _ rfl; have z7 := KZ.cl 7 _ rfl; have z8 := KZ.cl 8 _ rfl))
        have HRA := Lib.hid (fun g f (hg : 1 ≤ g ∧ g ≤ 4) (hf : 1 ≤ f ∧ f ≤ 3) (h : (z.insts l).length = 1) => show z.resV l g f = ((z.insts l)[0]!, 0) by rw [HRF.out g f hg hf]; unfold Zn.resF; rw [if_pos h])
        have HRB := Lib.hid (fun g f (hg : 1 ≤ g ∧ g ≤ 4) (hf : 1 ≤ f ∧ f ≤ 3) (h : 1 < (z.insts l).length) => show z.resV l g f = (if f = 1 then ((0 : Int), (12 : Int)) else if f = 2 then ((z.insts l)[0]!, 0) else ((z.insts l)[(z.insts l).length - 1]!, 0)) by rw [HRF.out g f hg hf]; unfold Zn.resF; rw [if_neg (by omega), if_pos h])
        have HRC := Lib.hid (fun f (hf : 1 ≤ f ∧ f ≤ 3) (h : (z.insts l).length = 0) => show z.resV l 1 f = (0, 11) ∨ z.resV l 1 f = (0, 2) by rw [HRF.out 1 f ⟨by omega, by omega⟩ hf]; exact HR1.out (List.eq_nil_of_length_eq_zero h) f)
        clear HRF HR1 HLN hil hv hl
        generalize z.insts l = IL at *
        clear KZ KL z0 z1 z2 z3 z4 z5 z6 z7 z8
        go_loopw [58] (fun v58 wr => ∃ k : Nat, k ≤ IL.length ∧ v58 = .int .i64 k ∧ Below w5.heap.size w5 wr) (fun v _ => IL.length - (intOf v).toNat)
        case atStart => exact ⟨0, Nat.zero_le _, rfl, Below.refl _ _⟩
        case round =>
          obtain ⟨k, hk, rfl, hbr⟩ := hrel
          have hbw := hb5.trans (hbr.mono hb5.size)
          have KZ := b0.below hbw b0.lt; have KL := KZ.lt; have z0 := KZ.cl 0 _ rfl; have z1 := KZ.cl 1 _ rfl; have z2 := KZ.cl 2 _ rfl; have z3 := KZ.cl 3 _ rfl; have z4 := KZ.cl 4 _ rfl; have z5 := KZ.cl 5 _ rfl; have z6 := KZ.cl 6 _ rfl; have z7 := KZ.cl 7 _ rfl; have z8 := KZ.cl 8 _ rfl
          by_cases hlt : k < IL.length
          · have hrr := own_on hr5 hbr
            obtain ⟨gI, oI, rfl, _, hgI, hcI⟩ := int_row hrr (by omega)
            have ek := hcI k hlt
            have HO := Lib.hid (HOF.out IL[k]! wr hbw)
            rw [HB2.out k hlt] at HO
            obtain ⟨u, hu⟩ : ∃ u, IL[k]! = u := ⟨_, rfl⟩
            rw [hu] at HO ek
            have HU := Lib.hid hu
            clear hu
            by_cases hk0 : k = 0
            · have dk : ¬ 0 < k := by omega
              clear hk0 hcI
              go_wp2_with (go_at_call 25; refine HO.out.mono ?_; rintro e w6 ⟨rfl, hb6⟩; clear HO)
              go_roundw
              case rel => exact ⟨k + 1, by omega, by go_num, hbr.trans (hb6.mono hbr.size)⟩
              case measure => simp [intOf]; omega
            · have dk : 0 < k := by omega
              obtain ⟨j, hj⟩ : ∃ j, k = j + 1 := ⟨k - 1, by omega⟩
              have ep := hcI j (by omega)
              obtain ⟨v, hv⟩ : ∃ v, IL[j]! = v := ⟨_, rfl⟩
              have hle : decide (u ≤ v) = false := decide_eq_false (by have h1 := HB3.out j (by omega); rw [← hj, HU.out, hv] at h1; omega)
              rw [hv] at ep
              clear hv hcI hk0
              have em : (k : Int) - 1 = (j : Int) := by omega
              have hjl : j < IL.length := by omega
              have HJ := Lib.hid hj
              clear hj
              go_wp2_with (go_at_call 25; refine HO.out.mono ?_; rintro e w6 ⟨rfl, hb6⟩; have ep6 := (hb6.cell (p := ⟨gI, oI + j, none⟩) hgI).trans ep; clear HO)
              go_roundw
              case rel => exact ⟨k + 1, by omega, by go_num, hbr.trans (hb6.mono hbr.size)⟩
              case measure => simp [intOf]; omega
          · obtain rfl : k = IL.length := by omega
            by_cases hA : IL.length = 1
            · have hq1 : ((IL.length : Int) == 1) = true := beq_iff_eq.2 (by omega)
              have hq2 : ¬ 1 < IL.length := by omega
              have hq3 : ((IL.length : Int) == 0) = false := beq_eq_false_iff_ne.2 (by omega)
              have hq4 : 0 < IL.length := by omega
              have HAA := Lib.hid hA
              clear hA
              clear hlt hk KZ KL z0 z1 z2 z3 z4 z5 z6 z7 z8 HB2 HB3 HOF
              go_wp2
              generalize wr = wq at *
              go_loopw [17] (fun v17 wv => ∃ g : Nat, 1 ≤ g ∧ g ≤ 5 ∧ v17 = .int .i64 g ∧ Below w5.heap.size w5 wv) (fun v _ => 5 - (intOf v).toNat)
              case atStart => exact ⟨1, by omega, by omega, rfl, hbr⟩
              case round =>
                obtain ⟨g, hg1, hg5, rfl, hbv⟩ := hrel
                by_cases hg : g ≤ 4
                · have dg : decide ((g : Int) ≤ 4) = true := decide_eq_true (by omega)
                  generalize hq : wr = wq2 at *
                  clear hq
                  go_wp2
                  go_loopw [18] (fun v18 wv => ∃ f : Nat, 1 ≤ f ∧ f ≤ 4 ∧ v18 = .int .i64 f ∧ Below w5.heap.size w5 wv) (fun v _ => 4 - (intOf v).toNat)
                  case atStart => exact ⟨1, by omega, by omega, rfl, hbv⟩
                  case round =>
                    obtain ⟨f, hf1, hf4, rfl, hbx⟩ := hrel
                    by_cases hf3 : f ≤ 3
                    · have df : decide ((f : Int) ≤ 3) = true := decide_eq_true (by omega)
                      have hbw := hb5.trans (hbx.mono hb5.size)
                      have KZ := b0.below hbw b0.lt; have KL := KZ.lt; have z0 := KZ.cl 0 _ rfl; have z1 := KZ.cl 1 _ rfl; have z2 := KZ.cl 2 _ rfl; have z3 := KZ.cl 3 _ rfl; have z4 := KZ.cl 4 _ rfl; have z5 := KZ.cl 5 _ rfl; have z6 := KZ.cl 6 _ rfl; have z7 := KZ.cl 7 _ rfl; have z8 := KZ.cl 8 _ rfl
                      have hrr := own_on hr5 hbx
                      have HRX := Lib.hid (HRS.out g f wr hbw)
                      have HEND := Lib.hid (fun w7 (hb7 : Below wr.heap.size wr w7) => hbx.trans (hb7.mono hbx.size))
                      obtain ⟨gI, oI, rfl, _, hgI, hcI⟩ := int_row hrr (by omega)
                      have e0 := hcI 0 (by omega)
                      rw [HRA.out g f ⟨by omega, by omega⟩ ⟨by omega, by omega⟩ HAA.out] at HRX
                      obtain ⟨u, hu⟩ : ∃ u, IL[0]! = u := ⟨_, rfl⟩
                      rw [hu] at HRX e0
                      rw [Nat.add_zero] at e0
                      clear hu hcI
                      go_wp2_with fail
                      refine HRX.out.mono ?_
                      rintro e w7 ⟨rfl, hb7⟩
                      have e7 := (hb7.cell (p := ⟨gI, oI, none⟩) hgI).trans e0
                      clear HRX HRA HRB HRC hrr hr5 HRS z0 z1 z2 z3 z4 z5 z6 z7 z8 KZ KL hbr hbw
                      go_wp2_with fail
                      go_roundw
                      case rel => exact ⟨f + 1, by omega, by omega, by go_num, HEND.out _ hb7⟩
                      case measure => simp [intOf]; omega
                    · have df : decide ((f : Int) ≤ 3) = false := decide_eq_false (by omega)
                      go_wp2
                      go_roundw
                      case rel => exact ⟨g + 1, by omega, by omega, by go_num, hbx⟩
                      case measure => simp [intOf]; omega
                · have dg : decide ((g : Int) ≤ 4) = false := decide_eq_false (by omega)
                  go_wp2
                  go_ret
                  exact ⟨rfl, hB1.trans ((hb5.trans (hbv.mono hb5.size)).mono hw)⟩
            · by_cases hB : 1 < IL.length
              · skip
                clear hlt hk KZ KL z0 z1 z2 z3 z4 z5 z6 z7 z8 HB2 HB3 HOF
                go_wp2
                generalize wr = wq at *
                go_loopw [17] (fun v17 wv => ∃ g : Nat, 1 ≤ g ∧ g ≤ 5 ∧ v17 = .int .i64 g ∧ Below w5.heap.size w5 wv) (fun v _ => 5 - (intOf v).toNat)
                case atStart => exact ⟨1, by omega, by omega, rfl, hbr⟩
                case round =>
                  obtain ⟨g, hg1, hg5, rfl, hbv⟩ := hrel
                  by_cases hg : g ≤ 4
                  · have dg : decide ((g : Int) ≤ 4) = true := decide_eq_true (by omega)
                    generalize hq : wr = wq2 at *
                    clear hq
                    go_wp2
                    go_loopw [18] (fun v18 wv => ∃ f : Nat, 1 ≤ f ∧ f ≤ 4 ∧ v18 = .int .i64 f ∧ Below w5.heap.size w5 wv) (fun v _ => 4 - (intOf v).toNat)
                    case atStart => exact ⟨1, by omega, by omega, rfl, hbv⟩
                    case round =>
                      obtain ⟨f, hf1, hf4, rfl, hbx⟩ := hrel
                      by_cases hf3 : f ≤ 3
                      · have df : decide ((f : Int) ≤ 3) = true := decide_eq_true (by omega)
                        have hbw := hb5.trans (hbx.mono hb5.size)
                        have KZ := b0.below hbw b0.lt; have KL := KZ.lt; have z0 := KZ.cl 0 _ rfl; have z1 := KZ.cl 1 _ rfl; have z2 := KZ.cl 2 _ rfl; have z3 := KZ.cl 3 _ rfl; have z4 := KZ.cl 4 _ rfl; have z5 := KZ.cl 5 _ rfl; have z6 := KZ.cl 6 _ rfl; have z7 := KZ.cl 7 _ rfl; have z8 := KZ.cl 8 _ rfl
                        have hrr := own_on hr5 hbx
                        have HRX := Lib.hid (HRS.out g f wr hbw)
                        have HEND := Lib.hid (fun w7 (hb7 : Below wr.heap.size wr w7) => hbx.trans (hb7.mono hbx.size))
                        have hrw := hrr
                        obtain ⟨gI, oI, rfl, _, hgI, hcI⟩ := int_row hrr (by omega)
                        have e0 := hcI 0 (by omega)
                        have HRY := Lib.hid (HRB.out g f ⟨by omega, by omega⟩ ⟨by omega, by omega⟩ hB)
                        have hnil : ¬ IL = [] := fun h => by rw [h] at hB; exact absurd hB (by decide)
                        have hne1 : ((IL.length : Int) == 1) = false := beq_eq_false_iff_ne.2 (by omega)
                        obtain ⟨u, hu⟩ : ∃ u, IL[0]! = u := ⟨_, rfl⟩
                        obtain ⟨y, hy⟩ : ∃ y, IL[IL.length - 1]! = y := ⟨_, rfl⟩
                        have hcu : IL.contains u = true := by rw [List.contains_iff_mem, ← hu, getElem!_pos IL 0 (by omega)]; exact List.getElem_mem _
                        have hcy : IL.contains y = true := by rw [List.contains_iff_mem, ← hy, getElem!_pos IL (IL.length - 1) (by omega)]; exact List.getElem_mem _
                        rw [hu, hy] at HRY
                        rw [hu, Nat.add_zero] at e0
                        clear hu hy hcI
                        have hf123 : f = 1 ∨ f = 2 ∨ f = 3 := by omega
                        rcases hf123 with rfl | rfl | rfl
                        · rw [show z.resV l g ((1 : Nat) : Int) = (0, 12) from HRY.out.trans (if_pos rfl)] at HRX
                          go_wp2_with fail
                          refine HRX.out.mono ?_
                          rintro e w7 ⟨rfl, hb7⟩
                          clear HRY HRA HRB HRC hrr hr5 HRS z0 z1 z2 z3 z4 z5 z6 z7 z8 KZ KL hbr hbw hrw HRX hcu hcy
                          go_wp2_with fail
                          go_roundw
                          case rel => exact ⟨2, by omega, by omega, by go_num, HEND.out _ hb7⟩
                          case measure => simp [intOf]
                        · rw [show z.resV l g ((2 : Nat) : Int) = (u, 0) from (HRY.out.trans (if_neg (by decide))).trans (if_pos rfl)] at HRX
                          go_wp2_with fail
                          refine HRX.out.mono ?_
                          rintro e w7 ⟨rfl, hb7⟩
                          have HCC := Lib.hid (contains_any u (own_on hrw hb7) hIL)
                          rw [hcu] at HCC
                          clear HRY HRA HRB HRC hrr hr5 HRS z0 z1 z2 z3 z4 z5 z6 z7 z8 KZ KL hbr hbw hrw HRX hcu hcy
                          go_wp2_with (go_at_call 27; refine HCC.out.mono ?_; rintro e w8 ⟨rfl, rfl⟩; clear HCC)
                          go_roundw
                          case rel => exact ⟨3, by omega, by omega, by go_num, HEND.out _ hb7⟩
                          case measure => simp [intOf]
                        · rw [show z.resV l g ((3 : Nat) : Int) = (y, 0) from (HRY.out.trans (if_neg (by decide))).trans (if_neg (by decide))] at HRX
                          go_wp2_with fail
                          refine HRX.out.mono ?_
                          rintro e w7 ⟨rfl, hb7⟩
                          have HCC := Lib.hid (contains_any y (own_on hrw hb7) hIL)
                          rw [hcy] at HCC
                          clear HRY HRA HRB HRC hrr hr5 HRS z0 z1 z2 z3 z4 z5 z6 z7 z8 KZ KL hbr hbw hrw HRX hcu hcy
                          go_wp2_with (go_at_call 27; refine HCC.out.mono ?_; rintro e w8 ⟨rfl, rfl⟩; clear HCC)
                          go_roundw
                          case rel => exact ⟨4, by omega, by omega, by go_num, HEND.out _ hb7⟩
                          case measure => simp [intOf]
                      · have df : decide ((f : Int) ≤ 3) = false := decide_eq_false (by omega)
                        go_wp2
                        go_roundw
                        case rel => exact ⟨g + 1, by omega, by omega, by go_num, hbx⟩
                        case measure => simp [intOf]; omega
                  · have dg : decide ((g : Int) ≤ 4) = false := decide_eq_false (by omega)
                    go_wp2
                    go_ret
                    exact ⟨rfl, hB1.trans ((hb5.trans (hbv.mono hb5.size)).mono hw)⟩
              · have hC : IL.length = 0 := by omega
                have hq1 : ((IL.length : Int) == 1) = false := beq_eq_false_iff_ne.2 (by omega)
                have hq3 : ((IL.length : Int) == 0) = true := beq_iff_eq.2 (by omega)
                have HAA := Lib.hid hC
                clear hC hA
                clear hlt hk KZ KL z0 z1 z2 z3 z4 z5 z6 z7 z8 HB2 HB3 HOF
                go_wp2
                generalize wr = wq at *
                go_loopw [17] (fun v17 wv => ∃ g : Nat, 1 ≤ g ∧ g ≤ 5 ∧ v17 = .int .i64 g ∧ Below w5.heap.size w5 wv) (fun v _ => 5 - (intOf v).toNat)
                case atStart => exact ⟨1, by omega, by omega, rfl, hbr⟩
                case round =>
                  obtain ⟨g, hg1, hg5, rfl, hbv⟩ := hrel
                  by_cases hg : g ≤ 4
                  · have dg : decide ((g : Int) ≤ 4) = true := decide_eq_true (by omega)
                    generalize hq : wr = wq2 at *
                    clear hq
                    go_wp2
                    go_loopw [18] (fun v18 wv => ∃ f : Nat, 1 ≤ f ∧ f ≤ 4 ∧ v18 = .int .i64 f ∧ Below w5.heap.size w5 wv) (fun v _ => 4 - (intOf v).toNat)
                    case atStart => exact ⟨1, by omega, by omega, rfl, hbv⟩
                    case round =>
                      obtain ⟨f, hf1, hf4, rfl, hbx⟩ := hrel
                      by_cases hf3 : f ≤ 3
                      · have df : decide ((f : Int) ≤ 3) = true := decide_eq_true (by omega)
                        have hbw := hb5.trans (hbx.mono hb5.size)
                        have KZ := b0.below hbw b0.lt; have KL := KZ.lt; have z0 := KZ.cl 0 _ rfl; have z1 := KZ.cl 1 _ rfl; have z2 := KZ.cl 2 _ rfl; have z3 := KZ.cl 3 _ rfl; have z4 := KZ.cl 4 _ rfl; have z5 := KZ.cl 5 _ rfl; have z6 := KZ.cl 6 _ rfl; have z7 := KZ.cl 7 _ rfl; have z8 := KZ.cl 8 _ rfl
                        have hrr := own_on hr5 hbx
                        have HRX := Lib.hid (HRS.out g f wr hbw)
                        have HEND := Lib.hid (fun w7 (hb7 : Below wr.heap.size wr w7) => hbx.trans (hb7.mono hbx.size))
                        skip
                        by_cases hg1' : g = 1
                        · have HRY := Lib.hid (HRC.out f ⟨by omega, by omega⟩ HAA.out)
                          subst hg1'
                          rcases HRY.out with hy | hy
                          · rw [show z.resV l ((1 : Nat) : Int) f = (0, 11) from hy] at HRX
                            clear hy HRY
                            go_wp2_with fail
                            refine HRX.out.mono ?_
                            rintro e w7 ⟨rfl, hb7⟩
                            clear HRX HRA HRB HRC hrr hr5 HRS z0 z1 z2 z3 z4 z5 z6 z7 z8 KZ KL hbr hbw
                            go_wp2_with fail
                            go_roundw
                            case rel => exact ⟨f + 1, by omega, by omega, by go_num, HEND.out _ hb7⟩
                            case measure => simp [intOf]; omega
                          · rw [show z.resV l ((1 : Nat) : Int) f = (0, 2) from hy] at HRX
                            clear hy HRY
                            go_wp2_with fail
                            refine HRX.out.mono ?_
                            rintro e w7 ⟨rfl, hb7⟩
                            clear HRX HRA HRB HRC hrr hr5 HRS z0 z1 z2 z3 z4 z5 z6 z7 z8 KZ KL hbr hbw
                            go_wp2_with fail
                            go_roundw
                            case rel => exact ⟨f + 1, by omega, by omega, by go_num, HEND.out _ hb7⟩
                            case measure => simp [intOf]; omega
                        · generalize z.resV l g f = R at *
                          have hgn : ((g : Int) == 1) = false := beq_eq_false_iff_ne.2 (by omega)
                          go_wp2_with fail
                          refine HRX.out.mono ?_
                          rintro e w7 ⟨rfl, hb7⟩
                          clear HRX HRA HRB HRC hrr hr5 HRS z0 z1 z2 z3 z4 z5 z6 z7 z8 KZ KL hbr hbw
                          go_wp2_with fail
                          go_roundw
                          case rel => exact ⟨f + 1, by omega, by omega, by go_num, HEND.out _ hb7⟩
                          case measure => simp [intOf]; omega
                      · have df : decide ((f : Int) ≤ 3) = false := decide_eq_false (by omega)
                        go_wp2
                        go_roundw
                        case rel => exact ⟨g + 1, by omega, by omega, by go_num, hbx⟩
                        case measure => simp [intOf]; omega
                  · have dg : decide ((g : Int) ≤ 4) = false := decide_eq_false (by omega)
                    go_wp2
                    go_ret
                    exact ⟨rfl, hB1.trans ((hb5.trans (hbv.mono hb5.size)).mono hw)⟩
      · have hne : ((z.ofV t).2 == 0) = false := beq_eq_false_iff_ne.2 he
        have HOFX := Lib.hid (fun W' hb => HOF.out t W' hb)
        have HINL := Lib.hid (fun W' hb => HIN.out l W' hb)
        clear HIN he
        generalize z.ofV t = R at *
        obtain ⟨Rx, Re⟩ := R
        dsimp only at hne HOFX
        go_wp2_with (first | (go_at_call 24; refine (HF.out w1 hb1).mono ?_; rintro e w2 ⟨rfl, hb2⟩; rw [hf]; have hb2 := hb1.trans (hb2.mono hb1.size); clear HF; have KZ := b0.below hb2 b0.lt; have KL := KZ.lt; have z0 := KZ.cl 0 _ rfl; have z1 := KZ.cl 1 _ rfl; have z2 := KZ.cl 2 _ rfl; have z3 := KZ.cl 3 _ rfl; have z4 := KZ.cl 4 _ rfl; have z5 := KZ.cl 5 _ rfl; have z6 := KZ.cl 6 _ rfl; have z7 := KZ.cl 7 _ rfl; have z8 := KZ.cl 8 _ rfl) | (go_at_call 25; refine (HOFX.out w2 hb2).mono ?_; rintro e w3 ⟨rfl, hb3⟩; have hb3 := hb2.trans (hb3.mono hb2.size); clear HOFX; have KZ := b0.below hb3 b0.lt; have KL := KZ.lt; have z0 := KZ.cl 0 _ rfl; have z1 := KZ.cl 1 _ rfl; have z2 := KZ.cl 2 _ rfl; have z3 := KZ.cl 3 _ rfl; have z4 := KZ.cl 4 _ rfl; have z5 := KZ.cl 5 _ rfl; have z6 := KZ.cl 6 _ rfl; have z7 := KZ.cl 7 _ rfl; have z8 := KZ.cl 8 _ rfl) | (go_at_call 26; refine (HINL.out w3 hb3).mono ?_; rintro e w5 ⟨v5, rfl, hr5, hb5⟩; rw [hil] at hr5 ⊢; have hb5 := hb3.trans (hb5.mono hb3.size); obtain ⟨A5, c5, rfl⟩ := own_formN hr5; clear HINL; have KZ := b0.below hb5 b0.lt; have KL := KZ.lt; have z0 := KZ.cl 0 _ rfl; have z1 := KZ.cl 1 _ rfl; have z2 := KZ.cl 2 _ rfl; have z3 := KZ.cl 3 _ rfl; have z4 := KZ.cl 4 _ rfl; have z5 := KZ.cl 5 _ rfl; have z6 := KZ.cl 6 _ rfl; have z7 := KZ.cl 7 _ rfl; have z8 := KZ.cl 8 _ rfl))
        have HRA := Lib.hid (fun g f (hg : 1 ≤ g ∧ g ≤ 4) (hf : 1 ≤ f ∧ f ≤ 3) (h : (z.insts l).length = 1) => show z.resV l g f = ((z.insts l)[0]!, 0) by rw [HRF.out g f hg hf]; unfold Zn.resF; rw [if_pos h])
        have HRB := Lib.hid (fun g f (hg : 1 ≤ g ∧ g ≤ 4) (hf : 1 ≤ f ∧ f ≤ 3) (h : 1 < (z.insts l).length) => show z.resV l g f = (if f = 1 then ((0 : Int), (12 : Int)) else if f = 2 then ((z.insts l)[0]!, 0) else ((z.insts l)[(z.insts l).length - 1]!, 0)) by rw [HRF.out g f hg hf]; unfold Zn.resF; rw [if_neg (by omega), if_pos h])
        have HRC := Lib.hid (fun f (hf : 1 ≤ f ∧ f ≤ 3) (h : (z.insts l).length = 0) => show z.resV l 1 f = (0, 11) ∨ z.resV l 1 f = (0, 2) by rw [HRF.out 1 f ⟨by omega, by omega⟩ hf]; exact HR1.out (List.eq_nil_of_length_eq_zero h) f)
        clear HRF HR1 HLN hil hv hl
        generalize z.insts l = IL at *
        clear KZ KL z0 z1 z2 z3 z4 z5 z6 z7 z8
        go_loopw [58] (fun v58 wr => ∃ k : Nat, k ≤ IL.length ∧ v58 = .int .i64 k ∧ Below w5.heap.size w5 wr) (fun v _ => IL.length - (intOf v).toNat)
        case atStart => exact ⟨0, Nat.zero_le _, rfl, Below.refl _ _⟩
        case round =>
          obtain ⟨k, hk, rfl, hbr⟩ := hrel
          have hbw := hb5.trans (hbr.mono hb5.size)
          have KZ := b0.below hbw b0.lt; have KL := KZ.lt; have z0 := KZ.cl 0 _ rfl; have z1 := KZ.cl 1 _ rfl; have z2 := KZ.cl 2 _ rfl; have z3 := KZ.cl 3 _ rfl; have z4 := KZ.cl 4 _ rfl; have z5 := KZ.cl 5 _ rfl; have z6 := KZ.cl 6 _ rfl; have z7 := KZ.cl 7 _ rfl; have z8 := KZ.cl 8 _ rfl
          by_cases hlt : k < IL.length
          · have hrr := own_on hr5 hbr
            obtain ⟨gI, oI, rfl, _, hgI, hcI⟩ := int_row hrr (by omega)
            have ek := hcI k hlt
            have HO := Lib.hid (HOF.out IL[k]! wr hbw)
            rw [HB2.out k hlt] at HO
            obtain ⟨u, hu⟩ : ∃ u, IL[k]! = u := ⟨_, rfl⟩
            rw [hu] at HO ek
            have HU := Lib.hid hu
            clear hu
            by_cases hk0 : k = 0
            · have dk : ¬ 0 < k := by omega
              clear hk0 hcI
              go_wp2_with (go_at_call 25; refine HO.out.mono ?_; rintro e w6 ⟨rfl, hb6⟩; clear HO)
              go_roundw
              case rel => exact ⟨k + 1, by omega, by go_num, hbr.trans (hb6.mono hbr.size)⟩
              case measure => simp [intOf]; omega
            · have dk : 0 < k := by omega
              obtain ⟨j, hj⟩ : ∃ j, k = j + 1 := ⟨k - 1, by omega⟩
              have ep := hcI j (by omega)
              obtain ⟨v, hv⟩ : ∃ v, IL[j]! = v := ⟨_, rfl⟩
              have hle : decide (u ≤ v) = false := decide_eq_false (by have h1 := HB3.out j (by omega); rw [← hj, HU.out, hv] at h1; omega)
              rw [hv] at ep
              clear hv hcI hk0
              have em : (k : Int) - 1 = (j : Int) := by omega
              have hjl : j < IL.length := by omega
              have HJ := Lib.hid hj
              clear hj
              go_wp2_with (go_at_call 25; refine HO.out.mono ?_; rintro e w6 ⟨rfl, hb6⟩; have ep6 := (hb6.cell (p := ⟨gI, oI + j, none⟩) hgI).trans ep; clear HO)
              go_roundw
              case rel => exact ⟨k + 1, by omega, by go_num, hbr.trans (hb6.mono hbr.size)⟩
              case measure => simp [intOf]; omega
          · obtain rfl : k = IL.length := by omega
            by_cases hA : IL.length = 1
            · have hq1 : ((IL.length : Int) == 1) = true := beq_iff_eq.2 (by omega)
              have hq2 : ¬ 1 < IL.length := by omega
              have hq3 : ((IL.length : Int) == 0) = false := beq_eq_false_iff_ne.2 (by omega)
              have hq4 : 0 < IL.length := by omega
              have HAA := Lib.hid hA
              clear hA
              clear hlt hk KZ KL z0 z1 z2 z3 z4 z5 z6 z7 z8 HB2 HB3 HOF
              go_wp2
              generalize wr = wq at *
              go_loopw [17] (fun v17 wv => ∃ g : Nat, 1 ≤ g ∧ g ≤ 5 ∧ v17 = .int .i64 g ∧ Below w5.heap.size w5 wv) (fun v _ => 5 - (intOf v).toNat)
              case atStart => exact ⟨1, by omega, by omega, rfl, hbr⟩
              case round =>
                obtain ⟨g, hg1, hg5, rfl, hbv⟩ := hrel
                by_cases hg : g ≤ 4
                · have dg : decide ((g : Int) ≤ 4) = true := decide_eq_true (by omega)
                  generalize hq : wr = wq2 at *
                  clear hq
                  go_wp2
                  go_loopw [18] (fun v18 wv => ∃ f : Nat, 1 ≤ f ∧ f ≤ 4 ∧ v18 = .int .i64 f ∧ Below w5.heap.size w5 wv) (fun v _ => 4 - (intOf v).toNat)
                  case atStart => exact ⟨1, by omega, by omega, rfl, hbv⟩
                  case round =>
                    obtain ⟨f, hf1, hf4, rfl, hbx⟩ := hrel
                    by_cases hf3 : f ≤ 3
                    · have df : decide ((f : Int) ≤ 3) = true := decide_eq_true (by omega)
                      have hbw := hb5.trans (hbx.mono hb5.size)
                      have KZ := b0.below hbw b0.lt; have KL := KZ.lt; have z0 := KZ.cl 0 _ rfl; have z1 := KZ.cl 1 _ rfl; have z2 := KZ.cl 2 _ rfl; have z3 := KZ.cl 3 _ rfl; have z4 := KZ.cl 4 _ rfl; have z5 := KZ.cl 5 _ rfl; have z6 := KZ.cl 6 _ rfl; have z7 := KZ.cl 7 _ rfl; have z8 := KZ.cl 8 _ rfl
                      have hrr := own_on hr5 hbx
                      have HRX := Lib.hid (HRS.out g f wr hbw)
                      have HEND := Lib.hid (fun w7 (hb7 : Below wr.heap.size wr w7) => hbx.trans (hb7.mono hbx.size))
                      obtain ⟨gI, oI, rfl, _, hgI, hcI⟩ := int_row hrr (by omega)
                      have e0 := hcI 0 (by omega)
                      rw [HRA.out g f ⟨by omega, by omega⟩ ⟨by omega, by omega⟩ HAA.out] at HRX
                      obtain ⟨u, hu⟩ : ∃ u, IL[0]! = u := ⟨_, rfl⟩
                      rw [hu] at HRX e0
                      rw [Nat.add_zero] at e0
                      clear hu hcI
                      go_wp2_with fail
                      refine HRX.out.mono ?_
                      rintro e w7 ⟨rfl, hb7⟩
                      have e7 := (hb7.cell (p := ⟨gI, oI, none⟩) hgI).trans e0
                      clear HRX HRA HRB HRC hrr hr5 HRS z0 z1 z2 z3 z4 z5 z6 z7 z8 KZ KL hbr hbw
                      go_wp2_with fail
                      go_roundw
                      case rel => exact ⟨f + 1, by omega, by omega, by go_num, HEND.out _ hb7⟩
                      case measure => simp [intOf]; omega
                    · have df : decide ((f : Int) ≤ 3) = false := decide_eq_false (by omega)
                      go_wp2
                      go_roundw
                      case rel => exact ⟨g + 1, by omega, by omega, by go_num, hbx⟩
                      case measure => simp [intOf]; omega
                · have dg : decide ((g : Int) ≤ 4) = false := decide_eq_false (by omega)
                  go_wp2
                  go_ret
                  exact ⟨rfl, hB1.trans ((hb5.trans (hbv.mono hb5.size)).mono hw)⟩
            · by_cases hB : 1 < IL.length
              · skip
                clear hlt hk KZ KL z0 z1 z2 z3 z4 z5 z6 z7 z8 HB2 HB3 HOF
                go_wp2
                generalize wr = wq at *
                go_loopw [17] (fun v17 wv => ∃ g : Nat, 1 ≤ g ∧ g ≤ 5 ∧ v17 = .int .i64 g ∧ Below w5.heap.size w5 wv) (fun v _ => 5 - (intOf v).toNat)
                case atStart => exact ⟨1, by omega, by omega, rfl, hbr⟩
                case round =>
                  obtain ⟨g, hg1, hg5, rfl, hbv⟩ := hrel
                  by_cases hg : g ≤ 4
                  · have dg : decide ((g : Int) ≤ 4) = true := decide_eq_true (by omega)
                    generalize hq : wr = wq2 at *
                    clear hq
                    go_wp2
                    go_loopw [18] (fun v18 wv => ∃ f : Nat, 1 ≤ f ∧ f ≤ 4 ∧ v18 = .int .i64 f ∧ Below w5.heap.size w5 wv) (fun v _ => 4 - (intOf v).toNat)
                    case atStart => exact ⟨1, by omega, by omega, rfl, hbv⟩
                    case round =>
                      obtain ⟨f, hf1, hf4, rfl, hbx⟩ := hrel
                      by_cases hf3 : f ≤ 3
                      · have df : decide ((f : Int) ≤ 3) = true := decide_eq_true (by omega)
                        have hbw := hb5.trans (hbx.mono hb5.size)
                        have KZ := b0.below hbw b0.lt; have KL := KZ.lt; have z0 := KZ.cl 0 _ rfl; have z1 := KZ.cl 1 _ rfl; have z2 := KZ.cl 2 _ rfl; have z3 := KZ.cl 3 _ rfl; have z4 := KZ.cl 4 _ rfl; have z5 := KZ.cl 5 _ rfl; have z6 := KZ.cl 6 _ rfl; have z7 := KZ.cl 7 _ rfl; have z8 := KZ.cl 8 _ rfl
                        have hrr := own_on hr5 hbx
                        have HRX := Lib.hid (HRS.out g f wr hbw)
                        have HEND := Lib.hid (fun w7 (hb7 : Below wr.heap.size wr w7) => hbx.trans (hb7.mono hbx.size))
                        have hrw := hrr
                        obtain ⟨gI, oI, rfl, _, hgI, hcI⟩ := int_row hrr (by omega)
                        have e0 := hcI 0 (by omega)
                        have HRY := Lib.hid (HRB.out g f ⟨by omega, by omega⟩ ⟨by omega, by omega⟩ hB)
                        have hnil : ¬ IL = [] := fun h => by rw [h] at hB; exact absurd hB (by decide)
                        have hne1 : ((IL.length : Int) == 1) = false := beq_eq_false_iff_ne.2 (by omega)
                        obtain ⟨u, hu⟩ : ∃ u, IL[0]! = u := ⟨_, rfl⟩
                        obtain ⟨y, hy⟩ : ∃ y, IL[IL.length - 1]! = y := ⟨_, rfl⟩
                        have hcu : IL.contains u = true := by rw [List.contains_iff_mem, ← hu, getElem!_pos IL 0 (by omega)]; exact List.getElem_mem _
                        have hcy : IL.contains y = true := by rw [List.contains_iff_mem, ← hy, getElem!_pos IL (IL.length - 1) (by omega)]; exact List.getElem_mem _
                        rw [hu, hy] at HRY
                        rw [hu, Nat.add_zero] at e0
                        clear hu hy hcI
                        have hf123 : f = 1 ∨ f = 2 ∨ f = 3 := by omega
                        rcases hf123 with rfl | rfl | rfl
                        · rw [show z.resV l g ((1 : Nat) : Int) = (0, 12) from HRY.out.trans (if_pos rfl)] at HRX
                          go_wp2_with fail
                          refine HRX.out.mono ?_
                          rintro e w7 ⟨rfl, hb7⟩
                          clear HRY HRA HRB HRC hrr hr5 HRS z0 z1 z2 z3 z4 z5 z6 z7 z8 KZ KL hbr hbw hrw HRX hcu hcy
                          go_wp2_with fail
                          go_roundw
                          case rel => exact ⟨2, by omega, by omega, by go_num, HEND.out _ hb7⟩
                          case measure => simp [intOf]
                        · rw [show z.resV l g ((2 : Nat) : Int) = (u, 0) from (HRY.out.trans (if_neg (by decide))).trans (if_pos rfl)] at HRX
                          go_wp2_with fail
                          refine HRX.out.mono ?_
                          rintro e w7 ⟨rfl, hb7⟩
                          have HCC := Lib.hid (contains_any u (own_on hrw hb7) hIL)
                          rw [hcu] at HCC
                          clear HRY HRA HRB HRC hrr hr5 HRS z0 z1 z2 z3 z4 z5 z6 z7 z8 KZ KL hbr hbw hrw HRX hcu hcy
                          go_wp2_with (go_at_call 27; refine HCC.out.mono ?_; rintro e w8 ⟨rfl, rfl⟩; clear HCC)
                          go_roundw
                          case rel => exact ⟨3, by omega, by omega, by go_num, HEND.out _ hb7⟩
                          case measure => simp [intOf]
                        · rw [show z.resV l g ((3 : Nat) : Int) = (y, 0) from (HRY.out.trans (if_neg (by decide))).trans (if_neg (by decide))] at HRX
                          go_wp2_with fail
                          refine HRX.out.mono ?_
                          rintro e w7 ⟨rfl, hb7⟩
                          have HCC := Lib.hid (contains_any y (own_on hrw hb7) hIL)
                          rw [hcy] at HCC
                          clear HRY HRA HRB HRC hrr hr5 HRS z0 z1 z2 z3 z4 z5 z6 z7 z8 KZ KL hbr hbw hrw HRX hcu hcy
                          go_wp2_with (go_at_call 27; refine HCC.out.mono ?_; rintro e w8 ⟨rfl, rfl⟩; clear HCC)
                          go_roundw
                          case rel => exact ⟨4, by omega, by omega, by go_num, HEND.out _ hb7⟩
                          case measure => simp [intOf]
                      · have df : decide ((f : Int) ≤ 3) = false := decide_eq_false (by omega)
                        go_wp2
                        go_roundw
                        case rel => exact ⟨g + 1, by omega, by omega, by go_num, hbx⟩
                        case measure => simp [intOf]; omega
                  · have dg : decide ((g : Int) ≤ 4) = false := decide_eq_false (by omega)
                    go_wp2
                    go_ret
                    exact ⟨rfl, hB1.trans ((hb5.trans (hbv.mono hb5.size)).mono hw)⟩
              · have hC : IL.length = 0 := by omega
                have hq1 : ((IL.length : Int) == 1) = false := beq_eq_false_iff_ne.2 (by omega)
                have hq3 : ((IL.length : Int) == 0) = true := beq_iff_eq.2 (by omega)
                have HAA := Lib.hid hC
                clear hC hA
                clear hlt hk KZ KL z0 z1 z2 z3 z4 z5 z6 z7 z8 HB2 HB3 HOF
                go_wp2
                generalize wr = wq at *
                go_loopw [17] (fun v17 wv => ∃ g : Nat, 1 ≤ g ∧ g ≤ 5 ∧ v17 = .int .i64 g ∧ Below w5.heap.size w5 wv) (fun v _ => 5 - (intOf v).toNat)
                case atStart => exact ⟨1, by omega, by omega, rfl, hbr⟩
                case round =>
                  obtain ⟨g, hg1, hg5, rfl, hbv⟩ := hrel
                  by_cases hg : g ≤ 4
                  · have dg : decide ((g : Int) ≤ 4) = true := decide_eq_true (by omega)
                    generalize hq : wr = wq2 at *
                    clear hq
                    go_wp2
                    go_loopw [18] (fun v18 wv => ∃ f : Nat, 1 ≤ f ∧ f ≤ 4 ∧ v18 = .int .i64 f ∧ Below w5.heap.size w5 wv) (fun v _ => 4 - (intOf v).toNat)
                    case atStart => exact ⟨1, by omega, by omega, rfl, hbv⟩
                    case round =>
                      obtain ⟨f, hf1, hf4, rfl, hbx⟩ := hrel
                      by_cases hf3 : f ≤ 3
                      · have df : decide ((f : Int) ≤ 3) = true := decide_eq_true (by omega)
                        have hbw := hb5.trans (hbx.mono hb5.size)
                        have KZ := b0.below hbw b0.lt; have KL := KZ.lt; have z0 := KZ.cl 0 _ rfl; have z1 := KZ.cl 1 _ rfl; have z2 := KZ.cl 2 _ rfl; have z3 := KZ.cl 3 _ rfl; have z4 := KZ.cl 4 _ rfl; have z5 := KZ.cl 5 _ rfl; have z6 := KZ.cl 6 _ rfl; have z7 := KZ.cl 7 _ rfl; have z8 := KZ.cl 8 _ rfl
                        have hrr := own_on hr5 hbx
                        have HRX := Lib.hid (HRS.out g f wr hbw)
                        have HEND := Lib.hid (fun w7 (hb7 : Below wr.heap.size wr w7) => hbx.trans (hb7.mono hbx.size))
                        skip
                        by_cases hg1' : g = 1
                        · have HRY := Lib.hid (HRC.out f ⟨by omega, by omega⟩ HAA.out)
                          subst hg1'
                          rcases HRY.out with hy | hy
                          · rw [show z.resV l ((1 : Nat) : Int) f = (0, 11) from hy] at HRX
                            clear hy HRY
                            go_wp2_with fail
                            refine HRX.out.mono ?_
                            rintro e w7 ⟨rfl, hb7⟩
                            clear HRX HRA HRB HRC hrr hr5 HRS z0 z1 z2 z3 z4 z5 z6 z7 z8 KZ KL hbr hbw
                            go_wp2_with fail
                            go_roundw
                            case rel => exact ⟨f + 1, by omega, by omega, by go_num, HEND.out _ hb7⟩
                            case measure => simp [intOf]; omega
                          · rw [show z.resV l ((1 : Nat) : Int) f = (0, 2) from hy] at HRX
                            clear hy HRY
                            go_wp2_with fail
                            refine HRX.out.mono ?_
                            rintro e w7 ⟨rfl, hb7⟩
                            clear HRX HRA HRB HRC hrr hr5 HRS z0 z1 z2 z3 z4 z5 z6 z7 z8 KZ KL hbr hbw
                            go_wp2_with fail
                            go_roundw
                            case rel => exact ⟨f + 1, by omega, by omega, by go_num, HEND.out _ hb7⟩
                            case measure => simp [intOf]; omega
                        · generalize z.resV l g f = R at *
                          have hgn : ((g : Int) == 1) = false := beq_eq_false_iff_ne.2 (by omega)
                          go_wp2_with fail
                          refine HRX.out.mono ?_
                          rintro e w7 ⟨rfl, hb7⟩
                          clear HRX HRA HRB HRC hrr hr5 HRS z0 z1 z2 z3 z4 z5 z6 z7 z8 KZ KL hbr hbw
                          go_wp2_with fail
                          go_roundw
                          case rel => exact ⟨f + 1, by omega, by omega, by go_num, HEND.out _ hb7⟩
                          case measure => simp [intOf]; omega
                      · have df : decide ((f : Int) ≤ 3) = false := decide_eq_false (by omega)
                        go_wp2
                        go_roundw
                        case rel => exact ⟨g + 1, by omega, by omega, by go_num, hbx⟩
                        case measure => simp [intOf]; omega
                  · have dg : decide ((g : Int) ≤ 4) = false := decide_eq_false (by omega)
                    go_wp2
                    go_ret
                    exact ⟨rfl, hB1.trans ((hb5.trans (hbv.mono hb5.size)).mono hw)⟩
    · have hnl : ((z.insV l).2 == 0) = false := beq_eq_false_iff_ne.2 hil0
      have HINL := Lib.hid (fun W' hb => HIN.out l W' hb)
      by_cases he : (z.ofV t).2 = 0
      · obtain ⟨hi1, hc1⟩ := back1 he
        have hv := (ofV_ok he).1
        obtain ⟨x, hx⟩ : ∃ x, (z.ofV t).1 = x := ⟨_, rfl⟩
        have hof : z.ofV t = (x, 0) := Prod.ext hx he
        rw [hx] at hi1 hc1
        clear he hx
        have HINX := Lib.hid (fun W' hb => HIN.out x W' hb)
        clear HIN hil0
        generalize z.insV l = V at *
        obtain ⟨Vl, Ve⟩ := V
        dsimp only at hnl HINL
        go_wp2_with (first | (go_at_call 24; refine (HF.out w1 hb1).mono ?_; rintro e w2 ⟨rfl, hb2⟩; rw [hf]; have hb2 := hb1.trans (hb2.mono hb1.size); clear HF; have KZ := b0.below hb2 b0.lt; have KL := KZ.lt; have z0 := KZ.cl 0 _ rfl; have z1 := KZ.cl 1 _ rfl; have z2 := KZ.cl 2 _ rfl; have z3 := KZ.cl 3 _ rfl; have z4 := KZ.cl 4 _ rfl; have z5 := KZ.cl 5 _ rfl; have z6 := KZ.cl 6 _ rfl; have z7 := KZ.cl 7 _ rfl; have z8 := KZ.cl 8 _ rfl) | (go_at_call 25; refine (HOF.out t w2 hb2).mono ?_; rintro e w3 ⟨rfl, hb3⟩; rw [hof]; have hb3 := hb2.trans (hb3.mono hb2.size); have KZ := b0.below hb3 b0.lt; have KL := KZ.lt; have z0 := KZ.cl 0 _ rfl; have z1 := KZ.cl 1 _ rfl; have z2 := KZ.cl 2 _ rfl; have z3 := KZ.cl 3 _ rfl; have z4 := KZ.cl 4 _ rfl; have z5 := KZ.cl 5 _ rfl; have z6 := KZ.cl 6 _ rfl; have z7 := KZ.cl 7 _ rfl; have z8 := KZ.cl 8 _ rfl) | (go_at_call 26; refine (HINX.out w3 hb3).mono ?_; clear HINX; rintro e w4 ⟨v4, rfl, hr4, hb4⟩; rw [hi1] at hr4 ⊢; have hb4 := hb3.trans (hb4.mono hb3.size); obtain ⟨A4, c4, rfl⟩ := own_formN hr4; have HC := Lib.hid (contains_any t hr4 (HLN.out hv x)); have KZ := b0.below hb4 b0.lt; have KL := KZ.lt; have z0 := KZ.cl 0 _ rfl; have z1 := KZ.cl 1 _ rfl; have z2 := KZ.cl 2 _ rfl; have z3 := KZ.cl 3 _ rfl; have z4 := KZ.cl 4 _ rfl; have z5 := KZ.cl 5 _ rfl; have z6 := KZ.cl 6 _ rfl; have z7 := KZ.cl 7 _ rfl; have z8 := KZ.cl 8 _ rfl) | (go_at_call 27; refine HC.out.mono ?_; rintro e wc ⟨rfl, rfl⟩; rw [hc1]; clear HC hr4) | (go_at_call 26; refine (HINL.out w4 hb4).mono ?_; rintro e w5 ⟨v5, rfl, hr5, hb5⟩; have hb5 := hb4.trans (hb5.mono hb4.size); obtain ⟨A5, c5, rfl⟩ := own_formN hr5; clear HINL hr5))
        go_ret
        exact ⟨rfl, hB1.trans (hb5.mono hw)⟩
      · have hne : ((z.ofV t).2 == 0) = false := beq_eq_false_iff_ne.2 he
        have HOFX := Lib.hid (fun W' hb => HOF.out t W' hb)
        clear HIN he hil0
        generalize z.insV l = V at *
        obtain ⟨Vl, Ve⟩ := V
        generalize z.ofV t = R at *
        obtain ⟨Rx, Re⟩ := R
        dsimp only at hne HOFX hnl HINL
        go_wp2_with (first | (go_at_call 24; refine (HF.out w1 hb1).mono ?_; rintro e w2 ⟨rfl, hb2⟩; rw [hf]; have hb2 := hb1.trans (hb2.mono hb1.size); clear HF; have KZ := b0.below hb2 b0.lt; have KL := KZ.lt; have z0 := KZ.cl 0 _ rfl; have z1 := KZ.cl 1 _ rfl; have z2 := KZ.cl 2 _ rfl; have z3 := KZ.cl 3 _ rfl; have z4 := KZ.cl 4 _ rfl; have z5 := KZ.cl 5 _ rfl; have z6 := KZ.cl 6 _ rfl; have z7 := KZ.cl 7 _ rfl; have z8 := KZ.cl 8 _ rfl) | (go_at_call 25; refine (HOFX.out w2 hb2).mono ?_; rintro e w3 ⟨rfl, hb3⟩; have hb3 := hb2.trans (hb3.mono hb2.size); clear HOFX; have KZ := b0.below hb3 b0.lt; have KL := KZ.lt; have z0 := KZ.cl 0 _ rfl; have z1 := KZ.cl 1 _ rfl; have z2 := KZ.cl 2 _ rfl; have z3 := KZ.cl 3 _ rfl; have z4 := KZ.cl 4 _ rfl; have z5 := KZ.cl 5 _ rfl; have z6 := KZ.cl 6 _ rfl; have z7 := KZ.cl 7 _ rfl; have z8 := KZ.cl 8 _ rfl) | (go_at_call 26; refine (HINL.out w3 hb3).mono ?_; rintro e w5 ⟨v5, rfl, hr5, hb5⟩; have hb5 := hb3.trans (hb5.mono hb3.size); obtain ⟨A5, c5, rfl⟩ := own_formN hr5; clear HINL hr5))
        go_ret
        exact ⟨rfl, hB1.trans (hb5.mono hw)⟩

end Go.Proofs.YtdpkolnfbimheaaGreat

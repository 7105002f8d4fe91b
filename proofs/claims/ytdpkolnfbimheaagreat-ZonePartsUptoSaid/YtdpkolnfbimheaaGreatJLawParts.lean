/- The walk of ZoneParts. -/
import Derived.Test.YtdpkolnfbimheaaGreatGAw
import Derived.Test.YtdpkolnfbimheaaGreatJPartsP
import Derived.Test.YtdpkolnfbimheaaGreatGZk
import Derived.Laws.AppendOwnNone
namespace Go.Proofs.YtdpkolnfbimheaaGreat
set_option linter.unusedSimpArgs false
set_option linter.unusedVariables false
open Go.ChangeShapes Go.WideShapes Go.ChangeAt Go.RowKit

theorem betV_ok {z : Zn} {a b : Int} {L : List Trn} (h : z.betV a b = (L, 0)) : spanB a b = true ∧ z.valid = true ∧ L = z.betF a b ∧ L.length ≤ 1000 := by
  unfold Zn.betV at h
  split at h
  · rename_i hc
    split at h
    · rename_i hl
      injection h with h1 _
      exact ⟨hc.1, hc.2, h1.symm, by rw [← h1]; exact hl⟩
    · injection h with _ h2; omega
  · injection h with _ h2; omega
theorem betV_err {z : Zn} {a b : Int} {L : List Trn} {e : Int} (h : z.betV a b = (L, e)) (he : e ≠ 0) : L = [] := by
  unfold Zn.betV at h
  split at h
  · split at h
    · injection h with _ h2; omega
    · injection h with h1 _; exact h1.symm
  · injection h with h1 _; exact h1.symm
theorem betV_len {z : Zn} {a b : Int} {L : List Trn} {e : Int} (h : z.betV a b = (L, e)) : L.length ≤ 1000 := by
  by_cases he : e = 0
  · subst he; exact (betV_ok h).2.2.2
  · rw [betV_err h he]; simp
theorem szT4 : ∀ w, (Go.sizeOf 38).run Tryz.prog w = .ok 4 w := fun _ => by kernel_rfl
theorem rd_flat {l : List Trn} {w : World} {b off : Nat} (hc : ∀ j, j < l.length → ∀ i u, (Trn.cells l[j]!)[i]? = some u → w.cell? ⟨b, off + j * 4 + i, none⟩ = some u) : ∀ j u, (l.flatMap Trn.cells)[j]? = some u → w.cell? ⟨b, off + j, none⟩ = some u := fun j u hu => by
  have hj : j < l.length * 4 := by rw [← flat_len trn_len l]; exact (List.getElem?_eq_some_iff.1 hu).1
  have := flat_get trn_len l (j / 4) (j % 4) (by omega) (by omega)
  rw [show j / 4 * 4 + j % 4 = j by omega, hu] at this
  have e := hc (j / 4) (by omega) (j % 4) u (by rw [List.getElem?_eq_getElem (by rw [trn_len]; omega)]; rw [getElem!_pos _ (j % 4) (by rw [trn_len]; omega)] at this; exact this.symm)
  rwa [show off + j / 4 * 4 + j % 4 = off + j by omega] at e
theorem rd_cells {l : List Trn} {w : World} {b off c : Nat} (h : Rd Trn.cells 4 w (.slice (some ⟨b, off, none⟩) l.length c) l) : ∀ j u, (l.flatMap Trn.cells)[j]? = some u → w.cell? ⟨b, off + j, none⟩ = some u := by
  rcases h with ⟨rfl, _⟩ | ⟨b', off', c', hv, _, hc⟩
  · intro j u hu; simp at hu
  · injection hv with h1 _ _
    injection h1 with h1
    injection h1 with h1 h2 _
    subst h1 h2
    exact rd_flat hc
theorem add_plain (b off j : Nat) : (⟨b, off, none⟩ : Addr).add j = ⟨b, off + j, none⟩ := by
  unfold Addr.add
  by_cases h : j = 0 <;> simp [h]
theorem parts_eq {z : Zn} {a b c : Int} {W L H : List Trn} (hW : z.betV a c = (W, 0)) (hL : z.betV a b = (L, 0)) (hH : z.betV b c = (H, 0)) : L ++ H = W := by
  obtain ⟨s1, v, e1, _⟩ := betV_ok hW
  obtain ⟨s2, _, e2, _⟩ := betV_ok hL
  obtain ⟨s3, _, e3, _⟩ := betV_ok hH
  have h1 := span_in s2
  have h2 := span_in s3
  rw [e1, e2, e3]
  exact (asc_split (T_asc v) (by omega) (by omega)).symm
/-- the instant ahead of the k-th transition of a span -/
def ahK (W : List Trn) (a : Int) (k : Nat) : Int := if k = 0 then a - 1 else (W[k - 1]!).at_
theorem parts_next {z : Zn} {a c : Int} {W : List Trn} (hv : z.valid = true) (hW : W = z.betF a c) (k : Nat) (hk : k < W.length) : z.nextF (ahK W a k) = some W[k]! := by
  subst hW
  unfold ahK
  cases k with
  | zero => rw [if_pos rfl]; exact bet_next0 hv hk
  | succ k => rw [if_neg (by omega), Nat.add_sub_cancel]; exact bet_nextS hv hk
theorem parts_mem {z : Zn} {a c : Int} {W : List Trn} (hW : W = z.betF a c) (k : Nat) (hk : k < W.length) : a ≤ (W[k]!).at_ ∧ (W[k]!).at_ < c := by
  subst hW
  rw [getElem!_pos _ k hk]
  have := (List.mem_filter.1 (List.getElem_mem (l := z.betF a c) hk)).2
  simpa using this
def CloneEnd (l : List Trn) (w : World) (e : Ending) (w' : World) : Prop := ∃ v', e = .returned v' ∧ w'.ownsRow w.heap.size 38 4 v' l.length (l.flatMap Trn.cells) ∧ Below w.heap.size w w'
theorem flat_oneT (l : List Trn) : ∀ u ∈ l.flatMap Trn.cells, u.oneCell' = true := fun u hu => by
  obtain ⟨x, _, hx⟩ := List.mem_flatMap.1 hu
  exact trn_one x u hx
theorem clone_T (v : Value) (l : List Trn) (w : World) (hl : l.length ≤ 1000000) (hR : Rd Trn.cells 4 w v l) (hn : NoSpot v) : Calls Tryz.prog 14 #[v] w (CloneEnd l w) := by
  obtain ⟨i0, hi0, hz0, hz1, hz2⟩ := info_parts infoT
  have main : ∀ b off c, v = .slice (some ⟨b, off, none⟩) l.length c → (∀ j u, (l.flatMap Trn.cells)[j]? = some u → w.cell? ⟨b, off + j, none⟩ = some u) → Calls Tryz.prog 14 #[v] w (CloneEnd l w) := fun b off c hv hc => by
    subst hv
    exact (Tryz.slices_Clone_f14 i0 _ 4 40 hi0 hz0 hz1 hz2 rfl (by decide) szT4 b off l.length c (l.flatMap Trn.cells) w (flat_len trn_len l) (by unfold maxLen; omega) (by omega) hc (flat_oneT l)).mono fun e w' ⟨v', h1, h2, _, h4⟩ => ⟨v', h1, h2, h4⟩
  rcases hR with ⟨rfl, A, c, rfl⟩ | ⟨b, off, c, rfl, _, hc⟩
  · rcases hn with hn | ⟨b, off, n, c2, hn⟩
    · rw [hn]
      exact (Tryz.slices_Clone_nil_f14 0 0 w).mono fun e w' ⟨h1, h2⟩ => ⟨_, h1, ⟨by simp, .inl ⟨rfl, rfl⟩⟩, by rw [h2]; exact Below.refl _ _⟩
    · injection hn with h1 h2 h3
      subst h1 h2 h3
      exact main b off c rfl (fun j u hu => by simp at hu)
  · exact main b off c rfl (rd_flat hc)
set_option maxRecDepth 100000 in
set_option maxHeartbeats 20000000 in
theorem law_ZoneParts (z : Zn) (vT vR : Value) (a b c : Int) (w : World) (hfs : z.form.size < 4294967281) (hT : Rd Trn.cells 4 w vT z.table) (hR : Rd Rule.cells 11 w vR z.tail) (hm : HasMax w) :
    Calls Tryz.prog 3 #[z.v vT vR, .int .i64 a, .int .i64 b, .int .i64 c] w fun e w' => e = .returned (.bool true) ∧ Below w.heap.size w w' := by
  have HA := Lib.hid (fun W (hb : Below w.heap.size w W) => awake22_any W (hm.on hb))
  have HG := Lib.hid (fun W (hb : Below w.heap.size w W) => great_any z vT vR W (hT.on hb) (hR.on hb))
  have HBT := Lib.hid (fun hll x y W (hb : Below w.heap.size w W) => Between_any z vT vR x y W (hm.on hb) (hT.on hb) (hR.on hb) hfs hll)
  have HNX := Lib.hid (fun hll t W (hb : Below w.heap.size w W) => Next_any z vT vR t W (hm.on hb) (hT.on hb) (hR.on hb) hfs hll)
  obtain ⟨AT, cT, rfl⟩ := rd_vf hT
  obtain ⟨AR, cR, rfl⟩ := rd_vf hR
  have HZC := Lib.hid (alloc_cells w [.string z.nm, .int .i64 z.first.off, .int .i64 z.first.sv, .string z.first.nm, .slice AT z.table.length cT, .slice AR z.tail.length cR, .int .i64 z.off, .string z.form, .int .i64 z.year] 27)
  have HBZ := Lib.hid (show Below w.heap.size w (w.alloc (.cells #[.string z.nm, .int .i64 z.first.off, .int .i64 z.first.sv, .string z.first.nm, .slice AT z.table.length cT, .slice AR z.tail.length cR, .int .i64 z.off, .string z.form, .int .i64 z.year] 27)) from (Below.refl _ _).alloc (Nat.le_refl _) _)
  have hsz : w.heap.size < (w.alloc (.cells #[.string z.nm, .int .i64 z.first.off, .int .i64 z.first.sv, .string z.first.nm, .slice AT z.table.length cT, .slice AR z.tail.length cR, .int .i64 z.off, .string z.form, .int .i64 z.year] 27)).heap.size := by simp
  clear hT hR hm
  unfold Zn.v at HG HBT HNX ⊢
  go_enter Tryz.func3, Tryz.ntmps3
  go_wp2_with fail
  generalize (w.alloc (.cells #[.string z.nm, .int .i64 z.first.off, .int .i64 z.first.sv, .string z.first.nm, .slice AT z.table.length cT, .slice AR z.tail.length cR, .int .i64 z.off, .string z.form, .int .i64 z.year] 27)) = W at *
  refine (HA.out _ HBZ.out).mono ?_
  rintro e w1 ⟨rfl, hb1⟩
  have HB1 := Lib.hid (HBZ.out.trans (hb1.mono HBZ.out.size))
  have Z1 := Lib.hid (fun i u h => (hb1.cell (p := ⟨w.heap.size, i, none⟩) hsz).trans (HZC.out i u h))
  have hsz1 : w.heap.size < w1.heap.size := Nat.lt_of_lt_of_le hsz hb1.size
  clear hb1 HA HBZ HZC hsz
  have z0 := Z1.out 0 _ rfl
  have z1 := Z1.out 1 _ rfl
  have z2 := Z1.out 2 _ rfl
  have z3 := Z1.out 3 _ rfl
  have z4 := Z1.out 4 _ rfl
  have z5 := Z1.out 5 _ rfl
  have z6 := Z1.out 6 _ rfl
  have z7 := Z1.out 7 _ rfl
  have z8 := Z1.out 8 _ rfl
  go_wp2_with fail
  refine (HG.out _ HB1.out).mono ?_
  rintro e w2 ⟨rfl, hb2⟩
  have HB2 := Lib.hid (HB1.out.trans (hb2.mono HB1.out.size))
  have Z2 := Lib.hid (fun i u h => (hb2.cell (p := ⟨w.heap.size, i, none⟩) hsz1).trans (Z1.out i u h))
  have hsz2 : w.heap.size < w2.heap.size := Nat.lt_of_lt_of_le hsz1 hb2.size
  clear hb2 HG HB1 Z1 hsz1 z0 z1 z2 z3 z4 z5 z6 z7 z8
  have z0 := Z2.out 0 _ rfl
  have z1 := Z2.out 1 _ rfl
  have z2 := Z2.out 2 _ rfl
  have z3 := Z2.out 3 _ rfl
  have z4 := Z2.out 4 _ rfl
  have z5 := Z2.out 5 _ rfl
  have z6 := Z2.out 6 _ rfl
  have z7 := Z2.out 7 _ rfl
  have z8 := Z2.out 8 _ rfl
  cases hg : greatB z.table.length z.tail.length with
  | true =>
    clear hg
    go_wp2
    go_ret
    exact ⟨rfl, HB2.out⟩
  | false =>
    have hll := great_parts hg
    clear hg
    by_cases hab : b ≤ a
    · have dab : decide (b ≤ a) = true := decide_eq_true hab
      go_wp2
      go_ret
      exact ⟨rfl, HB2.out⟩
    have dab : decide (b ≤ a) = false := decide_eq_false hab
    by_cases hbc : c ≤ b
    · have dbc : decide (c ≤ b) = true := decide_eq_true hbc
      go_wp2
      go_ret
      exact ⟨rfl, HB2.out⟩
    have dbc : decide (c ≤ b) = false := decide_eq_false hbc
    obtain ⟨LW, eW, hW⟩ : ∃ L e, z.betV a c = (L, e) := ⟨_, _, rfl⟩
    obtain ⟨LL, eL, hL⟩ : ∃ L e, z.betV a b = (L, e) := ⟨_, _, rfl⟩
    obtain ⟨LH, eH, hH⟩ : ∃ L e, z.betV b c = (L, e) := ⟨_, _, rfl⟩
    have HW := Lib.hid hW
    have HL := Lib.hid hL
    have HH := Lib.hid hH
    have lW := betV_len hW
    have lL := betV_len hL
    have lH := betV_len hH
    clear hW hL hH
    go_wp2_with fail
    have HC3 := Lib.hid (HBT.out hll a c w2 HB2.out)
    unfold BetEnd at HC3
    rw [HW.out] at HC3
    refine HC3.out.mono ?_
    rintro e w3 ⟨v3, rfl, hr3, hb3, hn3⟩
    obtain ⟨A3, c3, rfl⟩ := rd_vf hr3
    have NS3 := Lib.hid hn3
    clear hn3
    have HB3 := Lib.hid (HB2.out.trans (hb3.mono HB2.out.size))
    have Z3 := Lib.hid (fun i u h => (hb3.cell (p := ⟨w.heap.size, i, none⟩) hsz2).trans (Z2.out i u h))
    have hsz3 : w.heap.size < w3.heap.size := Nat.lt_of_lt_of_le hsz2 hb3.size
    have R3 := Lib.hid hr3
    clear hb3 hr3 HC3 HB2 Z2 hsz2 z0 z1 z2 z3 z4 z5 z6 z7 z8
    have z0 := Z3.out 0 _ rfl
    have z1 := Z3.out 1 _ rfl
    have z2 := Z3.out 2 _ rfl
    have z3 := Z3.out 3 _ rfl
    have z4 := Z3.out 4 _ rfl
    have z5 := Z3.out 5 _ rfl
    have z6 := Z3.out 6 _ rfl
    have z7 := Z3.out 7 _ rfl
    have z8 := Z3.out 8 _ rfl
    go_wp2_with fail
    have HC4 := Lib.hid (HBT.out hll a b w3 HB3.out)
    unfold BetEnd at HC4
    rw [HL.out] at HC4
    refine HC4.out.mono ?_
    rintro e w4 ⟨v4, rfl, hr4, hb4, hn4⟩
    obtain ⟨A4, c4, rfl⟩ := rd_vf hr4
    have NS4 := Lib.hid hn4
    clear hn4
    have HB4 := Lib.hid (HB3.out.trans (hb4.mono HB3.out.size))
    have Z4 := Lib.hid (fun i u h => (hb4.cell (p := ⟨w.heap.size, i, none⟩) hsz3).trans (Z3.out i u h))
    have hsz4 : w.heap.size < w4.heap.size := Nat.lt_of_lt_of_le hsz3 hb4.size
    have R34 := Lib.hid (R3.out.on hb4)
    have R4 := Lib.hid hr4
    clear hb4 hr4 HC4 HB3 Z3 hsz3 R3 z0 z1 z2 z3 z4 z5 z6 z7 z8
    have z0 := Z4.out 0 _ rfl
    have z1 := Z4.out 1 _ rfl
    have z2 := Z4.out 2 _ rfl
    have z3 := Z4.out 3 _ rfl
    have z4 := Z4.out 4 _ rfl
    have z5 := Z4.out 5 _ rfl
    have z6 := Z4.out 6 _ rfl
    have z7 := Z4.out 7 _ rfl
    have z8 := Z4.out 8 _ rfl
    go_wp2_with fail
    have HC5 := Lib.hid (HBT.out hll b c w4 HB4.out)
    unfold BetEnd at HC5
    rw [HH.out] at HC5
    refine HC5.out.mono ?_
    rintro e w5 ⟨v5, rfl, hr5, hb5, hn5⟩
    obtain ⟨A5, c5, rfl⟩ := rd_vf hr5
    have NS5 := Lib.hid hn5
    clear hn5
    have HB5 := Lib.hid (HB4.out.trans (hb5.mono HB4.out.size))
    have Z5 := Lib.hid (fun i u h => (hb5.cell (p := ⟨w.heap.size, i, none⟩) hsz4).trans (Z4.out i u h))
    have hsz5 : w.heap.size < w5.heap.size := Nat.lt_of_lt_of_le hsz4 hb5.size
    have RW := Lib.hid (R34.out.on hb5)
    have RL := Lib.hid (R4.out.on hb5)
    have RH := Lib.hid hr5
    clear hb5 hr5 HC5 HB4 Z4 hsz4 R34 R4 z0 z1 z2 z3 z4 z5 z6 z7 z8
    have goodN : ∀ n : Nat, ((n : Int) == 0) = true ∨ ((n : Int) == 0) = false := fun n => by cases (n : Int) == 0 <;> simp
    by_cases e1 : eW = 0
    · subst e1
      by_cases e2 : eL = 0
      · subst e2
        by_cases e3 : eH = 0
        · subst e3
          clear goodN
          go_wp2_with fail
          refine (clone_T _ LL w5 (by omega) RL.out NS4.out).mono ?_
          rintro e w6 ⟨v6, rfl, hown6, hb6⟩
          have HOWN6 := Lib.hid hown6
          have HB56 := Lib.hid hb6
          have RH6 := Lib.hid (RH.out.on hb6)
          have hbase : w5.heap.size ≤ w6.heap.size := hb6.size
          have hw5 : w.heap.size ≤ w5.heap.size := HB5.out.size
          obtain ⟨i0, hi0, hz0, hz1, hz2⟩ := info_parts infoT
          have HEQ := Lib.hid (parts_eq HW.out HL.out HH.out)
          clear hown6 hb6 RL RH
          rcases NS5.out with h5 | ⟨b5, off5, n5, c5', h5⟩
          · injection h5 with h1 h2 h3
            obtain rfl : LH = [] := List.eq_nil_of_length_eq_zero h2
            subst h1 h3
            clear h2
            rw [List.length_nil]
            go_wp2_with (at_builtin; go_loud (refine wpList_append_own_none rfl (.tmp 76) (.tmp 77) _ rfl w5.heap.size 38 i0 4 Tryz.underlying24 hi0 _ _ _ rfl HOWN6.out rfl ?_))
            have RV := Lib.hid (rd_of_own trn_len (es := LL) HOWN6.out rfl)
            have RW7 := Lib.hid (RW.out.on HB56.out)
            have HB7 := Lib.hid (HB5.out.trans (HB56.out.mono hw5))
            have Z7 := Lib.hid (fun i u h => (HB56.out.cell (p := ⟨w.heap.size, i, none⟩) hsz5).trans (Z5.out i u h))
            have hsz7 : w.heap.size < w6.heap.size := Nat.lt_of_lt_of_le hsz5 hbase
            have HD := Lib.hid (show decide (LL = LW) = true from decide_eq_true (by have := HEQ.out; rwa [List.append_nil] at this))
            have HSM := Lib.hid (same_any v6 _ LL LW w6 (by omega) (by omega) RV.out RW7.out)
            rw [HD.out] at HSM
            refine HSM.out.mono ?_
            rintro e w8 ⟨rfl, hb8⟩
            clear HSM HD RV HOWN6 RW RH6 Z5 HB5 HB56
            have RW8 := Lib.hid (RW7.out.on hb8)
            have HB8 := Lib.hid (HB7.out.trans (hb8.mono HB7.out.size))
            have Z8 := Lib.hid (fun i u h => (hb8.cell (p := ⟨w.heap.size, i, none⟩) hsz7).trans (Z7.out i u h))
            have hsz8 : w.heap.size < w8.heap.size := Nat.lt_of_lt_of_le hsz7 hb8.size
            obtain ⟨hsp, hv, hLW, _⟩ := betV_ok HW.out
            have hspi := span_in hsp
            have sp1 := hspi.1
            have sp3 := hspi.2.2
            have HNK := Lib.hid (parts_next hv hLW)
            have HMEM := Lib.hid (parts_mem hLW)
            have HV := Lib.hid hv
            clear hb8 hsp hspi hv hLW HB7 RW7 Z7 hsz7 HBT HEQ
            go_wp2
            go_loopw [15, 86] (fun v15 i wr => ∃ (k : Nat) (t : Int), k ≤ LW.length ∧ i = .int .i64 k ∧ v15 = .int .i64 t ∧ Hid (t = ahK LW a k) ∧ -62135596801 ≤ t ∧ t < 253402300800 ∧ Below w8.heap.size w8 wr) (fun _ i _ => LW.length - (intOf i).toNat)
            case atStart => exact ⟨0, a - 1, Nat.zero_le _, rfl, rfl, Lib.hid rfl, by omega, by omega, Below.refl _ _⟩
            case round =>
              obtain ⟨k, t, hk, rfl, rfl, HTK, ht1, ht2, hbr⟩ := hrel
              have hbr0 : Below w.heap.size w wr := HB8.out.trans (hbr.mono (by omega))
              by_cases hlt : k < LW.length
              · obtain ⟨gT, oT, hA3, hgT, hcT⟩ : ∃ gT oT, A3 = some ⟨gT, oT, none⟩ ∧ gT < wr.heap.size ∧ ∀ i u, (Trn.cells LW[k]!)[i]? = some u → wr.cell? ⟨gT, oT + k * 4 + i, none⟩ = some u := by
                  rcases RW8.out.on hbr with ⟨e, _⟩ | ⟨gT, oT, c', hv, hgT, hcT⟩
                  · rw [e] at hlt; simp at hlt
                  · injection hv with e1 _ _
                    exact ⟨gT, oT, e1, hgT, fun i u hu => hcT k hlt i u hu⟩
                subst hA3
                have e0 := hcT 0 _ rfl
                have e1 := hcT 1 _ rfl
                have e2 := hcT 2 _ rfl
                have e3 := hcT 3 _ rfl
                rw [Nat.add_zero] at e0
                have hm1 := (HMEM.out k hlt).1
                have hm2 := (HMEM.out k hlt).2
                have HNF := Lib.hid (HNK.out k hlt)
                rw [← HTK.out] at HNF
                have HTS := Lib.hid (show (LW[k]!).at_ = ahK LW a (k + 1) by unfold ahK; rw [if_neg (by omega), Nat.add_sub_cancel])
                have Zr := Lib.hid (fun i u h => (hbr.cell (p := ⟨w.heap.size, i, none⟩) hsz8).trans (Z8.out i u h))
                have hszr : w.heap.size < wr.heap.size := Nat.lt_of_lt_of_le hsz8 hbr.size
                generalize LW[k]! = x at *
                obtain ⟨xa, xt⟩ := x
                dsimp only at *
                have dm1 : decide (xa < a) = false := decide_eq_false (by omega)
                have dm2 : decide (c ≤ xa) = false := decide_eq_false (by omega)
                have hB8 : Below w8.heap.size w8 (wr.alloc (.cells #[.int .i64 xa, .int .i64 xt.off, .int .i64 xt.sv, .string xt.nm] 38)) := hbr.alloc hbr.size _
                clear hcT
                by_cases h20 : (20 : Int) < (k : Int)
                · have d20 : decide ((20 : Int) < (k : Int)) = true := decide_eq_true h20
                  go_wp2
                  go_roundw
                  case rel => exact ⟨k + 1, xa, by omega, by go_num, rfl, HTS, by omega, by omega, hB8⟩
                  case measure => simp [intOf]; omega
                · have d20 : decide ((20 : Int) < (k : Int)) = false := decide_eq_false h20
                  by_cases hmin : t < -62135596800
                  · have dmin : decide (t < -62135596800) = true := decide_eq_true hmin
                    go_wp2
                    go_roundw
                    case rel => exact ⟨k + 1, xa, by omega, by go_num, rfl, HTS, by omega, by omega, hB8⟩
                    case measure => simp [intOf]; omega
                  · have dmin : decide (t < -62135596800) = false := decide_eq_false hmin
                    have HNV := Lib.hid (show z.nextV t = some ⟨xa, xt⟩ by unfold Zn.nextV; rw [if_pos ⟨by unfold inT; simp; omega, HV.out⟩]; exact HNF.out)
                    have HNXk := Lib.hid (HNX.out hll t _ (hbr0.alloc hbr0.size (.cells #[.int .i64 xa, .int .i64 xt.off, .int .i64 xt.sv, .string xt.nm] 38)))
                    rw [HNV.out] at HNXk
                    unfold optV at HNXk
                    dsimp only at HNXk
                    have NEx : ∀ w, (binOp .neq 38 (.agg #[.int .i64 xa, .int .i64 xt.off, .int .i64 xt.sv, .string xt.nm]) (.agg #[.int .i64 xa, .int .i64 xt.off, .int .i64 xt.sv, .string xt.nm])).run Tryz.prog w = .ok (.bool false) w := fun w => by
                      have := neTr ⟨xa, xt⟩ ⟨xa, xt⟩ w
                      rw [decide_eq_true rfl] at this
                      exact this
                    have GDx := fun op x y xs ys w => gdTr op x y xs ys w
                    have z0 := Zr.out 0 _ rfl
                    have z1 := Zr.out 1 _ rfl
                    have z2 := Zr.out 2 _ rfl
                    have z3 := Zr.out 3 _ rfl
                    have z4 := Zr.out 4 _ rfl
                    have z5 := Zr.out 5 _ rfl
                    have z6 := Zr.out 6 _ rfl
                    have z7 := Zr.out 7 _ rfl
                    have z8 := Zr.out 8 _ rfl
                    have xb := alloc_cells wr [.int .i64 xa, .int .i64 xt.off, .int .i64 xt.sv, .string xt.nm] 38
                    have hszx : wr.heap.size < (wr.alloc (.cells #[.int .i64 xa, .int .i64 xt.off, .int .i64 xt.sv, .string xt.nm] 38)).heap.size := by simp
                    have XB := Lib.hid xb
                    have HSX := Lib.hid hszx
                    clear xb hszx
                    go_wp2_with (go_at_call 15; refine HNXk.out.mono ?_; rintro e w9 ⟨rfl, hb9⟩; have x0 := (hb9.cell (p := ⟨wr.heap.size, 0, none⟩) HSX.out).trans (XB.out 0 _ rfl); have x1 := (hb9.cell (p := ⟨wr.heap.size, 1, none⟩) HSX.out).trans (XB.out 1 _ rfl); have x2 := (hb9.cell (p := ⟨wr.heap.size, 2, none⟩) HSX.out).trans (XB.out 2 _ rfl); have x3 := (hb9.cell (p := ⟨wr.heap.size, 3, none⟩) HSX.out).trans (XB.out 3 _ rfl); have hsz9 : wr.heap.size < w9.heap.size := Nat.lt_of_lt_of_le HSX.out hb9.size)
                    go_roundw
                    case rel => exact ⟨k + 1, xa, by omega, by go_num, rfl, HTS, by omega, by omega, (hB8.trans (hb9.mono hB8.size)).alloc (Nat.le_trans hB8.size hb9.size) _⟩
                    case measure => simp [intOf]; omega
              · have hke : k = LW.length := by omega
                subst hke
                go_wp2
                go_ret
                exact ⟨rfl, hbr0⟩
          · injection h5 with h1 h2 h3
            subst h1
            have hnews : ∀ j u, (LH.flatMap Trn.cells)[j]? = some u → w6.cell? ⟨b5, off5 + j, none⟩ = some u := rd_cells RH6.out
            have HNEWS := Lib.hid hnews
            clear hnews h2 h3
            go_wp2_with (at_builtin; go_loud (refine wpList_append_own _ rfl (.tmp 76) (.tmp 77) _ rfl w5.heap.size 38 i0 _ 4 40 Tryz.underlying24 hi0 hz0 hz1 hz2 rfl (by decide) _ _ _ rfl HOWN6.out ⟨b5, off5, none⟩ LH.length c5 (LH.flatMap Trn.cells) rfl (flat_len trn_len LH) (fun j u hu => (by rw [add_plain]; exact HNEWS.out j u hu)) (flat_oneT LH) (by simp only [maxLen]; omega) (by omega) hbase ?_); intro v7 w7 hown7 hg7 _)
            have HB57 := Lib.hid (below_app HOWN6.out (Nat.le_refl _) HB56.out hg7)
            have RV := Lib.hid (rd_of_own trn_len (es := LL ++ LH) (n := LL.length + LH.length) (by rw [List.flatMap_append]; exact hown7) (List.length_append))
            have RW7 := Lib.hid (RW.out.on HB57.out)
            have HB7 := Lib.hid (HB5.out.trans (HB57.out.mono hw5))
            have Z7 := Lib.hid (fun i u h => (HB57.out.cell (p := ⟨w.heap.size, i, none⟩) hsz5).trans (Z5.out i u h))
            have hsz7 : w.heap.size < w7.heap.size := Nat.lt_of_lt_of_le hsz5 HB57.out.size
            have HD := Lib.hid (show decide (LL ++ LH = LW) = true from decide_eq_true HEQ.out)
            have HSM := Lib.hid (same_any v7 _ (LL ++ LH) LW w7 (by rw [List.length_append]; omega) (by omega) RV.out RW7.out)
            rw [HD.out] at HSM
            refine HSM.out.mono ?_
            rintro e w8 ⟨rfl, hb8⟩
            clear HSM HD RV HOWN6 RW RH6 Z5 HB5 HB56 hown7 hg7 HB57 HNEWS
            have RW8 := Lib.hid (RW7.out.on hb8)
            have HB8 := Lib.hid (HB7.out.trans (hb8.mono HB7.out.size))
            have Z8 := Lib.hid (fun i u h => (hb8.cell (p := ⟨w.heap.size, i, none⟩) hsz7).trans (Z7.out i u h))
            have hsz8 : w.heap.size < w8.heap.size := Nat.lt_of_lt_of_le hsz7 hb8.size
            obtain ⟨hsp, hv, hLW, _⟩ := betV_ok HW.out
            have hspi := span_in hsp
            have sp1 := hspi.1
            have sp3 := hspi.2.2
            have HNK := Lib.hid (parts_next hv hLW)
            have HMEM := Lib.hid (parts_mem hLW)
            have HV := Lib.hid hv
            clear hb8 hsp hspi hv hLW HB7 RW7 Z7 hsz7 HBT HEQ
            go_wp2
            go_loopw [15, 86] (fun v15 i wr => ∃ (k : Nat) (t : Int), k ≤ LW.length ∧ i = .int .i64 k ∧ v15 = .int .i64 t ∧ Hid (t = ahK LW a k) ∧ -62135596801 ≤ t ∧ t < 253402300800 ∧ Below w8.heap.size w8 wr) (fun _ i _ => LW.length - (intOf i).toNat)
            case atStart => exact ⟨0, a - 1, Nat.zero_le _, rfl, rfl, Lib.hid rfl, by omega, by omega, Below.refl _ _⟩
            case round =>
              obtain ⟨k, t, hk, rfl, rfl, HTK, ht1, ht2, hbr⟩ := hrel
              have hbr0 : Below w.heap.size w wr := HB8.out.trans (hbr.mono (by omega))
              by_cases hlt : k < LW.length
              · obtain ⟨gT, oT, hA3, hgT, hcT⟩ : ∃ gT oT, A3 = some ⟨gT, oT, none⟩ ∧ gT < wr.heap.size ∧ ∀ i u, (Trn.cells LW[k]!)[i]? = some u → wr.cell? ⟨gT, oT + k * 4 + i, none⟩ = some u := by
                  rcases RW8.out.on hbr with ⟨e, _⟩ | ⟨gT, oT, c', hv, hgT, hcT⟩
                  · rw [e] at hlt; simp at hlt
                  · injection hv with e1 _ _
                    exact ⟨gT, oT, e1, hgT, fun i u hu => hcT k hlt i u hu⟩
                subst hA3
                have e0 := hcT 0 _ rfl
                have e1 := hcT 1 _ rfl
                have e2 := hcT 2 _ rfl
                have e3 := hcT 3 _ rfl
                rw [Nat.add_zero] at e0
                have hm1 := (HMEM.out k hlt).1
                have hm2 := (HMEM.out k hlt).2
                have HNF := Lib.hid (HNK.out k hlt)
                rw [← HTK.out] at HNF
                have HTS := Lib.hid (show (LW[k]!).at_ = ahK LW a (k + 1) by unfold ahK; rw [if_neg (by omega), Nat.add_sub_cancel])
                have Zr := Lib.hid (fun i u h => (hbr.cell (p := ⟨w.heap.size, i, none⟩) hsz8).trans (Z8.out i u h))
                have hszr : w.heap.size < wr.heap.size := Nat.lt_of_lt_of_le hsz8 hbr.size
                generalize LW[k]! = x at *
                obtain ⟨xa, xt⟩ := x
                dsimp only at *
                have dm1 : decide (xa < a) = false := decide_eq_false (by omega)
                have dm2 : decide (c ≤ xa) = false := decide_eq_false (by omega)
                have hB8 : Below w8.heap.size w8 (wr.alloc (.cells #[.int .i64 xa, .int .i64 xt.off, .int .i64 xt.sv, .string xt.nm] 38)) := hbr.alloc hbr.size _
                clear hcT
                by_cases h20 : (20 : Int) < (k : Int)
                · have d20 : decide ((20 : Int) < (k : Int)) = true := decide_eq_true h20
                  go_wp2
                  go_roundw
                  case rel => exact ⟨k + 1, xa, by omega, by go_num, rfl, HTS, by omega, by omega, hB8⟩
                  case measure => simp [intOf]; omega
                · have d20 : decide ((20 : Int) < (k : Int)) = false := decide_eq_false h20
                  by_cases hmin : t < -62135596800
                  · have dmin : decide (t < -62135596800) = true := decide_eq_true hmin
                    go_wp2
                    go_roundw
                    case rel => exact ⟨k + 1, xa, by omega, by go_num, rfl, HTS, by omega, by omega, hB8⟩
                    case measure => simp [intOf]; omega
                  · have dmin : decide (t < -62135596800) = false := decide_eq_false hmin
                    have HNV := Lib.hid (show z.nextV t = some ⟨xa, xt⟩ by unfold Zn.nextV; rw [if_pos ⟨by unfold inT; simp; omega, HV.out⟩]; exact HNF.out)
                    have HNXk := Lib.hid (HNX.out hll t _ (hbr0.alloc hbr0.size (.cells #[.int .i64 xa, .int .i64 xt.off, .int .i64 xt.sv, .string xt.nm] 38)))
                    rw [HNV.out] at HNXk
                    unfold optV at HNXk
                    dsimp only at HNXk
                    have NEx : ∀ w, (binOp .neq 38 (.agg #[.int .i64 xa, .int .i64 xt.off, .int .i64 xt.sv, .string xt.nm]) (.agg #[.int .i64 xa, .int .i64 xt.off, .int .i64 xt.sv, .string xt.nm])).run Tryz.prog w = .ok (.bool false) w := fun w => by
                      have := neTr ⟨xa, xt⟩ ⟨xa, xt⟩ w
                      rw [decide_eq_true rfl] at this
                      exact this
                    have GDx := fun op x y xs ys w => gdTr op x y xs ys w
                    have z0 := Zr.out 0 _ rfl
                    have z1 := Zr.out 1 _ rfl
                    have z2 := Zr.out 2 _ rfl
                    have z3 := Zr.out 3 _ rfl
                    have z4 := Zr.out 4 _ rfl
                    have z5 := Zr.out 5 _ rfl
                    have z6 := Zr.out 6 _ rfl
                    have z7 := Zr.out 7 _ rfl
                    have z8 := Zr.out 8 _ rfl
                    have xb := alloc_cells wr [.int .i64 xa, .int .i64 xt.off, .int .i64 xt.sv, .string xt.nm] 38
                    have hszx : wr.heap.size < (wr.alloc (.cells #[.int .i64 xa, .int .i64 xt.off, .int .i64 xt.sv, .string xt.nm] 38)).heap.size := by simp
                    have XB := Lib.hid xb
                    have HSX := Lib.hid hszx
                    clear xb hszx
                    go_wp2_with (go_at_call 15; refine HNXk.out.mono ?_; rintro e w9 ⟨rfl, hb9⟩; have x0 := (hb9.cell (p := ⟨wr.heap.size, 0, none⟩) HSX.out).trans (XB.out 0 _ rfl); have x1 := (hb9.cell (p := ⟨wr.heap.size, 1, none⟩) HSX.out).trans (XB.out 1 _ rfl); have x2 := (hb9.cell (p := ⟨wr.heap.size, 2, none⟩) HSX.out).trans (XB.out 2 _ rfl); have x3 := (hb9.cell (p := ⟨wr.heap.size, 3, none⟩) HSX.out).trans (XB.out 3 _ rfl); have hsz9 : wr.heap.size < w9.heap.size := Nat.lt_of_lt_of_le HSX.out hb9.size)
                    go_roundw
                    case rel => exact ⟨k + 1, xa, by omega, by go_num, rfl, HTS, by omega, by omega, (hB8.trans (hb9.mono hB8.size)).alloc (Nat.le_trans hB8.size hb9.size) _⟩
                    case measure => simp [intOf]; omega
              · have hke : k = LW.length := by omega
                subst hke
                go_wp2
                go_ret
                exact ⟨rfl, hbr0⟩
        · have d3 : (eH != 0) = true := bne_iff_ne.2 e3
          rcases goodN LW.length with h | h
          · clear goodN
            go_wp2
            go_ret
            exact ⟨rfl, HB5.out⟩
          · clear goodN
            go_wp2
            go_ret
            exact ⟨rfl, HB5.out⟩
      · have d2 : (eL != 0) = true := bne_iff_ne.2 e2
        rcases goodN LW.length with h | h
        · clear goodN
          go_wp2
          go_ret
          exact ⟨rfl, HB5.out⟩
        · clear goodN
          go_wp2
          go_ret
          exact ⟨rfl, HB5.out⟩
    · have d1 : (eW != 0) = true := bne_iff_ne.2 e1
      obtain rfl := betV_err HW.out e1
      clear goodN
      go_wp2
      go_ret
      exact ⟨rfl, HB5.out⟩

end Go.Proofs.YtdpkolnfbimheaaGreat

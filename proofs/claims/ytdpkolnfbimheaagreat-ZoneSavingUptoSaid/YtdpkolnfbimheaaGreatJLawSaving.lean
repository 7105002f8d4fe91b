/- The law ZoneSaving. Printed by gen_lawsaving.py. -/
import Derived.Test.YtdpkolnfbimheaaGreatJTypes
import Derived.Test.YtdpkolnfbimheaaGreatJR12
import Derived.Test.YtdpkolnfbimheaaGreatGAw
import Derived.BigQuiet
import Derived.IntWalk
namespace Go.Proofs.YtdpkolnfbimheaaGreat
set_option linter.unusedSimpArgs false
set_option linter.unusedVariables false
open Go.ChangeShapes Go.WideShapes Go.ChangeAt Go.RowKit

theorem rem_in {r n : Int} (h0 : 0 ≤ r) (h : 0 < n) : 0 ≤ r.tmod n ∧ r.tmod n < n := ⟨Int.tmod_nonneg _ h0, by rw [Int.tmod_eq_emod_of_nonneg h0]; exact Int.emod_lt_of_pos _ h⟩
theorem sav_len {z : Zn} {a b : Int} (h : (z.betF a b).length ≤ 1000) : (z.savF a b).length ≤ 1001 := by
  have h1 := touch_len a (z.typF a) (z.betF a b ++ [⟨b, default⟩]) ((z.betF a b).length + 1)
  rw [List.take_of_length_le (by simp)] at h1
  unfold Zn.savF
  omega
theorem tys_lenV {z : Zn} {a b : Int} (h : (z.betF a b).length ≤ 1000) : (z.tysV a b).length ≤ 1001 := by
  have := tysF_len (z.typF a) (z.betF a b)
  unfold Zn.tysV
  omega
theorem own_cap {w : World} {base : Nat} {e : TypeId} {size n c : Nat} {A : Option Addr} {xs : List Value} (h : w.ownsRow base e size (.slice A n c) n xs) : n ≤ c := by
  rcases h.2 with ⟨e0, _⟩ | ⟨g, cap, cur, e0, _, _, hc, _⟩
  · injection e0 with _ e1 _; omega
  · injection e0 with _ e1 e2; omega
theorem nodup_take {α : Type} [Inhabited α] {l : List α} (h : l.Nodup) {k : Nat} (hk : k < l.length) : l[k]! ∉ l.take k := fun hm => by
  obtain ⟨i, hi, e⟩ := List.mem_take_iff_getElem.1 hm
  rw [getElem!_pos l k hk] at e
  have := List.pairwise_iff_getElem.1 h i k (by omega) hk (by omega)
  exact this e
set_option maxRecDepth 100000 in
set_option maxHeartbeats 8000000 in
theorem law_ZoneSaving (z : Zn) (vT vR : Value) (a b n : Int) (w : World) (hnn : 0 ≤ n ∧ n < 4294967296) (hfs : z.form.size < 4294967281) (hT : Rd Trn.cells 4 w vT z.table) (hR : Rd Rule.cells 11 w vR z.tail) (hm : HasMax w) :
    Calls Tryz.prog 5 #[z.v vT vR, .agg #[.int .i64 a, .int .i64 b], .int .u32 n] w fun e w' => e = .returned (.bool true) ∧ Below w.heap.size w w' := by
  have HA := Lib.hid (fun W (hb : Below w.heap.size w W) => awake22_any W (hm.on hb))
  have HG := Lib.hid (fun W (hb : Below w.heap.size w W) => great_any z vT vR W (hT.on hb) (hR.on hb))
  have HS := Lib.hid (fun hll W (hb : Below w.heap.size w W) => Saving_any z vT vR a b W (hm.on hb) (hT.on hb) (hR.on hb) hfs hll)
  have HY := Lib.hid (fun hll W (hb : Below w.heap.size w W) => Types_any z vT vR a b W (hm.on hb) (hT.on hb) (hR.on hb) hfs hll)
  have HT := Lib.hid (fun hll t W (hb : Below w.heap.size w W) => zAt_any z vT vR t W (hm.on hb) (hT.on hb) (hR.on hb) hfs hll)
  obtain ⟨AT, cT, rfl⟩ := rd_vf hT
  obtain ⟨AR, cR, rfl⟩ := rd_vf hR
  clear hT hR hm
  have b0 := (Blk.new w #[.string z.nm, .int .i64 z.first.off, .int .i64 z.first.sv, .string z.first.nm, .slice AT z.table.length cT, .slice AR z.tail.length cR, .int .i64 z.off, .string z.form, .int .i64 z.year] 27).alloc (.cells #[.int .i64 a, .int .i64 b] 34)
  have b1 := Blk.new (w.alloc (.cells #[.string z.nm, .int .i64 z.first.off, .int .i64 z.first.sv, .string z.first.nm, .slice AT z.table.length cT, .slice AR z.tail.length cR, .int .i64 z.off, .string z.form, .int .i64 z.year] 27)) #[.int .i64 a, .int .i64 b] 34
  rw [World.size_alloc] at b1
  have hB1 : Below w.heap.size w ((w.alloc (.cells #[.string z.nm, .int .i64 z.first.off, .int .i64 z.first.sv, .string z.first.nm, .slice AT z.table.length cT, .slice AR z.tail.length cR, .int .i64 z.off, .string z.form, .int .i64 z.year] 27)).alloc (.cells #[.int .i64 a, .int .i64 b] 34)) := ((Below.refl _ _).alloc (Nat.le_refl _) _).alloc (by simp) _
  unfold SavEnd at HS
  unfold TypEnd at HY
  unfold Zn.v at HG HS HY HT ⊢
  go_enter Tryz.func5, Tryz.ntmps5
  go_wp2_with fail
  generalize ((w.alloc (.cells #[.string z.nm, .int .i64 z.first.off, .int .i64 z.first.sv, .string z.first.nm, .slice AT z.table.length cT, .slice AR z.tail.length cR, .int .i64 z.off, .string z.form, .int .i64 z.year] 27)).alloc (.cells #[.int .i64 a, .int .i64 b] 34)) = W at *
  have hw : w.heap.size ≤ W.heap.size := hB1.size
  refine (HA.out W hB1).mono ?_
  rintro e w1 ⟨rfl, hb1⟩
  clear HA
  have KZ := b0.below hb1 b0.lt
  have KI := b1.below hb1 b1.lt
  have KL := KZ.lt
  have KIL := KI.lt
  have z0 := KZ.cl 0 _ rfl
  have z1 := KZ.cl 1 _ rfl
  have z2 := KZ.cl 2 _ rfl
  have z3 := KZ.cl 3 _ rfl
  have z4 := KZ.cl 4 _ rfl
  have z5 := KZ.cl 5 _ rfl
  have z6 := KZ.cl 6 _ rfl
  have z7 := KZ.cl 7 _ rfl
  have z8 := KZ.cl 8 _ rfl
  have i0 := KI.cl 0 _ rfl
  have i1 := KI.cl 1 _ rfl
  go_wp2_with fail
  refine (HG.out w1 (hB1.trans (hb1.mono hw))).mono ?_
  rintro e w2 ⟨rfl, hb2⟩
  clear HG
  have hb2 := hb1.trans (hb2.mono hb1.size)
  cases hg : greatB z.table.length z.tail.length with
  | true =>
    clear hg
    go_wp2
    go_ret
    exact ⟨rfl, hB1.trans (hb2.mono hw)⟩
  | false =>
    have hll := great_parts hg
    clear hg
    clear KZ KI KL KIL z0 z1 z2 z3 z4 z5 z6 z7 z8 i0 i1
    have KZ := b0.below hb2 b0.lt
    have KI := b1.below hb2 b1.lt
    have KL := KZ.lt
    have KIL := KI.lt
    have z0 := KZ.cl 0 _ rfl
    have z1 := KZ.cl 1 _ rfl
    have z2 := KZ.cl 2 _ rfl
    have z3 := KZ.cl 3 _ rfl
    have z4 := KZ.cl 4 _ rfl
    have z5 := KZ.cl 5 _ rfl
    have z6 := KZ.cl 6 _ rfl
    have z7 := KZ.cl 7 _ rfl
    have z8 := KZ.cl 8 _ rfl
    have i0 := KI.cl 0 _ rfl
    have i1 := KI.cl 1 _ rfl
    have HS := Lib.hid (HS.out hll)
    have HY := Lib.hid (HY.out hll)
    have HT := Lib.hid (HT.out hll)
    clear hll
    go_wp2_with fail
    refine (HS.out w2 (hB1.trans (hb2.mono hw))).mono ?_
    rintro e w3 ⟨hb3, hs3⟩
    have hb3' := hb3
    have hb3 := hb2.trans (hb3.mono hb2.size)
    clear KZ KI KL KIL z0 z1 z2 z3 z4 z5 z6 z7 z8 i0 i1
    have KZ := b0.below hb3 b0.lt
    have KI := b1.below hb3 b1.lt
    have KL := KZ.lt
    have KIL := KI.lt
    have z0 := KZ.cl 0 _ rfl
    have z1 := KZ.cl 1 _ rfl
    have z2 := KZ.cl 2 _ rfl
    have z3 := KZ.cl 3 _ rfl
    have z4 := KZ.cl 4 _ rfl
    have z5 := KZ.cl 5 _ rfl
    have z6 := KZ.cl 6 _ rfl
    have z7 := KZ.cl 7 _ rfl
    have z8 := KZ.cl 8 _ rfl
    have i0 := KI.cl 0 _ rfl
    have i1 := KI.cl 1 _ rfl
    clear HS
    rcases bet_cases z a b with hbv | hbv | ⟨hsp, hv, hlen, hbv⟩
    · rw [hbv] at hs3 HY
      have hn : ¬ ((1 : Int) = 0) := by decide
      obtain rfl : e = .returned (.tuple #[.slice none 0 0, .int .i64 1]) := by
        rcases hs3 with ⟨_, h⟩ | ⟨h, _⟩
        · exact h
        · exact absurd h hn
      clear hs3 hbv HT
      go_wp2_with fail
      refine (HY.out w3 (hB1.trans (hb3.mono hw))).mono ?_
      rintro e w4 ⟨hb4, hs4⟩
      obtain rfl : e = .returned (.tuple #[.slice none 0 0, .int .i64 1]) := by
        rcases hs4 with ⟨_, h⟩ | ⟨h, _⟩
        · exact h
        · exact absurd h hn
      have hb4 := hb3.trans (hb4.mono hb3.size)
      clear hs4 HY
      go_wp2
      go_ret
      exact ⟨ret1 (vbool (by simp)), hB1.trans (hb4.mono hw)⟩
    · rw [hbv] at hs3 HY
      have hn : ¬ ((5 : Int) = 0) := by decide
      obtain rfl : e = .returned (.tuple #[.slice none 0 0, .int .i64 5]) := by
        rcases hs3 with ⟨_, h⟩ | ⟨h, _⟩
        · exact h
        · exact absurd h hn
      clear hs3 hbv HT
      go_wp2_with fail
      refine (HY.out w3 (hB1.trans (hb3.mono hw))).mono ?_
      rintro e w4 ⟨hb4, hs4⟩
      obtain rfl : e = .returned (.tuple #[.slice none 0 0, .int .i64 5]) := by
        rcases hs4 with ⟨_, h⟩ | ⟨h, _⟩
        · exact h
        · exact absurd h hn
      have hb4 := hb3.trans (hb4.mono hb3.size)
      clear hs4 HY
      go_wp2
      go_ret
      exact ⟨ret1 (vbool (by simp)), hB1.trans (hb4.mono hw)⟩
    · have hsa := span_in hsp
      have hsl := sav_len hlen
      have htl := tys_lenV hlen
      have HOK := Lib.hid (sav_ok hv (by omega) hsa.2.1 (by omega))
      have HTY := Lib.hid (fun t h1 h2 => tys_has (a := a) (b := b) (t := t) hv h1 h2)
      have HND := Lib.hid (tysF_ok (z.typF a) (z.betF a b)).1
      have HAT := Lib.hid (fun t (h1 : a ≤ t) (h2 : t < b) => show z.atV t = (z.typF t, 0) from by
        unfold Zn.atV inT
        rw [if_neg (by simp [hv]), if_neg (by simp; omega)])
      rw [hbv] at hs3 HY
      have HNDV := Lib.hid (show (z.tysV a b).Nodup from HND.out)
      clear HND
      generalize z.savF a b = S at *
      generalize z.tysV a b = Y at *
      obtain ⟨u3, rfl, hO3⟩ : ∃ u, e = .returned (.tuple #[u, .int .i64 0]) ∧ w3.ownsRow w2.heap.size 34 2 u S.length (S.flatMap encN) := by
        rcases hs3 with ⟨h, _⟩ | ⟨_, h⟩
        · exact absurd rfl h
        · exact h
      have HR3 := Lib.hid (rd_of_own encN_len hO3 rfl)
      obtain ⟨A3, c3, rfl⟩ := own_formN hO3
      clear hs3 hbv hO3 hsp hlen
      go_wp2_with fail
      refine (HY.out w3 (hB1.trans (hb3.mono hw))).mono ?_
      rintro e w4 ⟨hb4, hs4⟩
      obtain ⟨u4, rfl, hO4⟩ : ∃ u, e = .returned (.tuple #[u, .int .i64 0]) ∧ w4.ownsRow w3.heap.size 23 3 u Y.length (Y.flatMap Typ.cells) := by
        rcases hs4 with ⟨h, _⟩ | ⟨_, h⟩
        · exact absurd rfl h
        · exact h
      have HR3 := Lib.hid (HR3.out.on hb4)
      have HR4 := Lib.hid (rd_of_own typ_len hO4 rfl)
      obtain ⟨A4, c4, rfl⟩ := own_formN hO4
      have hb4 := hb3.trans (hb4.mono hb3.size)
      have hcap4 : Y.length ≤ c4 := own_cap hO4
      clear hs4 HY hO4
      clear KZ KI KL KIL z0 z1 z2 z3 z4 z5 z6 z7 z8 i0 i1
      have KZ := b0.below hb4 b0.lt
      have KI := b1.below hb4 b1.lt
      have KL := KZ.lt
      have KIL := KI.lt
      have z0 := KZ.cl 0 _ rfl
      have z1 := KZ.cl 1 _ rfl
      have z2 := KZ.cl 2 _ rfl
      have z3 := KZ.cl 3 _ rfl
      have z4 := KZ.cl 4 _ rfl
      have z5 := KZ.cl 5 _ rfl
      have z6 := KZ.cl 6 _ rfl
      have z7 := KZ.cl 7 _ rfl
      have z8 := KZ.cl 8 _ rfl
      have i0 := KI.cl 0 _ rfl
      have i1 := KI.cl 1 _ rfl
      have hwb : IntKind.i64.wrap (b - a) = b - a := IntWalk.i64_in _ (by omega)
      have hwn : IntKind.i64.wrap n = n := IntWalk.i64_in _ (by omega)
      have hwm : IntKind.i64.wrap (n * 1000003) = n * 1000003 := IntWalk.i64_in _ (by omega)
      obtain ⟨r, hr⟩ : ∃ r, (n * 1000003).tmod (b - a) = r := ⟨_, rfl⟩
      have hr2 := rem_in (r := n * 1000003) (n := b - a) (by omega) (by omega)
      rw [hr] at hr2
      have hwt : IntKind.i64.wrap (a + r) = a + r := IntWalk.i64_in _ (by omega)
      have hne : b - a ≠ 0 := by omega
      have hne2 : (b - a == 0) = false := beq_eq_false_iff_ne.2 hne
      go_wp2_with fail
      go_quiet (fail)
      have hb5 : Below W.heap.size W (w4.drewN nq) := below_drewN hb4 nq
      have HR3 := Lib.hid (HR3.out.on (below_drewN (Below.refl w4.heap.size w4) nq))
      have HR4 := Lib.hid (HR4.out.on (below_drewN (Below.refl w4.heap.size w4) nq))
      generalize w4.drewN nq = w5 at *
      have hta : a ≤ a + r := by omega
      have htb : a + r < b := by omega
      clear hwb hwn hwm hr hr2 hwt hne hne2
      generalize a + r = t at *
      clear KZ KI KL KIL z0 z1 z2 z3 z4 z5 z6 z7 z8 i0 i1
      have KZ := b0.below hb5 b0.lt
      have KI := b1.below hb5 b1.lt
      have KL := KZ.lt
      have KIL := KI.lt
      have z0 := KZ.cl 0 _ rfl
      have z1 := KZ.cl 1 _ rfl
      have z2 := KZ.cl 2 _ rfl
      have z3 := KZ.cl 3 _ rfl
      have z4 := KZ.cl 4 _ rfl
      have z5 := KZ.cl 5 _ rfl
      have z6 := KZ.cl 6 _ rfl
      have z7 := KZ.cl 7 _ rfl
      have z8 := KZ.cl 8 _ rfl
      have i0 := KI.cl 0 _ rfl
      have i1 := KI.cl 1 _ rfl
      have HTt := Lib.hid (HT.out t)
      rw [HAT.out t hta htb] at HTt
      unfold atR Typ.val at HTt
      have hty := HTY.out t hta htb
      have hsv := HOK.out.m t hta htb
      clear HAT HT HTY
      generalize z.typF t = x at *
      have HSV := Lib.hid hsv
      have HTYX := Lib.hid hty
      clear hsv hty
      go_wp2_with fail
      refine (HTt.out w5 (hB1.trans (hb5.mono hw))).mono ?_
      rintro e w6 ⟨rfl, hb6⟩
      have HR3 := Lib.hid (HR3.out.on (hb6.alloc hb6.size (.cells #[.int .i64 x.off, .int .i64 x.sv, .string x.nm] 23)))
      have HR4 := Lib.hid (HR4.out.on (hb6.alloc hb6.size (.cells #[.int .i64 x.off, .int .i64 x.sv, .string x.nm] 23)))
      have hb6 := hb5.trans (hb6.mono hb5.size)
      have b12 := Blk.new w6 #[.int .i64 x.off, .int .i64 x.sv, .string x.nm] 23
      have hb7 : Below W.heap.size W (w6.alloc (.cells #[.int .i64 x.off, .int .i64 x.sv, .string x.nm] 23)) := hb6.alloc hb6.size _
      clear HTt
      clear KZ KI KL KIL z0 z1 z2 z3 z4 z5 z6 z7 z8 i0 i1
      generalize hW7 : w6.alloc (.cells #[.int .i64 x.off, .int .i64 x.sv, .string x.nm] 23) = W7 at *
      have HVL := Lib.hid (fun W' (hb : Below W7.heap.size W7 W') => r12_Valid S _ W' (HR3.out.on hb) (by omega) HOK.out.ok HOK.out.c)
      have dsl : decide ((S.length : Int) ≤ 2000) = true := decide_eq_true (by omega)
      go_wp2_with fail
      refine (HVL.out W7 (Below.refl _ _)).mono ?_
      rintro e w8 ⟨rfl, hb8⟩
      clear HVL hW7
      go_wp2
      go_loopw [81] (fun v81 wr => ∃ k : Nat, k ≤ Y.length ∧ v81 = .int .i64 k ∧ Below W7.heap.size W7 wr) (fun v81 _ => Y.length - (intOf v81).toNat)
      case atStart => exact ⟨0, Nat.zero_le _, rfl, hb8⟩
      case round =>
        obtain ⟨k, hk, rfl, hbr⟩ := hrel
        by_cases hlt : k < Y.length
        · obtain ⟨g, o, rfl, hg, hcs⟩ : ∃ g o, A4 = some ⟨g, o, none⟩ ∧ g < wr.heap.size ∧ ∀ j, j < Y.length → ∀ i u, (Typ.cells Y[j]!)[i]? = some u → wr.cell? ⟨g, o + j * 3 + i, none⟩ = some u := by
            rcases HR4.out.on hbr with ⟨h0, _⟩ | ⟨g, o, c', hv', hg, hcs⟩
            · rw [h0] at hlt; exact absurd hlt (Nat.not_lt_zero _)
            · injection hv' with hv1 _ _
              exact ⟨g, o, hv1, hg, hcs⟩
          have e0 := hcs k hlt 0 _ rfl
          have e1 := hcs k hlt 1 _ rfl
          have e2 := hcs k hlt 2 _ rfl
          rw [Nat.add_zero] at e0
          have HNK := Lib.hid (nodup_take HNDV.out hlt)
          have HCS := Lib.hid hcs
          obtain ⟨y, hy⟩ : ∃ y, Y[k]! = y := ⟨_, rfl⟩
          rw [hy] at e0 e1 e2 HNK
          clear hcs hy
          have by_ := Blk.new wr #[.int .i64 y.off, .int .i64 y.sv, .string y.nm] 23
          have hBA : Below W7.heap.size W7 (wr.alloc (.cells #[.int .i64 y.off, .int .i64 y.sv, .string y.nm] 23)) := hbr.alloc hbr.size _
          have hbA1 : Below wr.heap.size wr (wr.alloc (.cells #[.int .i64 y.off, .int .i64 y.sv, .string y.nm] 23)) := alloc_below' _ _
          generalize hWA : wr.alloc (.cells #[.int .i64 y.off, .int .i64 y.sv, .string y.nm] 23) = WA at *
          have y0 := by_.cl 0 _ rfl
          have y1 := by_.cl 1 _ rfl
          have y2 := by_.cl 2 _ rfl
          have yl := by_.lt
          have py0 : ∀ q : Bel WA.heap.size WA, q.w1.cell? ⟨wr.heap.size, 0, none⟩ = some (.int .i64 y.off) := fun q => (bel_cell q _ _ yl).trans y0
          have py1 : ∀ q : Bel WA.heap.size WA, q.w1.cell? ⟨wr.heap.size, 1, none⟩ = some (.int .i64 y.sv) := fun q => (bel_cell q _ _ yl).trans y1
          have py2 : ∀ q : Bel WA.heap.size WA, q.w1.cell? ⟨wr.heap.size, 2, none⟩ = some (.string y.nm) := fun q => (bel_cell q _ _ yl).trans y2
          have HC := Lib.hid (fun q : Bel WA.heap.size WA => show Calls Tryz.prog 21 #[.slice (some ⟨g, o, none⟩) k c4, .agg #[.int .i64 y.off, .int .i64 y.sv, .string y.nm]] q.w1 fun e w' => e = .returned (.bool false) ∧ Below q.w1.heap.size q.w1 w' from by
            have h := has_ty (S := Y) (c := c4) (n := k) (g := g) (o := o) y q.w1 (by omega) (by omega) (fun j hj i u hu => ((bel_cell q _ _ (Nat.lt_of_lt_of_le hg hbA1.size)).trans (hbA1.cell (p := ⟨g, o + j * 3 + i, none⟩) hg)).trans (HCS.out j hj i u hu))
            rwa [decide_eq_false HNK.out] at h)
          have k0 : (0 : Int) ≤ (k : Int) := by omega
          have k1 : (k : Int) ≤ (Y.length : Int) := by omega
          have k2 : (k : Int) ≤ (c4 : Int) := by omega
          clear y0 y1 y2
          go_wp2_with fail
          refine wp_region_bel (by kernel_rfl) (by kernel_rfl) ?_
          repeat (go_big_quiet_step ((go_at_call 21; exact bel_of (Nat.le_refl _) (HC.out _))))
          refine wpQuiet_nil ?_
          intro w9 hw'
          obtain ⟨⟨w9', hb9⟩, hw2⟩ := hw'
          subst hw2
          have hb9 := hBA.trans (hb9.mono hBA.size)
          clear py0 py1 py2 HC e0 e1 e2
          go_wp2
          go_roundw
          case rel => exact ⟨k + 1, by omega, by go_num, hb9⟩
          case measure => simp [intOf]; omega
        · have b12r := b12.below hbr b12.lt
          have x0 := b12r.cl 0 _ rfl
          have x1 := b12r.cl 1 _ rfl
          have x2 := b12r.cl 2 _ rfl
          have xl := b12r.lt
          have px0 : ∀ q : Bel wr.heap.size wr, q.w1.cell? ⟨w6.heap.size, 0, none⟩ = some (.int .i64 x.off) := fun q => (bel_cell q _ _ xl).trans x0
          have px1 : ∀ q : Bel wr.heap.size wr, q.w1.cell? ⟨w6.heap.size, 1, none⟩ = some (.int .i64 x.sv) := fun q => (bel_cell q _ _ xl).trans x1
          have px2 : ∀ q : Bel wr.heap.size wr, q.w1.cell? ⟨w6.heap.size, 2, none⟩ = some (.string x.nm) := fun q => (bel_cell q _ _ xl).trans x2
          have HC := Lib.hid (fun q : Bel wr.heap.size wr => show Calls Tryz.prog 21 #[.slice A4 Y.length c4, .agg #[.int .i64 x.off, .int .i64 x.sv, .string x.nm]] q.w1 fun e w' => e = .returned (.bool true) ∧ Below q.w1.heap.size q.w1 w' from by
            have hb := hbr.trans (q.h.mono hbr.size)
            rcases HR4.out.on hb with ⟨h0, _⟩ | ⟨g, o, c', hv', hg, hcs⟩
            · rw [h0] at HTYX; exact absurd HTYX.out (by simp)
            · injection hv' with hv1 _ _
              subst hv1
              have h := has_ty (S := Y) (c := c4) (n := Y.length) x q.w1 (Nat.le_refl _) (by omega) hcs
              rwa [List.take_length, decide_eq_true HTYX.out] at h)
          have HI := Lib.hid (fun q : Bel wr.heap.size wr => r12_In S t _ q.w1 (HR3.out.on (hbr.trans (q.h.mono hbr.size))) (by omega))
          clear x0 x1 x2
          by_cases hx0 : x.sv = 0
          · have hno : (S.any fun s => decide (s.fr ≤ t) && decide (t < s.to)) = false := by
              cases h : S.any fun s => decide (s.fr ≤ t) && decide (t < s.to)
              · rfl
              · exact absurd hx0 (HSV.out.1 ((any_has S t).1 h))
            rw [hno] at HI
            have d1 : (x.sv != 0) = false := by simp [hx0]
            clear hno hx0
            go_wp2_with fail
            refine wp_region_bel (by kernel_rfl) (by kernel_rfl) ?_
            repeat (go_big_quiet_step ((first | (go_at_call 21; exact bel_of (Nat.le_refl _) (HC.out _)) | (go_at_call 22; exact bel_of (Nat.le_refl _) (HI.out _)))))
            refine wpQuiet_nil ?_
            intro w9 hw'
            obtain ⟨⟨w9', hb9⟩, hw2⟩ := hw'
            subst hw2
            have hb9 := hb7.trans ((hbr.trans (hb9.mono hbr.size)).mono hb7.size)
            clear px0 px1 px2 HC HI
            go_wp2
            go_ret
            exact ⟨ret1 (vbool (by simp)), hB1.trans (hb9.mono hw)⟩
          · have hyes : (S.any fun s => decide (s.fr ≤ t) && decide (t < s.to)) = true := (any_has S t).2 (HSV.out.2 hx0)
            rw [hyes] at HI
            have d1 : (x.sv != 0) = true := by simp [hx0]
            clear hyes hx0
            go_wp2_with fail
            refine wp_region_bel (by kernel_rfl) (by kernel_rfl) ?_
            repeat (go_big_quiet_step ((first | (go_at_call 21; exact bel_of (Nat.le_refl _) (HC.out _)) | (go_at_call 22; exact bel_of (Nat.le_refl _) (HI.out _)))))
            refine wpQuiet_nil ?_
            intro w9 hw'
            obtain ⟨⟨w9', hb9⟩, hw2⟩ := hw'
            subst hw2
            have hb9 := hb7.trans ((hbr.trans (hb9.mono hbr.size)).mono hb7.size)
            clear px0 px1 px2 HC HI
            go_wp2
            go_ret
            exact ⟨ret1 (vbool (by simp)), hB1.trans (hb9.mono hw)⟩

end Go.Proofs.YtdpkolnfbimheaaGreat

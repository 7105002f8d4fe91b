/- The law LocalShift. Printed by gen_lawshift.py. -/
import Derived.Test.YtdpkolnfbimheaaGreatGLc
import Derived.Test.YtdpkolnfbimheaaGreatJShiftP
namespace Go.Proofs.YtdpkolnfbimheaaGreat
set_option linter.unusedSimpArgs false
set_option linter.unusedVariables false
open Go.ChangeShapes Go.WideShapes Go.ChangeAt Go.RowKit

theorem nextV_some {z : Zn} {t : Int} {x : Trn} (h : z.nextV t = some x) : z.valid = true ∧ inT t = true ∧ z.nextF t = some x ∧ t < x.at_ := by
  unfold Zn.nextV at h
  split at h
  · rename_i hc
    refine ⟨hc.2, hc.1, h, ?_⟩
    unfold Zn.nextF at h
    have := List.find?_some h
    simpa using this
  · cases h
theorem atV_yes {z : Zn} {t : Int} (hv : z.valid = true) (ht : inT t = true) : z.atV t = (z.typF t, 0) := by
  unfold Zn.atV
  rw [hv, ht]; rfl
theorem next_ty {z : Zn} {t : Int} {x : Trn} (hv : z.valid = true) (h : z.nextF t = some x) : -93600 < x.ty.off ∧ x.ty.off < 93600 := T_ty hv x (List.mem_of_find?_eq_some h)
theorem betV_yes {z : Zn} {a b : Int} (hv : z.valid = true) (h1 : -62135596800 ≤ a) (h2 : a < b) (h3 : b ≤ 253402300800) : z.betV a b = if (z.betF a b).length ≤ 1000 then (z.betF a b, 0) else ([], 5) := by
  unfold Zn.betV
  rw [if_pos ⟨spanB_of h1 h2 h3, hv⟩]
theorem rem_bd {r n : Int} (h0 : 0 ≤ r) (h : 0 < n) : 0 ≤ r.tmod n ∧ r.tmod n < n := ⟨Int.tmod_nonneg _ h0, by rw [Int.tmod_eq_emod_of_nonneg h0]; exact Int.emod_lt_of_pos _ h⟩

set_option maxRecDepth 100000 in
set_option maxHeartbeats 8000000 in
theorem law_LocalShift (z : Zn) (vT vR : Value) (t r : Int) (w : World) (hr : 0 ≤ r ∧ r < 4294967296) (hT : Rd Trn.cells 4 w vT z.table) (hR : Rd Rule.cells 11 w vR z.tail) (hm : HasMax w) :
    Calls Tryz.prog 7 #[z.v vT vR, .int .i64 t, .int .u32 r] w fun e w' => e = .returned (.bool true) ∧ Below w.heap.size w w' := by
  have HA := Lib.hid (fun W (hb : Below w.heap.size w W) => awake23_any W (hm.on hb))
  have HF0 := Lib.hid (fun W (hb : Below w.heap.size w W) => few_any z vT vR W (hT.on hb) (hR.on hb))
  have HNX0 := Lib.hid (fun hfs hll W (hb : Below w.heap.size w W) => Next_any z vT vR t W (hm.on hb) (hT.on hb) (hR.on hb) hfs hll)
  have HAT0 := Lib.hid (fun hfs hll u W (hb : Below w.heap.size w W) => zAt_any z vT vR u W (hm.on hb) (hT.on hb) (hR.on hb) hfs hll)
  have HBT0 := Lib.hid (fun hfs hll a b W (hb : Below w.heap.size w W) => Between_any z vT vR a b W (hm.on hb) (hT.on hb) (hR.on hb) hfs hll)
  have HOF0 := Lib.hid (fun hfs hll t W (hb : Below w.heap.size w W) => Of_any z vT vR t W (hm.on hb) (hT.on hb) (hR.on hb) hfs hll)
  have HRS0 := Lib.hid (fun hfs hll htl l g f W (hb : Below w.heap.size w W) => Resolve_any z vT vR l g f W (hm.on hb) (hT.on hb) (hR.on hb) hfs hll htl)
  obtain ⟨AT, cT, rfl⟩ := rd_vf hT
  obtain ⟨AR, cR, rfl⟩ := rd_vf hR
  clear hT hR hm
  have hB1 : Below w.heap.size w (w.alloc (.cells #[.string z.nm, .int .i64 z.first.off, .int .i64 z.first.sv, .string z.first.nm, .slice AT z.table.length cT, .slice AR z.tail.length cR, .int .i64 z.off, .string z.form, .int .i64 z.year] 27)) := (Below.refl _ _).alloc (Nat.le_refl _) _
  have b0 := Blk.new w #[.string z.nm, .int .i64 z.first.off, .int .i64 z.first.sv, .string z.first.nm, .slice AT z.table.length cT, .slice AR z.tail.length cR, .int .i64 z.off, .string z.form, .int .i64 z.year] 27
  unfold Zn.v at HF0 HOF0 HNX0 HRS0 HAT0 HBT0 ⊢
  unfold atR Typ.val at HAT0
  unfold BetEnd at HBT0
  go_enter Tryz.func7, Tryz.ntmps7
  go_wp2_with fail
  generalize (w.alloc (.cells #[.string z.nm, .int .i64 z.first.off, .int .i64 z.first.sv, .string z.first.nm, .slice AT z.table.length cT, .slice AR z.tail.length cR, .int .i64 z.off, .string z.form, .int .i64 z.year] 27)) = W at *
  have hw : w.heap.size ≤ W.heap.size := hB1.size
  have HF := Lib.hid (fun W' (hb : Below W.heap.size W W') => HF0.out W' (hB1.trans (hb.mono hw)))
  have HNX1 := Lib.hid (fun hfs hll W' (hb : Below W.heap.size W W') => HNX0.out hfs hll W' (hB1.trans (hb.mono hw)))
  have HAT1 := Lib.hid (fun hfs hll u W' (hb : Below W.heap.size W W') => HAT0.out hfs hll u W' (hB1.trans (hb.mono hw)))
  have HBT1 := Lib.hid (fun hfs hll a b W' (hb : Below W.heap.size W W') => HBT0.out hfs hll a b W' (hB1.trans (hb.mono hw)))
  have HOF1 := Lib.hid (fun hfs hll t W' (hb : Below W.heap.size W W') => HOF0.out hfs hll t W' (hB1.trans (hb.mono hw)))
  have HRS1 := Lib.hid (fun hfs hll htl l g f W' (hb : Below W.heap.size W W') => HRS0.out hfs hll htl l g f W' (hB1.trans (hb.mono hw)))
  clear HF0 HOF0 HNX0 HRS0 HAT0 HBT0
  refine (HA.out W hB1).mono ?_
  rintro e w1 ⟨rfl, hb1⟩
  clear HA
  have KZ := b0.below hb1 b0.lt
  have KL := KZ.lt
  have z0 := KZ.cl 0 _ rfl
  have z1 := KZ.cl 1 _ rfl
  have z2 := KZ.cl 2 _ rfl
  have z3 := KZ.cl 3 _ rfl
  have z4 := KZ.cl 4 _ rfl
  have z5 := KZ.cl 5 _ rfl
  have z6 := KZ.cl 6 _ rfl
  have z7 := KZ.cl 7 _ rfl
  have z8 := KZ.cl 8 _ rfl
  cases hf : z.fewB
  · go_wp2_with (go_at_call 24; refine (HF.out w1 hb1).mono ?_; rintro e w2 ⟨rfl, hb2⟩; rw [hf]; have hb2 := hb1.trans (hb2.mono hb1.size); clear HF; have KZ := b0.below hb2 b0.lt; have KL := KZ.lt; have z0 := KZ.cl 0 _ rfl; have z1 := KZ.cl 1 _ rfl; have z2 := KZ.cl 2 _ rfl; have z3 := KZ.cl 3 _ rfl; have z4 := KZ.cl 4 _ rfl; have z5 := KZ.cl 5 _ rfl; have z6 := KZ.cl 6 _ rfl; have z7 := KZ.cl 7 _ rfl; have z8 := KZ.cl 8 _ rfl)
    go_ret
    exact ⟨rfl, hB1.trans (hb2.mono hw)⟩
  · obtain ⟨htl, hll, hfs0⟩ := few_parts hf
    have hfs : z.form.size < 4294967281 := by omega
    have HNX := Lib.hid (fun W' hb => HNX1.out hfs (.inl hll) W' hb)
    have HAT := Lib.hid (fun u W' hb => HAT1.out hfs (.inl hll) u W' hb)
    have HBT := Lib.hid (fun a b W' hb => HBT1.out hfs (.inl hll) a b W' hb)
    have HOF := Lib.hid (fun t W' hb => HOF1.out hfs (.inl hll) t W' hb)
    have HRS := Lib.hid (fun l g f W' hb => HRS1.out hfs hll htl l g f W' hb)
    clear HNX1 HAT1 HBT1 HOF1 HRS1
    by_cases ht1 : t ≤ 253401926400
    · by_cases ht2 : -62135222400 ≤ t
      · cases hn : z.nextV t with
        | none =>
          rw [hn] at HNX
          unfold optV at HNX
          dsimp only at HNX
          clear hn
          go_wp2_with (first | (go_at_call 24; refine (HF.out w1 hb1).mono ?_; rintro e w2 ⟨rfl, hb2⟩; rw [hf]; have hb2 := hb1.trans (hb2.mono hb1.size); clear HF; have KZ := b0.below hb2 b0.lt; have KL := KZ.lt; have z0 := KZ.cl 0 _ rfl; have z1 := KZ.cl 1 _ rfl; have z2 := KZ.cl 2 _ rfl; have z3 := KZ.cl 3 _ rfl; have z4 := KZ.cl 4 _ rfl; have z5 := KZ.cl 5 _ rfl; have z6 := KZ.cl 6 _ rfl; have z7 := KZ.cl 7 _ rfl; have z8 := KZ.cl 8 _ rfl) | (go_at_call 15; refine (HNX.out w2 hb2).mono ?_; rintro e w3 ⟨rfl, hb3⟩; have hb3 := hb2.trans (hb3.mono hb2.size); clear HNX))
          go_ret
          exact ⟨rfl, (hB1.trans (hb3.mono hw)).alloc (hB1.trans (hb3.mono hw)).size _⟩
        | some x =>
          rw [hn] at HNX
          unfold optV at HNX
          dsimp only at HNX
          obtain ⟨hv, hti, hnf, htx⟩ := nextV_some hn
          have hxo := next_ty hv hnf
          clear hn hti
          obtain ⟨xa, xo, xs, xn⟩ := x
          dsimp only at htx hxo HNX
          by_cases hx : xa ≤ 253401926400
          · have hia : inT (xa - 1) = true := by unfold inT; simp; omega
            have HATx := Lib.hid (fun W' hb => HAT.out (xa - 1) W' hb)
            rw [atV_yes hv hia] at HATx
            have HBTx := Lib.hid (fun W' hb => HBT.out (xa - 187200) (xa + 187200) W' hb)
            rw [betV_yes hv (by omega) (by omega) (by omega)] at HBTx
            have hob := off_bd hv (xa - 1)
            unfold Zn.offF at hob
            have hoe : z.offF (xa - 1) = (z.typF (xa - 1)).off := rfl
            generalize z.typF (xa - 1) = tb at *
            obtain ⟨bo, bs, bn⟩ := tb
            dsimp only at *
            clear HAT HBT
            by_cases hlen : (z.betF (xa - 187200) (xa + 187200)).length = 1
            · rw [if_pos (by omega)] at HBTx
              dsimp only at HBTx
              have hwd : wrap64 (xo - bo) = xo - bo := by unfold wrap64; omega
              by_cases hgap : bo < xo
              · have hg1 : decide (xo - bo ≤ 0) = false := decide_eq_false (by omega)
                have hA := alone_of (x := ⟨xa, ⟨xo, xs, xn⟩⟩) hv (by omega) hnf (by dsimp only; omega) hlen
                obtain ⟨q0, q1⟩ := rem_bd hr.1 (show 0 < xo - bo by omega)
                have hgh : ∀ q, 0 ≤ q → q < xo - bo → GapHere z ⟨xa, ⟨xo, xs, xn⟩⟩ (xa + bo + q) bo := fun q h0 h1 => ⟨hA, hoe.symm, by dsimp only; omega, by dsimp only; omega⟩
                generalize hq : r.tmod (xo - bo) = q at *
                have hG := hgh q q0 q1
                have hres := gap_res hG
                have hof := gap_of hG
                have hln1 : ((z.betF (xa - 187200) (xa + 187200)).length : Int) = 1 := by omega
                generalize (z.betF (xa - 187200) (xa + 187200)) = LB at *
                clear hgh hA hG hoe
                go_wp2_with (first | (go_at_call 24; refine (HF.out w1 hb1).mono ?_; rintro e w2 ⟨rfl, hb2⟩; rw [hf]; have hb2 := hb1.trans (hb2.mono hb1.size); clear HF; have KZ := b0.below hb2 b0.lt; have KL := KZ.lt; have z0 := KZ.cl 0 _ rfl; have z1 := KZ.cl 1 _ rfl; have z2 := KZ.cl 2 _ rfl; have z3 := KZ.cl 3 _ rfl; have z4 := KZ.cl 4 _ rfl; have z5 := KZ.cl 5 _ rfl; have z6 := KZ.cl 6 _ rfl; have z7 := KZ.cl 7 _ rfl; have z8 := KZ.cl 8 _ rfl) | (go_at_call 15; refine (HNX.out w2 hb2).mono ?_; rintro e w3 ⟨rfl, hb3⟩; clear HNX; have bx := Blk.new w3 #[.int .i64 xa, .int .i64 xo, .int .i64 xs, .string xn] 38; have hbX : Below W.heap.size W (w3.alloc (.cells #[.int .i64 xa, .int .i64 xo, .int .i64 xs, .string xn] 38)) := (hb2.trans (hb3.mono hb2.size)).alloc (hb2.trans (hb3.mono hb2.size)).size _; have KZ := b0.below hbX b0.lt; have KL := KZ.lt; have z0 := KZ.cl 0 _ rfl; have z1 := KZ.cl 1 _ rfl; have z2 := KZ.cl 2 _ rfl; have z3 := KZ.cl 3 _ rfl; have z4 := KZ.cl 4 _ rfl; have z5 := KZ.cl 5 _ rfl; have z6 := KZ.cl 6 _ rfl; have z7 := KZ.cl 7 _ rfl; have z8 := KZ.cl 8 _ rfl; have x0 := bx.cl 0 _ rfl; have x1 := bx.cl 1 _ rfl) | (go_at_call 17; refine (HATx.out _ hbX).mono ?_; rintro e w5 ⟨rfl, hb5⟩; clear HATx; have bt := Blk.new w5 #[.int .i64 bo, .int .i64 bs, .string bn] 23; have kx5 := (bx.below hb5 bx.lt).alloc (.cells #[.int .i64 bo, .int .i64 bs, .string bn] 23); have hb5 := hbX.trans (hb5.mono hbX.size); have hbT : Below W.heap.size W (w5.alloc (.cells #[.int .i64 bo, .int .i64 bs, .string bn] 23)) := hb5.alloc hb5.size _; clear x0 x1; have KZ := b0.below hbT b0.lt; have KL := KZ.lt; have z0 := KZ.cl 0 _ rfl; have z1 := KZ.cl 1 _ rfl; have z2 := KZ.cl 2 _ rfl; have z3 := KZ.cl 3 _ rfl; have z4 := KZ.cl 4 _ rfl; have z5 := KZ.cl 5 _ rfl; have z6 := KZ.cl 6 _ rfl; have z7 := KZ.cl 7 _ rfl; have z8 := KZ.cl 8 _ rfl; have x0 := kx5.cl 0 _ rfl; have x1 := kx5.cl 1 _ rfl; have t0 := bt.cl 0 _ rfl; have kxl := kx5.lt) | (go_at_call 12; refine (HBTx.out _ hbT).mono ?_; rintro e w7 ⟨v7, rfl, hr7, hb7, hn7⟩; clear HBTx; have kx7 := kx5.below hb7 kxl; have kt7 := bt.below hb7 bt.lt; have hb7 := hbT.trans (hb7.mono hbT.size); clear x0 x1 t0; have KZ := b0.below hb7 b0.lt; have KL := KZ.lt; have z0 := KZ.cl 0 _ rfl; have z1 := KZ.cl 1 _ rfl; have z2 := KZ.cl 2 _ rfl; have z3 := KZ.cl 3 _ rfl; have z4 := KZ.cl 4 _ rfl; have z5 := KZ.cl 5 _ rfl; have z6 := KZ.cl 6 _ rfl; have z7 := KZ.cl 7 _ rfl; have z8 := KZ.cl 8 _ rfl; have x0 := kx7.cl 0 _ rfl; have t0 := kt7.cl 0 _ rfl; obtain ⟨A7, c7, rfl⟩ := rd_vf hr7))
                go_region
                have hb8 : Below W.heap.size W w7.drew := hb7.drew
                have kx8 : Blk w7.drew w3.heap.size #[.int .i64 xa, .int .i64 xo, .int .i64 xs, .string xn] 38 := kx7.below (Below.refl w7.heap.size w7).drew kx7.lt
                clear z0 z1 z2 z3 z4 z5 z6 z7 z8 KZ KL x0 t0 kx7 kt7 kxl kx5 hr7 hn7 bx bt hg1 hln1 hwd hlen hia
                generalize w7.drew = w8 at *
                have hLb : -62136000000 ≤ xa + bo + q ∧ xa + bo + q ≤ 253402300800 ∧ 0 < xo - bo ∧ xo - bo < 187200 ∧ -93600 < bo ∧ bo < 93600 ∧ -93600 < xo ∧ xo < 93600 := by omega
                try dsimp only at hres
                try dsimp only at hof
                clear hob hxo
                generalize xa + bo + q = L at *
                generalize hDe : xo - bo = D at *
                obtain ⟨r2, r3, r4, r1⟩ := hres
                obtain ⟨f1, f2⟩ := hof
                have HR1 := Lib.hid (fun W' hb => HRS.out L 1 1 W' hb)
                have HR2 := Lib.hid (fun W' hb => HRS.out L 2 1 W' hb)
                have HR3 := Lib.hid (fun W' hb => HRS.out L 3 1 W' hb)
                have HR4 := Lib.hid (fun W' hb => HRS.out L 4 1 W' hb)
                have HO1 := Lib.hid (fun W' hb => HOF.out (L - bo) W' hb)
                have HO2 := Lib.hid (fun W' hb => HOF.out (L - xo) W' hb)
                rw [r1] at HR1
                rw [r2] at HR2
                rw [r3] at HR3
                rw [r4] at HR4
                rw [f1] at HO1
                rw [f2] at HO2
                clear HRS HOF r1 r2 r3 r4 f1 f2 hf htl hll hfs0 hfs hq q0 q1 hr
                obtain ⟨l1, l2, l3, l4, l5, l6, l7, l8⟩ := hLb
                have KZ := b0.below hb8 b0.lt
                have KL := KZ.lt
                have z0 := KZ.cl 0 _ rfl
                have z1 := KZ.cl 1 _ rfl
                have z2 := KZ.cl 2 _ rfl
                have z3 := KZ.cl 3 _ rfl
                have z4 := KZ.cl 4 _ rfl
                have z5 := KZ.cl 5 _ rfl
                have z6 := KZ.cl 6 _ rfl
                have z7 := KZ.cl 7 _ rfl
                have z8 := KZ.cl 8 _ rfl
                have x0 := kx8.cl 0 _ rfl
                go_wp2_with (first | (go_at_call 28; refine (HR2.out _ hb8).mono ?_; rintro e w9 ⟨rfl, hb9⟩; clear HR2; have kx9 := kx8.below hb9 kx8.lt; have hb9 := hb8.trans (hb9.mono hb8.size); clear z0 z1 z2 z3 z4 z5 z6 z7 z8 KZ KL x0; have KZ := b0.below hb9 b0.lt; have KL := KZ.lt; have z0 := KZ.cl 0 _ rfl; have z1 := KZ.cl 1 _ rfl; have z2 := KZ.cl 2 _ rfl; have z3 := KZ.cl 3 _ rfl; have z4 := KZ.cl 4 _ rfl; have z5 := KZ.cl 5 _ rfl; have z6 := KZ.cl 6 _ rfl; have z7 := KZ.cl 7 _ rfl; have z8 := KZ.cl 8 _ rfl; have x0 := kx9.cl 0 _ rfl) | (go_at_call 28; refine (HR3.out _ hb9).mono ?_; rintro e w10 ⟨rfl, hb10⟩; clear HR3; have kx10 := kx9.below hb10 kx9.lt; have hb10 := hb9.trans (hb10.mono hb9.size); clear z0 z1 z2 z3 z4 z5 z6 z7 z8 KZ KL x0; have KZ := b0.below hb10 b0.lt; have KL := KZ.lt; have z0 := KZ.cl 0 _ rfl; have z1 := KZ.cl 1 _ rfl; have z2 := KZ.cl 2 _ rfl; have z3 := KZ.cl 3 _ rfl; have z4 := KZ.cl 4 _ rfl; have z5 := KZ.cl 5 _ rfl; have z6 := KZ.cl 6 _ rfl; have z7 := KZ.cl 7 _ rfl; have z8 := KZ.cl 8 _ rfl; have x0 := kx10.cl 0 _ rfl) | (go_at_call 28; refine (HR4.out _ hb10).mono ?_; rintro e w11 ⟨rfl, hb11⟩; clear HR4; have kx11 := kx10.below hb11 kx10.lt; have hb11 := hb10.trans (hb11.mono hb10.size); clear z0 z1 z2 z3 z4 z5 z6 z7 z8 KZ KL x0; have KZ := b0.below hb11 b0.lt; have KL := KZ.lt; have z0 := KZ.cl 0 _ rfl; have z1 := KZ.cl 1 _ rfl; have z2 := KZ.cl 2 _ rfl; have z3 := KZ.cl 3 _ rfl; have z4 := KZ.cl 4 _ rfl; have z5 := KZ.cl 5 _ rfl; have z6 := KZ.cl 6 _ rfl; have z7 := KZ.cl 7 _ rfl; have z8 := KZ.cl 8 _ rfl; have x0 := kx11.cl 0 _ rfl) | (go_at_call 28; refine (HR1.out _ hb11).mono ?_; rintro e w12 ⟨rfl, hb12⟩; clear HR1; have kx12 := kx11.below hb12 kx11.lt; have hb12 := hb11.trans (hb12.mono hb11.size); clear z0 z1 z2 z3 z4 z5 z6 z7 z8 KZ KL x0; have KZ := b0.below hb12 b0.lt; have KL := KZ.lt; have z0 := KZ.cl 0 _ rfl; have z1 := KZ.cl 1 _ rfl; have z2 := KZ.cl 2 _ rfl; have z3 := KZ.cl 3 _ rfl; have z4 := KZ.cl 4 _ rfl; have z5 := KZ.cl 5 _ rfl; have z6 := KZ.cl 6 _ rfl; have z7 := KZ.cl 7 _ rfl; have z8 := KZ.cl 8 _ rfl; have x0 := kx12.cl 0 _ rfl) | (go_at_call 25; refine (HO1.out _ hb12).mono ?_; rintro e w13 ⟨rfl, hb13⟩; clear HO1; have kx13 := kx12.below hb13 kx12.lt; have hb13 := hb12.trans (hb13.mono hb12.size); clear z0 z1 z2 z3 z4 z5 z6 z7 z8 KZ KL x0; have KZ := b0.below hb13 b0.lt; have KL := KZ.lt; have z0 := KZ.cl 0 _ rfl; have z1 := KZ.cl 1 _ rfl; have z2 := KZ.cl 2 _ rfl; have z3 := KZ.cl 3 _ rfl; have z4 := KZ.cl 4 _ rfl; have z5 := KZ.cl 5 _ rfl; have z6 := KZ.cl 6 _ rfl; have z7 := KZ.cl 7 _ rfl; have z8 := KZ.cl 8 _ rfl; have x0 := kx13.cl 0 _ rfl) | (go_at_call 25; refine (HO2.out _ hb13).mono ?_; rintro e w14 ⟨rfl, hb14⟩; clear HO2; have kx14 := kx13.below hb14 kx13.lt; have hb14 := hb13.trans (hb14.mono hb13.size); clear z0 z1 z2 z3 z4 z5 z6 z7 z8 KZ KL x0; have KZ := b0.below hb14 b0.lt; have KL := KZ.lt; have z0 := KZ.cl 0 _ rfl; have z1 := KZ.cl 1 _ rfl; have z2 := KZ.cl 2 _ rfl; have z3 := KZ.cl 3 _ rfl; have z4 := KZ.cl 4 _ rfl; have z5 := KZ.cl 5 _ rfl; have z6 := KZ.cl 6 _ rfl; have z7 := KZ.cl 7 _ rfl; have z8 := KZ.cl 8 _ rfl; have x0 := kx14.cl 0 _ rfl))
                go_ret
                exact ⟨rfl, hB1.trans (hb14.mono hw)⟩
              · have hg1 : decide (xo - bo ≤ 0) = true := decide_eq_true (by omega)
                have hln1 : ((z.betF (xa - 187200) (xa + 187200)).length : Int) = 1 := by omega
                generalize (z.betF (xa - 187200) (xa + 187200)) = LB at *
                clear hob hoe hnf HOF HRS
                go_wp2_with (first | (go_at_call 24; refine (HF.out w1 hb1).mono ?_; rintro e w2 ⟨rfl, hb2⟩; rw [hf]; have hb2 := hb1.trans (hb2.mono hb1.size); clear HF; have KZ := b0.below hb2 b0.lt; have KL := KZ.lt; have z0 := KZ.cl 0 _ rfl; have z1 := KZ.cl 1 _ rfl; have z2 := KZ.cl 2 _ rfl; have z3 := KZ.cl 3 _ rfl; have z4 := KZ.cl 4 _ rfl; have z5 := KZ.cl 5 _ rfl; have z6 := KZ.cl 6 _ rfl; have z7 := KZ.cl 7 _ rfl; have z8 := KZ.cl 8 _ rfl) | (go_at_call 15; refine (HNX.out w2 hb2).mono ?_; rintro e w3 ⟨rfl, hb3⟩; clear HNX; have bx := Blk.new w3 #[.int .i64 xa, .int .i64 xo, .int .i64 xs, .string xn] 38; have hbX : Below W.heap.size W (w3.alloc (.cells #[.int .i64 xa, .int .i64 xo, .int .i64 xs, .string xn] 38)) := (hb2.trans (hb3.mono hb2.size)).alloc (hb2.trans (hb3.mono hb2.size)).size _; have KZ := b0.below hbX b0.lt; have KL := KZ.lt; have z0 := KZ.cl 0 _ rfl; have z1 := KZ.cl 1 _ rfl; have z2 := KZ.cl 2 _ rfl; have z3 := KZ.cl 3 _ rfl; have z4 := KZ.cl 4 _ rfl; have z5 := KZ.cl 5 _ rfl; have z6 := KZ.cl 6 _ rfl; have z7 := KZ.cl 7 _ rfl; have z8 := KZ.cl 8 _ rfl; have x0 := bx.cl 0 _ rfl; have x1 := bx.cl 1 _ rfl) | (go_at_call 17; refine (HATx.out _ hbX).mono ?_; rintro e w5 ⟨rfl, hb5⟩; clear HATx; have bt := Blk.new w5 #[.int .i64 bo, .int .i64 bs, .string bn] 23; have kx5 := (bx.below hb5 bx.lt).alloc (.cells #[.int .i64 bo, .int .i64 bs, .string bn] 23); have hb5 := hbX.trans (hb5.mono hbX.size); have hbT : Below W.heap.size W (w5.alloc (.cells #[.int .i64 bo, .int .i64 bs, .string bn] 23)) := hb5.alloc hb5.size _; clear x0 x1; have KZ := b0.below hbT b0.lt; have KL := KZ.lt; have z0 := KZ.cl 0 _ rfl; have z1 := KZ.cl 1 _ rfl; have z2 := KZ.cl 2 _ rfl; have z3 := KZ.cl 3 _ rfl; have z4 := KZ.cl 4 _ rfl; have z5 := KZ.cl 5 _ rfl; have z6 := KZ.cl 6 _ rfl; have z7 := KZ.cl 7 _ rfl; have z8 := KZ.cl 8 _ rfl; have x0 := kx5.cl 0 _ rfl; have x1 := kx5.cl 1 _ rfl; have t0 := bt.cl 0 _ rfl; have kxl := kx5.lt) | (go_at_call 12; refine (HBTx.out _ hbT).mono ?_; rintro e w7 ⟨v7, rfl, hr7, hb7, hn7⟩; clear HBTx; have kx7 := kx5.below hb7 kxl; have kt7 := bt.below hb7 bt.lt; have hb7 := hbT.trans (hb7.mono hbT.size); clear x0 x1 t0; have KZ := b0.below hb7 b0.lt; have KL := KZ.lt; have z0 := KZ.cl 0 _ rfl; have z1 := KZ.cl 1 _ rfl; have z2 := KZ.cl 2 _ rfl; have z3 := KZ.cl 3 _ rfl; have z4 := KZ.cl 4 _ rfl; have z5 := KZ.cl 5 _ rfl; have z6 := KZ.cl 6 _ rfl; have z7 := KZ.cl 7 _ rfl; have z8 := KZ.cl 8 _ rfl; have x0 := kx7.cl 0 _ rfl; have t0 := kt7.cl 0 _ rfl; obtain ⟨A7, c7, rfl⟩ := rd_vf hr7))
                go_ret
                exact ⟨rfl, hB1.trans (hb7.mono hw)⟩
            · by_cases h1000 : (z.betF (xa - 187200) (xa + 187200)).length ≤ 1000
              · rw [if_pos h1000] at HBTx
                dsimp only at HBTx
                have hne : (((z.betF (xa - 187200) (xa + 187200)).length : Int) != 1) = true := bne_iff_ne.2 (by omega)
                generalize (z.betF (xa - 187200) (xa + 187200)) = LB at *
                clear hob hoe hnf HOF HRS
                go_wp2_with (first | (go_at_call 24; refine (HF.out w1 hb1).mono ?_; rintro e w2 ⟨rfl, hb2⟩; rw [hf]; have hb2 := hb1.trans (hb2.mono hb1.size); clear HF; have KZ := b0.below hb2 b0.lt; have KL := KZ.lt; have z0 := KZ.cl 0 _ rfl; have z1 := KZ.cl 1 _ rfl; have z2 := KZ.cl 2 _ rfl; have z3 := KZ.cl 3 _ rfl; have z4 := KZ.cl 4 _ rfl; have z5 := KZ.cl 5 _ rfl; have z6 := KZ.cl 6 _ rfl; have z7 := KZ.cl 7 _ rfl; have z8 := KZ.cl 8 _ rfl) | (go_at_call 15; refine (HNX.out w2 hb2).mono ?_; rintro e w3 ⟨rfl, hb3⟩; clear HNX; have bx := Blk.new w3 #[.int .i64 xa, .int .i64 xo, .int .i64 xs, .string xn] 38; have hbX : Below W.heap.size W (w3.alloc (.cells #[.int .i64 xa, .int .i64 xo, .int .i64 xs, .string xn] 38)) := (hb2.trans (hb3.mono hb2.size)).alloc (hb2.trans (hb3.mono hb2.size)).size _; have KZ := b0.below hbX b0.lt; have KL := KZ.lt; have z0 := KZ.cl 0 _ rfl; have z1 := KZ.cl 1 _ rfl; have z2 := KZ.cl 2 _ rfl; have z3 := KZ.cl 3 _ rfl; have z4 := KZ.cl 4 _ rfl; have z5 := KZ.cl 5 _ rfl; have z6 := KZ.cl 6 _ rfl; have z7 := KZ.cl 7 _ rfl; have z8 := KZ.cl 8 _ rfl; have x0 := bx.cl 0 _ rfl; have x1 := bx.cl 1 _ rfl) | (go_at_call 17; refine (HATx.out _ hbX).mono ?_; rintro e w5 ⟨rfl, hb5⟩; clear HATx; have bt := Blk.new w5 #[.int .i64 bo, .int .i64 bs, .string bn] 23; have kx5 := (bx.below hb5 bx.lt).alloc (.cells #[.int .i64 bo, .int .i64 bs, .string bn] 23); have hb5 := hbX.trans (hb5.mono hbX.size); have hbT : Below W.heap.size W (w5.alloc (.cells #[.int .i64 bo, .int .i64 bs, .string bn] 23)) := hb5.alloc hb5.size _; clear x0 x1; have KZ := b0.below hbT b0.lt; have KL := KZ.lt; have z0 := KZ.cl 0 _ rfl; have z1 := KZ.cl 1 _ rfl; have z2 := KZ.cl 2 _ rfl; have z3 := KZ.cl 3 _ rfl; have z4 := KZ.cl 4 _ rfl; have z5 := KZ.cl 5 _ rfl; have z6 := KZ.cl 6 _ rfl; have z7 := KZ.cl 7 _ rfl; have z8 := KZ.cl 8 _ rfl; have x0 := kx5.cl 0 _ rfl; have x1 := kx5.cl 1 _ rfl; have t0 := bt.cl 0 _ rfl; have kxl := kx5.lt) | (go_at_call 12; refine (HBTx.out _ hbT).mono ?_; rintro e w7 ⟨v7, rfl, hr7, hb7, hn7⟩; clear HBTx; have kx7 := kx5.below hb7 kxl; have kt7 := bt.below hb7 bt.lt; have hb7 := hbT.trans (hb7.mono hbT.size); clear x0 x1 t0; have KZ := b0.below hb7 b0.lt; have KL := KZ.lt; have z0 := KZ.cl 0 _ rfl; have z1 := KZ.cl 1 _ rfl; have z2 := KZ.cl 2 _ rfl; have z3 := KZ.cl 3 _ rfl; have z4 := KZ.cl 4 _ rfl; have z5 := KZ.cl 5 _ rfl; have z6 := KZ.cl 6 _ rfl; have z7 := KZ.cl 7 _ rfl; have z8 := KZ.cl 8 _ rfl; have x0 := kx7.cl 0 _ rfl; have t0 := kt7.cl 0 _ rfl; obtain ⟨A7, c7, rfl⟩ := rd_vf hr7))
                go_ret
                exact ⟨rfl, hB1.trans (hb7.mono hw)⟩
              · rw [if_neg h1000] at HBTx
                dsimp only at HBTx
                clear hob hoe hnf HOF HRS hlen h1000
                go_wp2_with (first | (go_at_call 24; refine (HF.out w1 hb1).mono ?_; rintro e w2 ⟨rfl, hb2⟩; rw [hf]; have hb2 := hb1.trans (hb2.mono hb1.size); clear HF; have KZ := b0.below hb2 b0.lt; have KL := KZ.lt; have z0 := KZ.cl 0 _ rfl; have z1 := KZ.cl 1 _ rfl; have z2 := KZ.cl 2 _ rfl; have z3 := KZ.cl 3 _ rfl; have z4 := KZ.cl 4 _ rfl; have z5 := KZ.cl 5 _ rfl; have z6 := KZ.cl 6 _ rfl; have z7 := KZ.cl 7 _ rfl; have z8 := KZ.cl 8 _ rfl) | (go_at_call 15; refine (HNX.out w2 hb2).mono ?_; rintro e w3 ⟨rfl, hb3⟩; clear HNX; have bx := Blk.new w3 #[.int .i64 xa, .int .i64 xo, .int .i64 xs, .string xn] 38; have hbX : Below W.heap.size W (w3.alloc (.cells #[.int .i64 xa, .int .i64 xo, .int .i64 xs, .string xn] 38)) := (hb2.trans (hb3.mono hb2.size)).alloc (hb2.trans (hb3.mono hb2.size)).size _; have KZ := b0.below hbX b0.lt; have KL := KZ.lt; have z0 := KZ.cl 0 _ rfl; have z1 := KZ.cl 1 _ rfl; have z2 := KZ.cl 2 _ rfl; have z3 := KZ.cl 3 _ rfl; have z4 := KZ.cl 4 _ rfl; have z5 := KZ.cl 5 _ rfl; have z6 := KZ.cl 6 _ rfl; have z7 := KZ.cl 7 _ rfl; have z8 := KZ.cl 8 _ rfl; have x0 := bx.cl 0 _ rfl; have x1 := bx.cl 1 _ rfl) | (go_at_call 17; refine (HATx.out _ hbX).mono ?_; rintro e w5 ⟨rfl, hb5⟩; clear HATx; have bt := Blk.new w5 #[.int .i64 bo, .int .i64 bs, .string bn] 23; have kx5 := (bx.below hb5 bx.lt).alloc (.cells #[.int .i64 bo, .int .i64 bs, .string bn] 23); have hb5 := hbX.trans (hb5.mono hbX.size); have hbT : Below W.heap.size W (w5.alloc (.cells #[.int .i64 bo, .int .i64 bs, .string bn] 23)) := hb5.alloc hb5.size _; clear x0 x1; have KZ := b0.below hbT b0.lt; have KL := KZ.lt; have z0 := KZ.cl 0 _ rfl; have z1 := KZ.cl 1 _ rfl; have z2 := KZ.cl 2 _ rfl; have z3 := KZ.cl 3 _ rfl; have z4 := KZ.cl 4 _ rfl; have z5 := KZ.cl 5 _ rfl; have z6 := KZ.cl 6 _ rfl; have z7 := KZ.cl 7 _ rfl; have z8 := KZ.cl 8 _ rfl; have x0 := kx5.cl 0 _ rfl; have x1 := kx5.cl 1 _ rfl; have t0 := bt.cl 0 _ rfl; have kxl := kx5.lt) | (go_at_call 12; refine (HBTx.out _ hbT).mono ?_; rintro e w7 ⟨v7, rfl, hr7, hb7, hn7⟩; clear HBTx; have kx7 := kx5.below hb7 kxl; have kt7 := bt.below hb7 bt.lt; have hb7 := hbT.trans (hb7.mono hbT.size); clear x0 x1 t0; have KZ := b0.below hb7 b0.lt; have KL := KZ.lt; have z0 := KZ.cl 0 _ rfl; have z1 := KZ.cl 1 _ rfl; have z2 := KZ.cl 2 _ rfl; have z3 := KZ.cl 3 _ rfl; have z4 := KZ.cl 4 _ rfl; have z5 := KZ.cl 5 _ rfl; have z6 := KZ.cl 6 _ rfl; have z7 := KZ.cl 7 _ rfl; have z8 := KZ.cl 8 _ rfl; have x0 := kx7.cl 0 _ rfl; have t0 := kt7.cl 0 _ rfl; obtain ⟨A7, c7, rfl⟩ := rd_vf hr7))
                go_ret
                exact ⟨rfl, hB1.trans (hb7.mono hw)⟩
          · have hd1 : decide (253401926400 < xa) = true := decide_eq_true (by omega)
            clear HAT HBT HOF HRS hnf
            go_wp2_with (first | (go_at_call 24; refine (HF.out w1 hb1).mono ?_; rintro e w2 ⟨rfl, hb2⟩; rw [hf]; have hb2 := hb1.trans (hb2.mono hb1.size); clear HF; have KZ := b0.below hb2 b0.lt; have KL := KZ.lt; have z0 := KZ.cl 0 _ rfl; have z1 := KZ.cl 1 _ rfl; have z2 := KZ.cl 2 _ rfl; have z3 := KZ.cl 3 _ rfl; have z4 := KZ.cl 4 _ rfl; have z5 := KZ.cl 5 _ rfl; have z6 := KZ.cl 6 _ rfl; have z7 := KZ.cl 7 _ rfl; have z8 := KZ.cl 8 _ rfl) | (go_at_call 15; refine (HNX.out w2 hb2).mono ?_; rintro e w3 ⟨rfl, hb3⟩; clear HNX; have bx := Blk.new w3 #[.int .i64 xa, .int .i64 xo, .int .i64 xs, .string xn] 38; have hbX : Below W.heap.size W (w3.alloc (.cells #[.int .i64 xa, .int .i64 xo, .int .i64 xs, .string xn] 38)) := (hb2.trans (hb3.mono hb2.size)).alloc (hb2.trans (hb3.mono hb2.size)).size _; have KZ := b0.below hbX b0.lt; have KL := KZ.lt; have z0 := KZ.cl 0 _ rfl; have z1 := KZ.cl 1 _ rfl; have z2 := KZ.cl 2 _ rfl; have z3 := KZ.cl 3 _ rfl; have z4 := KZ.cl 4 _ rfl; have z5 := KZ.cl 5 _ rfl; have z6 := KZ.cl 6 _ rfl; have z7 := KZ.cl 7 _ rfl; have z8 := KZ.cl 8 _ rfl; have x0 := bx.cl 0 _ rfl; have x1 := bx.cl 1 _ rfl))
            go_ret
            exact ⟨rfl, hB1.trans (hbX.mono hw)⟩
      · go_wp2_with (go_at_call 24; refine (HF.out w1 hb1).mono ?_; rintro e w2 ⟨rfl, hb2⟩; rw [hf]; have hb2 := hb1.trans (hb2.mono hb1.size); clear HF; have KZ := b0.below hb2 b0.lt; have KL := KZ.lt; have z0 := KZ.cl 0 _ rfl; have z1 := KZ.cl 1 _ rfl; have z2 := KZ.cl 2 _ rfl; have z3 := KZ.cl 3 _ rfl; have z4 := KZ.cl 4 _ rfl; have z5 := KZ.cl 5 _ rfl; have z6 := KZ.cl 6 _ rfl; have z7 := KZ.cl 7 _ rfl; have z8 := KZ.cl 8 _ rfl)
        go_ret
        exact ⟨rfl, hB1.trans (hb2.mono hw)⟩
    · go_wp2_with (go_at_call 24; refine (HF.out w1 hb1).mono ?_; rintro e w2 ⟨rfl, hb2⟩; rw [hf]; have hb2 := hb1.trans (hb2.mono hb1.size); clear HF; have KZ := b0.below hb2 b0.lt; have KL := KZ.lt; have z0 := KZ.cl 0 _ rfl; have z1 := KZ.cl 1 _ rfl; have z2 := KZ.cl 2 _ rfl; have z3 := KZ.cl 3 _ rfl; have z4 := KZ.cl 4 _ rfl; have z5 := KZ.cl 5 _ rfl; have z6 := KZ.cl 6 _ rfl; have z7 := KZ.cl 7 _ rfl; have z8 := KZ.cl 8 _ rfl)
      go_ret
      exact ⟨rfl, hB1.trans (hb2.mono hw)⟩

end Go.Proofs.YtdpkolnfbimheaaGreat

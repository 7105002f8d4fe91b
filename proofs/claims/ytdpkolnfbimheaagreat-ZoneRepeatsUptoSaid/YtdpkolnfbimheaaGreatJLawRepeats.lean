/- The law ZoneRepeats. -/
import Derived.Test.YtdpkolnfbimheaaGreatGRf
import Derived.Test.YtdpkolnfbimheaaGreatGRd
import Derived.Test.YtdpkolnfbimheaaGreatGZn
import Derived.Test.YtdpkolnfbimheaaGreatGAw
import Derived.IntWalk
namespace Go.Proofs.YtdpkolnfbimheaaGreat
set_option linter.unusedSimpArgs false
set_option linter.unusedVariables false
open Go.ChangeShapes Go.WideShapes Go.ChangeAt Go.RowKit

theorem blk_cl {W : World} {B : Nat} {l : List Value} {T : TypeId} (h : Blk W B l.toArray T) (i : Nat) (u : Value) (hu : l[i]? = some u) : W.cell? ⟨B, i, none⟩ = some u := h.cell i (by simpa using hu)
set_option maxRecDepth 100000 in
set_option maxHeartbeats 8000000 in
theorem law_ZoneRepeats (z : Zn) (vT vR : Value) (t : Int) (w : World) (hfs : z.form.size ≤ 2000000) (hT : Rd Trn.cells 4 w vT z.table) (hR : Rd Rule.cells 11 w vR z.tail) (hm : HasMax w) :
    Calls Tryz.prog 4 #[z.v vT vR, .int .i64 t] w fun e w' => e = .returned (.bool true) ∧ Below w.heap.size w w' := by
  have HA := Lib.hid (fun W (hb : Below w.heap.size w W) => awake22_any W (hm.on hb))
  have HG := Lib.hid (fun W (hb : Below w.heap.size w W) => great_any z vT vR W (hT.on hb) (hR.on hb))
  have HV := Lib.hid (fun hll W (hb : Below w.heap.size w W) => r22_Valid z vT vR W (hT.on hb) (hR.on hb) hfs hll)
  have HT := Lib.hid (fun hll t W (hb : Below w.heap.size w W) => zAt_any z vT vR t W (hm.on hb) (hT.on hb) (hR.on hb) (by omega) hll)
  obtain ⟨AT, cT, rfl⟩ := rd_vf hT
  obtain ⟨AR, cR, rfl⟩ := rd_vf hR
  clear hT hR hm
  have b0 := Blk.new w #[.string z.nm, .int .i64 z.first.off, .int .i64 z.first.sv, .string z.first.nm, .slice AT z.table.length cT, .slice AR z.tail.length cR, .int .i64 z.off, .string z.form, .int .i64 z.year] 27
  have hB1 : Below w.heap.size w (w.alloc (.cells #[.string z.nm, .int .i64 z.first.off, .int .i64 z.first.sv, .string z.first.nm, .slice AT z.table.length cT, .slice AR z.tail.length cR, .int .i64 z.off, .string z.form, .int .i64 z.year] 27)) := (Below.refl _ _).alloc (Nat.le_refl _) _
  unfold TrueEnd at HV
  unfold Zn.v at HG HV HT ⊢
  go_enter Tryz.func4, Tryz.ntmps4
  go_wp2_with fail
  generalize w.alloc (.cells #[.string z.nm, .int .i64 z.first.off, .int .i64 z.first.sv, .string z.first.nm, .slice AT z.table.length cT, .slice AR z.tail.length cR, .int .i64 z.off, .string z.form, .int .i64 z.year] 27) = W at *
  have hw : w.heap.size ≤ W.heap.size := hB1.size
  refine (HA.out W hB1).mono ?_
  rintro e w1 ⟨rfl, hb1⟩
  clear HA
  have KZ := b0.below hb1 b0.lt
  have KL := KZ.lt
  have z0 := blk_cl KZ 0 _ rfl
  have z1 := blk_cl KZ 1 _ rfl
  have z2 := blk_cl KZ 2 _ rfl
  have z3 := blk_cl KZ 3 _ rfl
  have z4 := blk_cl KZ 4 _ rfl
  have z5 := blk_cl KZ 5 _ rfl
  have z6 := blk_cl KZ 6 _ rfl
  have z7 := blk_cl KZ 7 _ rfl
  have z8 := blk_cl KZ 8 _ rfl
  go_wp2_with fail
  refine (HG.out w1 (hB1.trans (hb1.mono hw))).mono ?_
  rintro e w2 ⟨rfl, hb2⟩
  clear HG
  have hb2 := hb1.trans (hb2.mono hb1.size)
  clear KZ KL z0 z1 z2 z3 z4 z5 z6 z7 z8
  cases hg : greatB z.table.length z.tail.length with
  | true =>
    clear hg
    go_wp2
    go_ret
    exact ⟨rfl, hB1.trans (hb2.mono hw)⟩
  | false =>
    have hll := great_parts hg
    clear hg
    have KZ := b0.below hb2 b0.lt
    have KL := KZ.lt
    have z0 := blk_cl KZ 0 _ rfl
    have z1 := blk_cl KZ 1 _ rfl
    have z2 := blk_cl KZ 2 _ rfl
    have z3 := blk_cl KZ 3 _ rfl
    have z4 := blk_cl KZ 4 _ rfl
    have z5 := blk_cl KZ 5 _ rfl
    have z6 := blk_cl KZ 6 _ rfl
    have z7 := blk_cl KZ 7 _ rfl
    have z8 := blk_cl KZ 8 _ rfl
    have HV1 := Lib.hid (HV.out hll w2 (hB1.trans (hb2.mono hw)))
    have HT := Lib.hid (HT.out hll)
    clear hll HV
    go_wp2_with fail
    refine HV1.out.mono ?_
    rintro e w3 ⟨b, rfl, hvb, hb3⟩
    have hb3 := hb2.trans (hb3.mono hb2.size)
    have hB3 := hB1.trans (hb3.mono hw)
    clear KZ KL z0 z1 z2 z3 z4 z5 z6 z7 z8 HV1
    cases b
    · clear hvb
      go_wp2
      go_ret
      exact ⟨rfl, hB3⟩
    · have hv := hvb rfl
      clear hvb
      have KZ := b0.below hb3 b0.lt
      have KL := KZ.lt
      have z0 := blk_cl KZ 0 _ rfl
      have z1 := blk_cl KZ 1 _ rfl
      have z2 := blk_cl KZ 2 _ rfl
      have z3 := blk_cl KZ 3 _ rfl
      have z4 := blk_cl KZ 4 _ rfl
      have z5 := blk_cl KZ 5 _ rfl
      have z6 := blk_cl KZ 6 _ rfl
      have z7 := blk_cl KZ 7 _ rfl
      have z8 := blk_cl KZ 8 _ rfl
      by_cases hn : z.tail.length = 0
      · have hd : ((z.tail.length : Int) == 0) = true := by rw [hn]; rfl
        clear hv HT
        go_wp2
        go_ret
        exact ⟨rfl, hB3⟩
      · have hd : ((z.tail.length : Int) == 0) = false := by rw [beq_eq_false_iff_ne]; omega
        have hne : z.tail ≠ [] := fun h => hn (by rw [h]; rfl)
        have ok := valid_tail hv hne
        have y1 := ok.y1
        have y2 := ok.y2
        by_cases c1 : t < -62135596800
        · clear hv HT ok hne
          go_wp2
          go_ret
          exact ⟨rfl, hB3⟩
        by_cases c2 : 240744960000 ≤ t
        · clear hv HT ok hne
          go_wp2
          go_ret
          exact ⟨rfl, hB3⟩
        by_cases c3 : t < (z.year + 11) * 31557600 - 62168000000
        · clear hv HT ok hne
          go_wp2
          go_ret
          exact ⟨rfl, hB3⟩
        have HQ := Lib.hid (show z.typF (t + 12622780800) = z.typF t from (tail_repeats hv hne (by omega) (by unfold PER; omega) (by omega)).symm)
        have HAT := Lib.hid (fun u (h1 : -62135596800 ≤ u) (h2 : u < 253402300800) => show z.atV u = (z.typF u, 0) from by
          unfold Zn.atV inT
          rw [if_neg (by simp [hv]), if_neg (by simp; omega)])
        clear hv ok hne
        go_wp2_with fail
        refine (HT.out t w3 hB3).mono ?_
        rintro e w4 ⟨rfl, hb4⟩
        rw [HAT.out t (by omega) (by omega)]
        have hb4 := hb3.trans (hb4.mono hb3.size)
        clear KZ KL z0 z1 z2 z3 z4 z5 z6 z7 z8
        have KZ := b0.below hb4 b0.lt
        have KL := KZ.lt
        have z0 := blk_cl KZ 0 _ rfl
        have z1 := blk_cl KZ 1 _ rfl
        have z2 := blk_cl KZ 2 _ rfl
        have z3 := blk_cl KZ 3 _ rfl
        have z4 := blk_cl KZ 4 _ rfl
        have z5 := blk_cl KZ 5 _ rfl
        have z6 := blk_cl KZ 6 _ rfl
        have z7 := blk_cl KZ 7 _ rfl
        have z8 := blk_cl KZ 8 _ rfl
        have HT2 := Lib.hid (fun W (hb : Below w.heap.size w W) => show Calls Tryz.prog 17 _ W fun e w' => e = .returned (atR (z.typF t, 0)) ∧ Below W.heap.size W w' from by
          have h := HT.out (t + 12622780800) W hb
          rw [HAT.out (t + 12622780800) (by omega) (by omega), HQ.out] at h
          exact h)
        clear HT HAT HQ
        generalize z.typF t = Ty at *
        have hne := fun W => eqTy Ty Ty W
        have hdt : decide (Ty = Ty) = true := decide_eq_true rfl
        unfold atR Typ.val at HT2 ⊢
        dsimp only at HT2 ⊢
        have bA := Blk.new w4 #[.int .i64 Ty.off, .int .i64 Ty.sv, .string Ty.nm] 23
        have hbA : Below W.heap.size W (w4.alloc (.cells #[.int .i64 Ty.off, .int .i64 Ty.sv, .string Ty.nm] 23)) := hb4.alloc hb4.size _
        go_wp2_with fail
        generalize w4.alloc (.cells #[.int .i64 Ty.off, .int .i64 Ty.sv, .string Ty.nm] 23) = wA at *
        refine (HT2.out wA (hB1.trans (hbA.mono hw))).mono ?_
        rintro e w5 ⟨rfl, hb5⟩
        have bA5 := bA.below hb5 bA.lt
        have a0 := blk_cl bA5 0 _ rfl
        have a1 := blk_cl bA5 1 _ rfl
        have a2 := blk_cl bA5 2 _ rfl
        have al := bA5.lt
        have hb5 := hbA.trans (hb5.mono hbA.size)
        go_wp2
        go_ret
        exact ⟨ret1 (vbool (by simp)), hB1.trans ((hb5.alloc hb5.size _).mono hw)⟩

end Go.Proofs.YtdpkolnfbimheaaGreat

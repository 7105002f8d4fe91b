/- The law StampCompares. Printed by gen_lawsc.py. -/
import Derived.Test.YtdafcipilknecaaGreatDoorGSc
import Derived.Test.YtdafcipilknecaaGreatDoorGFew
import Derived.Test.YtdafcipilknecaaGreatDoorGSaw
import Derived.Test.YtdafcipilknecaaGreatDoorGRp
namespace Go.Proofs.YtdafcipilknecaaGreatDoor
set_option linter.unusedSimpArgs false
set_option linter.unusedVariables false
open Go.ChangeShapes Go.WideShapes Go.ChangeAt Go.RowKit Go.Sort Go.Lib
theorem cmpI_swap (x y : Int) : cmpI y x = -cmpI x y := by
 unfold cmpI
 by_cases h1 : x < y
 ·have h2 : ¬ y < x := by omega
  simp [h1, h2]
 ·by_cases h2 : y < x
  ·simp [h1, h2]
  ·simp [h1, h2]
theorem few_form {L : List VV} (h : fewH L = true) : ∀ x ∈ L, ∀ y ∈ x.zs, y.z.form.size ≤ 2000000 := by
 unfold fewH at h
 simp only [Bool.and_eq_true, decide_eq_true_eq, Bool.not_eq_true', List.any_eq_false] at h
 intro x hx y hy
 have h4 := h.2 x hx
 unfold bigVV at h4
 simp only [Bool.not_eq_true, Bool.or_eq_false_iff, decide_eq_false_iff_not, List.any_eq_false] at h4
 have := bigZn_parts (by simpa using h4.2.2.2.2 y hy)
 omega
theorem cmp_cases (L : List VV) (v : ByteArray) (a b : Stm) :
  (¬ (validH L = true ∧ stmB a = true ∧ stmB b = true) ∧ cmpF L v a b = (0, 1) ∧ spnF L v a b = (0, 0, 1) ∧ (validH L = false → rsvF L v a = (0, 1))) ∨
  ((validH L = true ∧ stmB a = true ∧ stmB b = true) ∧ ∃ x g, rsvF L v a = (x, g) ∧ g ≠ 0 ∧ cmpF L v a b = (0, g) ∧ spnF L v a b = (0, 0, g)) ∨
  ((validH L = true ∧ stmB a = true ∧ stmB b = true) ∧ ∃ x y i, rsvF L v a = (x, 0) ∧ rsvF L v b = (y, i) ∧ i ≠ 0 ∧ cmpF L v a b = (0, i) ∧ spnF L v a b = (0, 0, i)) ∨
  ((validH L = true ∧ stmB a = true ∧ stmB b = true) ∧ ∃ x y, rsvF L v a = (x, 0) ∧ rsvF L v b = (y, 0) ∧ cmpF L v a b = (cmpI x y, 0) ∧ cmpF L v b a = (cmpI y x, 0) ∧ spnF L v a b = if y ≤ x then (0, 0, 2) else (x, y, 0)) := by
 by_cases h : validH L = true ∧ stmB a = true ∧ stmB b = true
 ·obtain ⟨⟨x, g⟩, hx⟩ : ∃ r, rsv1 L v a = r := ⟨_, rfl⟩
  obtain ⟨⟨y, i⟩, hy⟩ : ∃ r, rsv1 L v b = r := ⟨_, rfl⟩
  have ha : rsvF L v a = (x, g) := by unfold rsvF; rw [if_pos ⟨h.1, h.2.1⟩, hx]
  have hb : rsvF L v b = (y, i) := by unfold rsvF; rw [if_pos ⟨h.1, h.2.2⟩, hy]
  by_cases hg : g = 0
  ·subst hg
   have ht := two_0 h hx hy
   by_cases hi : i = 0
   ·subst hi
    have ht2 := two_0 (L := L) (v := v) (a := b) (b := a) ⟨h.1, h.2.2, h.2.1⟩ hy hx
    refine .inr (.inr (.inr ⟨h, x, y, ha, hb, ?_, ?_, ?_⟩))
    ·unfold cmpF; rw [ht, if_pos rfl]
    ·unfold cmpF; rw [ht2, if_pos rfl]
    ·unfold spnF; rw [ht, if_pos rfl]
   ·refine .inr (.inr (.inl ⟨h, x, y, i, ha, hb, hi, ?_, ?_⟩))
    ·unfold cmpF; rw [ht, if_neg hi]
    ·unfold spnF; rw [ht, if_neg hi]
  ·have ht := two_e h hx hg
   refine .inr (.inl ⟨h, x, g, ha, hg, ?_, ?_⟩)
   ·unfold cmpF; rw [ht, if_neg hg]
   ·unfold spnF; rw [ht, if_neg hg]
 ·have ht := two_1 (v := v) h
  refine .inl ⟨h, ?_, ?_, fun hv => ?_⟩
  ·unfold cmpF; rw [ht, if_neg (by decide)]
  ·unfold spnF; rw [ht, if_neg (by decide)]
  ·unfold rsvF; rw [if_neg (by rw [hv]; simp)]
set_option maxRecDepth 100000 in
set_option maxHeartbeats 6000000 in
theorem law_StampCompares (L : List VV) (vH : Value) (vn : ByteArray) (a b : Stm) (w : World) (hcap : ∀ x ∈ L, CapV x) (hg : GoodH w vH L) (hm : HasMax w) :
  Calls Tryz.prog 3 #[.agg #[vH], .string vn, .agg (encStm a).toArray, .agg (encStm b).toArray] w fun e w' => e = .returned (.bool true) ∧ Below w.heap.size w w' := by
 have HA := Lib.hid (fun W (hb : Below w.heap.size w W) => awake25_any W (hm.on hb))
 have HF := Lib.hid (fun W (hb : Below w.heap.size w W) => few25_any L vH W (hg.on hb))
 have HC := Lib.hid (fun (hk : OkH L) W (hb : Below w.heap.size w W) => Compare_any L vH vn a b W (hm.on hb) (hg.on hb) hk)
 have HC2 := Lib.hid (fun (hk : OkH L) W (hb : Below w.heap.size w W) => Compare_any L vH vn b a W (hm.on hb) (hg.on hb) hk)
 have HS := Lib.hid (fun (hk : OkH L) W (hb : Below w.heap.size w W) => Span_any L vH vn a b W (hm.on hb) (hg.on hb) hk)
 have HV := Lib.hid (fun (hk : OkH L) hfs W (hb : Below w.heap.size w W) => r24_Valid L vH W (hg.on hb) hk hfs hcap)
 have HVA := Lib.hid (fun W => r25_Valid a W)
 have HVB := Lib.hid (fun W => r25_Valid b W)
 have HRA := Lib.hid (fun (hk : OkH L) W (hb : Below w.heap.size w W) => Resolve_his L vH vn a W (hm.on hb) (hg.on hb) hk)
 have HRB := Lib.hid (fun (hk : OkH L) W (hb : Below w.heap.size w W) => Resolve_his L vH vn b W (hm.on hb) (hg.on hb) hk)
 have HSD := Lib.hid (cmp_cases L vn a b)
 suffices HPOST : ∀ Post : Ending → World → Prop, Hid (∀ w', Below w.heap.size w w' → Post (.returned (.bool true)) w') → Calls Tryz.prog 3 #[.agg #[vH], .string vn, .agg (encStm a).toArray, .agg (encStm b).toArray] w Post from HPOST _ (Lib.hid fun w' h => ⟨rfl, h⟩)
 intro Post HP
 obtain ⟨A, c, rfl⟩ := rd_vf hg.r
 clear hg hm hcap
 obtain ⟨aa, az, ag, af⟩ := a
 obtain ⟨ba, bz, bg, bf⟩ := b
 unfold encStm at HC HC2 HS HVA HVB HRA HRB ⊢
 dsimp only at HC HC2 HS HVA HVB HRA HRB ⊢
 show Calls Tryz.prog 3 #[.agg #[.slice A L.length c], .string vn, .agg #[.int .i64 aa, .string az, .int .i64 ag, .int .i64 af], .agg #[.int .i64 ba, .string bz, .int .i64 bg, .int .i64 bf]] w _
 have b0 := ((Blk.new w #[.slice A L.length c] 24).alloc (.cells #[.int .i64 aa, .string az, .int .i64 ag, .int .i64 af] 28)).alloc (.cells #[.int .i64 ba, .string bz, .int .i64 bg, .int .i64 bf] 28)
 have b1 := (Blk.new (w.alloc (.cells #[.slice A L.length c] 24)) #[.int .i64 aa, .string az, .int .i64 ag, .int .i64 af] 28).alloc (.cells #[.int .i64 ba, .string bz, .int .i64 bg, .int .i64 bf] 28)
 have b2 := Blk.new ((w.alloc (.cells #[.slice A L.length c] 24)).alloc (.cells #[.int .i64 aa, .string az, .int .i64 ag, .int .i64 af] 28)) #[.int .i64 ba, .string bz, .int .i64 bg, .int .i64 bf] 28
 simp only [World.size_alloc] at b1 b2
 have hB1 : Below w.heap.size w (((w.alloc (.cells #[.slice A L.length c] 24)).alloc (.cells #[.int .i64 aa, .string az, .int .i64 ag, .int .i64 af] 28)).alloc (.cells #[.int .i64 ba, .string bz, .int .i64 bg, .int .i64 bf] 28)) := (((Below.refl _ _).alloc (Nat.le_refl _) _).alloc (by simp) _).alloc (by simp; omega) _
 go_enter Tryz.func3, Tryz.ntmps3
 go_wp2_with fail
 generalize ((w.alloc (.cells #[.slice A L.length c] 24)).alloc (.cells #[.int .i64 aa, .string az, .int .i64 ag, .int .i64 af] 28)).alloc (.cells #[.int .i64 ba, .string bz, .int .i64 bg, .int .i64 bf] 28) = W at *
 refine (HA.out W hB1).mono ?_
 rintro e w1 ⟨rfl, hb1⟩
 have hB2 := hB1.trans (hb1.mono hB1.size)
 have b0 := b0.below hb1 b0.lt
 have b1 := b1.below hb1 b1.lt
 have b2 := b2.below hb1 b2.lt
 have h0 := blk_cl b0 0 _ rfl
 have hl := b0.lt
 go_wp2_with fail
 refine (HF.out w1 hB2).mono ?_
 rintro e w2 ⟨rfl, hb2⟩
 have hB3 := hB2.trans (hb2.mono hB2.size)
 have b0 := b0.below hb2 b0.lt
 have b1 := b1.below hb2 b1.lt
 have b2 := b2.below hb2 b2.lt
 clear h0 hl hb1 hb2 HF hB1 hB2
 cases hf : fewH L
 case false =>
  clear hf
  go_wp2_with (go_at_call 6; refine (HA.out w2 hB3).mono ?_; rintro e w3 ⟨rfl, hb3⟩)
  exact HP.out _ (hB3.trans (hb3.mono hB3.size))
 have hok := (fewH_ok hf).1
 have hfs := few_form hf
 clear hf
 by_cases ha : (60 : Int) < (vn.size : Int)
 case pos =>
  have da := decide_eq_true ha
  go_wp2_with (go_at_call 6; refine (HA.out w2 hB3).mono ?_; rintro e w3 ⟨rfl, hb3⟩)
  exact HP.out _ (hB3.trans (hb3.mono hB3.size))
 have da := decide_eq_false ha
 have i0 := blk_cl b1 0 _ rfl
 have i1 := blk_cl b1 1 _ rfl
 have i2 := blk_cl b1 2 _ rfl
 have i3 := blk_cl b1 3 _ rfl
 have il := b1.lt
 have j0 := blk_cl b2 0 _ rfl
 have j1 := blk_cl b2 1 _ rfl
 have j2 := blk_cl b2 2 _ rfl
 have j3 := blk_cl b2 3 _ rfl
 have jl := b2.lt
 by_cases hz : (60 : Int) < (az.size : Int)
 case pos =>
  have dz := decide_eq_true hz
  go_wp2_with (go_at_call 6; refine (HA.out w2 hB3).mono ?_; rintro e w3 ⟨rfl, hb3⟩)
  exact HP.out _ (hB3.trans (hb3.mono hB3.size))
 have dz := decide_eq_false hz
 by_cases hy : (60 : Int) < (bz.size : Int)
 case pos =>
  have dy := decide_eq_true hy
  go_wp2_with (go_at_call 6; refine (HA.out w2 hB3).mono ?_; rintro e w3 ⟨rfl, hb3⟩)
  exact HP.out _ (hB3.trans (hb3.mono hB3.size))
 have dy := decide_eq_false hy
 clear ha hz hy HA
 have HC := Lib.hid (HC.out hok)
 have HC2 := Lib.hid (HC2.out hok)
 have HS := Lib.hid (HS.out hok)
 have HV := Lib.hid (HV.out hok hfs)
 have HRA := Lib.hid (HRA.out hok)
 have HRB := Lib.hid (HRB.out hok)
 clear hok hfs
 have h0 := blk_cl b0 0 _ rfl
 have hl := b0.lt
 clear i0 i1 i2 i3 il j0 j1 j2 j3 jl h0 hl
 have hqs := fun a b c d W => eqlSp a b c d W
 have hgd := gdSp
 rcases HSD.out with ⟨hno, hn, hs, hr⟩ | ⟨⟨hv, hsa, hsb⟩, x, g, hra, hg, hn, hs⟩ | ⟨⟨hv, hsa, hsb⟩, x, y, i, hra, hrb, hi0, hn, hs⟩ | ⟨⟨hv, hsa, hsb⟩, x, y, hra, hrb, hn, hn2, hs⟩
 ·clear HSD HC2
  rw [hn] at HC
  rw [hs] at HS
  dsimp only at HC HS
  clear hn hs
  obtain ⟨vL, hvL⟩ : ∃ q, validH L = q := ⟨_, rfl⟩
  rw [hvL] at HV
  obtain ⟨vA, hvA⟩ : ∃ q, stmB ⟨aa, az, ag, af⟩ = q := ⟨_, rfl⟩
  obtain ⟨vB, hvB⟩ : ∃ q, stmB ⟨ba, bz, bg, bf⟩ = q := ⟨_, rfl⟩
  rw [hvA] at HVA
  rw [hvB] at HVB
  have HNO := Lib.hid hno
  have HRN := Lib.hid hr
  clear hno hr
  generalize rsvF L vn ⟨ba, bz, bg, bf⟩ = rb at *
  obtain ⟨yb, ib⟩ := rb
  generalize rsvF L vn ⟨aa, az, ag, af⟩ = ra at *
  obtain ⟨xa, ga⟩ := ra
  dsimp only at HRA HRB
  have h0 := blk_cl b0 0 _ rfl
  have hl := b0.lt
  have i0 := blk_cl b1 0 _ rfl
  have i1 := blk_cl b1 1 _ rfl
  have i2 := blk_cl b1 2 _ rfl
  have i3 := blk_cl b1 3 _ rfl
  have il := b1.lt
  have j0 := blk_cl b2 0 _ rfl
  have j1 := blk_cl b2 1 _ rfl
  have j2 := blk_cl b2 2 _ rfl
  have j3 := blk_cl b2 3 _ rfl
  have jl := b2.lt
  go_wp2_with fail
  clear h0 hl i0 i1 i2 i3 il j0 j1 j2 j3 jl
  refine (HC.out w2 hB3).mono ?_
  rintro e w3 ⟨rfl, hb3⟩
  have hB4 := hB3.trans (hb3.mono hB3.size)
  have b0 := b0.below hb3 b0.lt
  have b1 := b1.below hb3 b1.lt
  have b2 := b2.below hb3 b2.lt
  clear hb3 hB3
  have h0 := blk_cl b0 0 _ rfl
  have hl := b0.lt
  have i0 := blk_cl b1 0 _ rfl
  have i1 := blk_cl b1 1 _ rfl
  have i2 := blk_cl b1 2 _ rfl
  have i3 := blk_cl b1 3 _ rfl
  have il := b1.lt
  have j0 := blk_cl b2 0 _ rfl
  have j1 := blk_cl b2 1 _ rfl
  have j2 := blk_cl b2 2 _ rfl
  have j3 := blk_cl b2 3 _ rfl
  have jl := b2.lt
  go_wp2_with fail
  clear h0 hl i0 i1 i2 i3 il j0 j1 j2 j3 jl
  refine (HS.out w3 hB4).mono ?_
  rintro e w4 ⟨rfl, hb4⟩
  have hB5 := (hB4.trans (hb4.mono hB4.size)).alloc (by have := hB4.size; have := hb4.size; omega) (.cells #[.int .i64 0, .int .i64 0] 35)
  have b0 := (b0.below hb4 b0.lt).alloc (.cells #[.int .i64 0, .int .i64 0] 35)
  have b1 := (b1.below hb4 b1.lt).alloc (.cells #[.int .i64 0, .int .i64 0] 35)
  have b2 := (b2.below hb4 b2.lt).alloc (.cells #[.int .i64 0, .int .i64 0] 35)
  have bs := Blk.new w4 #[.int .i64 0, .int .i64 0] 35
  clear hb4 hB4
  have h0 := blk_cl b0 0 _ rfl
  have hl := b0.lt
  go_wp2_with fail
  clear h0 hl
  refine (HV.out _ hB5).mono ?_
  rintro e w6 ⟨rfl, hb6⟩
  have hB6 := hB5.trans (hb6.mono hB5.size)
  have b0 := b0.below hb6 b0.lt
  have b1 := b1.below hb6 b1.lt
  have b2 := b2.below hb6 b2.lt
  have bs := bs.below hb6 bs.lt
  clear hb6 hB5
  cases vL
  ·skip
   have k0 := blk_cl bs 0 _ rfl
   have k1 := blk_cl bs 1 _ rfl
   have kl := bs.lt
   go_wp2
   exact HP.out _ hB6
  have i0 := blk_cl b1 0 _ rfl
  have i1 := blk_cl b1 1 _ rfl
  have i2 := blk_cl b1 2 _ rfl
  have i3 := blk_cl b1 3 _ rfl
  have il := b1.lt
  go_wp2_with fail
  clear i0 i1 i2 i3 il
  refine (HVA.out _).mono ?_
  rintro e w7 ⟨rfl, hb7⟩
  have hB7 := hB6.trans (hb7.mono hB6.size)
  have b0 := b0.below hb7 b0.lt
  have b1 := b1.below hb7 b1.lt
  have b2 := b2.below hb7 b2.lt
  have bs := bs.below hb7 bs.lt
  clear hb7 hB6
  cases vA
  ·skip
   have k0 := blk_cl bs 0 _ rfl
   have k1 := blk_cl bs 1 _ rfl
   have kl := bs.lt
   go_wp2
   exact HP.out _ hB7
  have j0 := blk_cl b2 0 _ rfl
  have j1 := blk_cl b2 1 _ rfl
  have j2 := blk_cl b2 2 _ rfl
  have j3 := blk_cl b2 3 _ rfl
  have jl := b2.lt
  go_wp2_with fail
  clear j0 j1 j2 j3 jl
  refine (HVB.out _).mono ?_
  rintro e w8 ⟨rfl, hb8⟩
  have hB8 := hB7.trans (hb8.mono hB7.size)
  have b0 := b0.below hb8 b0.lt
  have b1 := b1.below hb8 b1.lt
  have b2 := b2.below hb8 b2.lt
  have bs := bs.below hb8 bs.lt
  clear hb8 hB7
  cases vB
  ·skip
   have k0 := blk_cl bs 0 _ rfl
   have k1 := blk_cl bs 1 _ rfl
   have kl := bs.lt
   go_wp2
   exact HP.out _ hB8
  exact (HNO.out ⟨hvL, hvA, hvB⟩).elim
 ·clear HSD HC2
  rw [hn] at HC
  rw [hs] at HS
  rw [hv] at HV
  rw [hsa] at HVA
  rw [hsb] at HVB
  rw [hra] at HRA
  generalize rsvF L vn ⟨ba, bz, bg, bf⟩ = rb at *
  obtain ⟨yb, ib⟩ := rb
  dsimp only at HC HS HRA HRB
  have dg : (g != 0) = true := bne_iff_ne.2 hg
  have dg2 : (g == 0) = false := by rw [beq_eq_false_iff_ne]; exact hg
  clear hn hs hsa hsb hra hg
  have h0 := blk_cl b0 0 _ rfl
  have hl := b0.lt
  have i0 := blk_cl b1 0 _ rfl
  have i1 := blk_cl b1 1 _ rfl
  have i2 := blk_cl b1 2 _ rfl
  have i3 := blk_cl b1 3 _ rfl
  have il := b1.lt
  have j0 := blk_cl b2 0 _ rfl
  have j1 := blk_cl b2 1 _ rfl
  have j2 := blk_cl b2 2 _ rfl
  have j3 := blk_cl b2 3 _ rfl
  have jl := b2.lt
  go_wp2_with fail
  clear h0 hl i0 i1 i2 i3 il j0 j1 j2 j3 jl
  refine (HC.out w2 hB3).mono ?_
  rintro e w3 ⟨rfl, hb3⟩
  have hB4 := hB3.trans (hb3.mono hB3.size)
  have b0 := b0.below hb3 b0.lt
  have b1 := b1.below hb3 b1.lt
  have b2 := b2.below hb3 b2.lt
  clear hb3 hB3
  have h0 := blk_cl b0 0 _ rfl
  have hl := b0.lt
  have i0 := blk_cl b1 0 _ rfl
  have i1 := blk_cl b1 1 _ rfl
  have i2 := blk_cl b1 2 _ rfl
  have i3 := blk_cl b1 3 _ rfl
  have il := b1.lt
  have j0 := blk_cl b2 0 _ rfl
  have j1 := blk_cl b2 1 _ rfl
  have j2 := blk_cl b2 2 _ rfl
  have j3 := blk_cl b2 3 _ rfl
  have jl := b2.lt
  go_wp2_with fail
  clear h0 hl i0 i1 i2 i3 il j0 j1 j2 j3 jl
  refine (HS.out w3 hB4).mono ?_
  rintro e w4 ⟨rfl, hb4⟩
  have hB5 := (hB4.trans (hb4.mono hB4.size)).alloc (by have := hB4.size; have := hb4.size; omega) (.cells #[.int .i64 0, .int .i64 0] 35)
  have b0 := (b0.below hb4 b0.lt).alloc (.cells #[.int .i64 0, .int .i64 0] 35)
  have b1 := (b1.below hb4 b1.lt).alloc (.cells #[.int .i64 0, .int .i64 0] 35)
  have b2 := (b2.below hb4 b2.lt).alloc (.cells #[.int .i64 0, .int .i64 0] 35)
  have bs := Blk.new w4 #[.int .i64 0, .int .i64 0] 35
  clear hb4 hB4
  have h0 := blk_cl b0 0 _ rfl
  have hl := b0.lt
  go_wp2_with fail
  clear h0 hl
  refine (HV.out _ hB5).mono ?_
  rintro e w6 ⟨rfl, hb6⟩
  have hB6 := hB5.trans (hb6.mono hB5.size)
  have b0 := b0.below hb6 b0.lt
  have b1 := b1.below hb6 b1.lt
  have b2 := b2.below hb6 b2.lt
  have bs := bs.below hb6 bs.lt
  clear hb6 hB5
  have i0 := blk_cl b1 0 _ rfl
  have i1 := blk_cl b1 1 _ rfl
  have i2 := blk_cl b1 2 _ rfl
  have i3 := blk_cl b1 3 _ rfl
  have il := b1.lt
  go_wp2_with fail
  clear i0 i1 i2 i3 il
  refine (HVA.out _).mono ?_
  rintro e w7 ⟨rfl, hb7⟩
  have hB7 := hB6.trans (hb7.mono hB6.size)
  have b0 := b0.below hb7 b0.lt
  have b1 := b1.below hb7 b1.lt
  have b2 := b2.below hb7 b2.lt
  have bs := bs.below hb7 bs.lt
  clear hb7 hB6
  have j0 := blk_cl b2 0 _ rfl
  have j1 := blk_cl b2 1 _ rfl
  have j2 := blk_cl b2 2 _ rfl
  have j3 := blk_cl b2 3 _ rfl
  have jl := b2.lt
  go_wp2_with fail
  clear j0 j1 j2 j3 jl
  refine (HVB.out _).mono ?_
  rintro e w8 ⟨rfl, hb8⟩
  have hB8 := hB7.trans (hb8.mono hB7.size)
  have b0 := b0.below hb8 b0.lt
  have b1 := b1.below hb8 b1.lt
  have b2 := b2.below hb8 b2.lt
  have bs := bs.below hb8 bs.lt
  clear hb8 hB7
  have h0 := blk_cl b0 0 _ rfl
  have hl := b0.lt
  have i0 := blk_cl b1 0 _ rfl
  have i1 := blk_cl b1 1 _ rfl
  have i2 := blk_cl b1 2 _ rfl
  have i3 := blk_cl b1 3 _ rfl
  have il := b1.lt
  go_wp2_with fail
  clear h0 hl i0 i1 i2 i3 il
  refine (HRA.out _ hB8).mono ?_
  rintro e w9 ⟨rfl, hb9⟩
  have hB9 := hB8.trans (hb9.mono hB8.size)
  have b0 := b0.below hb9 b0.lt
  have b1 := b1.below hb9 b1.lt
  have b2 := b2.below hb9 b2.lt
  have bs := bs.below hb9 bs.lt
  clear hb9 hB8
  have h0 := blk_cl b0 0 _ rfl
  have hl := b0.lt
  have j0 := blk_cl b2 0 _ rfl
  have j1 := blk_cl b2 1 _ rfl
  have j2 := blk_cl b2 2 _ rfl
  have j3 := blk_cl b2 3 _ rfl
  have jl := b2.lt
  go_wp2_with fail
  clear h0 hl j0 j1 j2 j3 jl
  refine (HRB.out _ hB9).mono ?_
  rintro e wA ⟨rfl, hbA⟩
  have hBA := hB9.trans (hbA.mono hB9.size)
  have b0 := b0.below hbA b0.lt
  have b1 := b1.below hbA b1.lt
  have b2 := b2.below hbA b2.lt
  have bs := bs.below hbA bs.lt
  clear hbA hB9
  have k0 := blk_cl bs 0 _ rfl
  have k1 := blk_cl bs 1 _ rfl
  have kl := bs.lt
  go_wp2
  exact HP.out _ hBA
 ·clear HSD HC2
  rw [hn] at HC
  rw [hs] at HS
  rw [hv] at HV
  rw [hsa] at HVA
  rw [hsb] at HVB
  rw [hra] at HRA
  rw [hrb] at HRB
  dsimp only at HC HS HRA HRB
  have dg : (i != 0) = true := bne_iff_ne.2 hi0
  have dg2 : (i == 0) = false := by rw [beq_eq_false_iff_ne]; exact hi0
  clear hn hs hsa hsb hra hrb hi0
  have h0 := blk_cl b0 0 _ rfl
  have hl := b0.lt
  have i0 := blk_cl b1 0 _ rfl
  have i1 := blk_cl b1 1 _ rfl
  have i2 := blk_cl b1 2 _ rfl
  have i3 := blk_cl b1 3 _ rfl
  have il := b1.lt
  have j0 := blk_cl b2 0 _ rfl
  have j1 := blk_cl b2 1 _ rfl
  have j2 := blk_cl b2 2 _ rfl
  have j3 := blk_cl b2 3 _ rfl
  have jl := b2.lt
  go_wp2_with fail
  clear h0 hl i0 i1 i2 i3 il j0 j1 j2 j3 jl
  refine (HC.out w2 hB3).mono ?_
  rintro e w3 ⟨rfl, hb3⟩
  have hB4 := hB3.trans (hb3.mono hB3.size)
  have b0 := b0.below hb3 b0.lt
  have b1 := b1.below hb3 b1.lt
  have b2 := b2.below hb3 b2.lt
  clear hb3 hB3
  have h0 := blk_cl b0 0 _ rfl
  have hl := b0.lt
  have i0 := blk_cl b1 0 _ rfl
  have i1 := blk_cl b1 1 _ rfl
  have i2 := blk_cl b1 2 _ rfl
  have i3 := blk_cl b1 3 _ rfl
  have il := b1.lt
  have j0 := blk_cl b2 0 _ rfl
  have j1 := blk_cl b2 1 _ rfl
  have j2 := blk_cl b2 2 _ rfl
  have j3 := blk_cl b2 3 _ rfl
  have jl := b2.lt
  go_wp2_with fail
  clear h0 hl i0 i1 i2 i3 il j0 j1 j2 j3 jl
  refine (HS.out w3 hB4).mono ?_
  rintro e w4 ⟨rfl, hb4⟩
  have hB5 := (hB4.trans (hb4.mono hB4.size)).alloc (by have := hB4.size; have := hb4.size; omega) (.cells #[.int .i64 0, .int .i64 0] 35)
  have b0 := (b0.below hb4 b0.lt).alloc (.cells #[.int .i64 0, .int .i64 0] 35)
  have b1 := (b1.below hb4 b1.lt).alloc (.cells #[.int .i64 0, .int .i64 0] 35)
  have b2 := (b2.below hb4 b2.lt).alloc (.cells #[.int .i64 0, .int .i64 0] 35)
  have bs := Blk.new w4 #[.int .i64 0, .int .i64 0] 35
  clear hb4 hB4
  have h0 := blk_cl b0 0 _ rfl
  have hl := b0.lt
  go_wp2_with fail
  clear h0 hl
  refine (HV.out _ hB5).mono ?_
  rintro e w6 ⟨rfl, hb6⟩
  have hB6 := hB5.trans (hb6.mono hB5.size)
  have b0 := b0.below hb6 b0.lt
  have b1 := b1.below hb6 b1.lt
  have b2 := b2.below hb6 b2.lt
  have bs := bs.below hb6 bs.lt
  clear hb6 hB5
  have i0 := blk_cl b1 0 _ rfl
  have i1 := blk_cl b1 1 _ rfl
  have i2 := blk_cl b1 2 _ rfl
  have i3 := blk_cl b1 3 _ rfl
  have il := b1.lt
  go_wp2_with fail
  clear i0 i1 i2 i3 il
  refine (HVA.out _).mono ?_
  rintro e w7 ⟨rfl, hb7⟩
  have hB7 := hB6.trans (hb7.mono hB6.size)
  have b0 := b0.below hb7 b0.lt
  have b1 := b1.below hb7 b1.lt
  have b2 := b2.below hb7 b2.lt
  have bs := bs.below hb7 bs.lt
  clear hb7 hB6
  have j0 := blk_cl b2 0 _ rfl
  have j1 := blk_cl b2 1 _ rfl
  have j2 := blk_cl b2 2 _ rfl
  have j3 := blk_cl b2 3 _ rfl
  have jl := b2.lt
  go_wp2_with fail
  clear j0 j1 j2 j3 jl
  refine (HVB.out _).mono ?_
  rintro e w8 ⟨rfl, hb8⟩
  have hB8 := hB7.trans (hb8.mono hB7.size)
  have b0 := b0.below hb8 b0.lt
  have b1 := b1.below hb8 b1.lt
  have b2 := b2.below hb8 b2.lt
  have bs := bs.below hb8 bs.lt
  clear hb8 hB7
  have h0 := blk_cl b0 0 _ rfl
  have hl := b0.lt
  have i0 := blk_cl b1 0 _ rfl
  have i1 := blk_cl b1 1 _ rfl
  have i2 := blk_cl b1 2 _ rfl
  have i3 := blk_cl b1 3 _ rfl
  have il := b1.lt
  go_wp2_with fail
  clear h0 hl i0 i1 i2 i3 il
  refine (HRA.out _ hB8).mono ?_
  rintro e w9 ⟨rfl, hb9⟩
  have hB9 := hB8.trans (hb9.mono hB8.size)
  have b0 := b0.below hb9 b0.lt
  have b1 := b1.below hb9 b1.lt
  have b2 := b2.below hb9 b2.lt
  have bs := bs.below hb9 bs.lt
  clear hb9 hB8
  have h0 := blk_cl b0 0 _ rfl
  have hl := b0.lt
  have j0 := blk_cl b2 0 _ rfl
  have j1 := blk_cl b2 1 _ rfl
  have j2 := blk_cl b2 2 _ rfl
  have j3 := blk_cl b2 3 _ rfl
  have jl := b2.lt
  go_wp2_with fail
  clear h0 hl j0 j1 j2 j3 jl
  refine (HRB.out _ hB9).mono ?_
  rintro e wA ⟨rfl, hbA⟩
  have hBA := hB9.trans (hbA.mono hB9.size)
  have b0 := b0.below hbA b0.lt
  have b1 := b1.below hbA b1.lt
  have b2 := b2.below hbA b2.lt
  have bs := bs.below hbA bs.lt
  clear hbA hB9
  have k0 := blk_cl bs 0 _ rfl
  have k1 := blk_cl bs 1 _ rfl
  have kl := bs.lt
  go_wp2
  exact HP.out _ hBA
 ·clear HSD
  rw [hn] at HC
  rw [hs] at HS
  rw [hv] at HV
  rw [hsa] at HVA
  rw [hsb] at HVB
  rw [hra] at HRA
  rw [hrb] at HRB
  rw [hn2] at HC2
  dsimp only at HC HC2 HRA HRB
  clear hn hs hsa hsb hra hrb hn2
  by_cases hxy : x < y
  ·rw [show cmpI x y = -1 from if_pos hxy] at HC
   rw [show cmpI y x = 1 from by rw [cmpI_swap, show cmpI x y = -1 from if_pos hxy]; rfl] at HC2
   rw [if_neg (by omega)] at HS
   have d1 : decide (x < y) = true := decide_eq_true hxy
   have d2 : (x == y) = false := by rw [beq_eq_false_iff_ne]; omega
   have d3 : decide (y ≤ x) = false := decide_eq_false (by omega)
   clear hxy
   dsimp only at HS
   have h0 := blk_cl b0 0 _ rfl
   have hl := b0.lt
   have i0 := blk_cl b1 0 _ rfl
   have i1 := blk_cl b1 1 _ rfl
   have i2 := blk_cl b1 2 _ rfl
   have i3 := blk_cl b1 3 _ rfl
   have il := b1.lt
   have j0 := blk_cl b2 0 _ rfl
   have j1 := blk_cl b2 1 _ rfl
   have j2 := blk_cl b2 2 _ rfl
   have j3 := blk_cl b2 3 _ rfl
   have jl := b2.lt
   go_wp2_with fail
   clear h0 hl i0 i1 i2 i3 il j0 j1 j2 j3 jl
   refine (HC.out w2 hB3).mono ?_
   rintro e w3 ⟨rfl, hb3⟩
   have hB4 := hB3.trans (hb3.mono hB3.size)
   have b0 := b0.below hb3 b0.lt
   have b1 := b1.below hb3 b1.lt
   have b2 := b2.below hb3 b2.lt
   clear hb3 hB3
   have h0 := blk_cl b0 0 _ rfl
   have hl := b0.lt
   have i0 := blk_cl b1 0 _ rfl
   have i1 := blk_cl b1 1 _ rfl
   have i2 := blk_cl b1 2 _ rfl
   have i3 := blk_cl b1 3 _ rfl
   have il := b1.lt
   have j0 := blk_cl b2 0 _ rfl
   have j1 := blk_cl b2 1 _ rfl
   have j2 := blk_cl b2 2 _ rfl
   have j3 := blk_cl b2 3 _ rfl
   have jl := b2.lt
   go_wp2_with fail
   clear h0 hl i0 i1 i2 i3 il j0 j1 j2 j3 jl
   refine (HS.out w3 hB4).mono ?_
   rintro e w4 ⟨rfl, hb4⟩
   have hB5 := (hB4.trans (hb4.mono hB4.size)).alloc (by have := hB4.size; have := hb4.size; omega) (.cells #[.int .i64 x, .int .i64 y] 35)
   have b0 := (b0.below hb4 b0.lt).alloc (.cells #[.int .i64 x, .int .i64 y] 35)
   have b1 := (b1.below hb4 b1.lt).alloc (.cells #[.int .i64 x, .int .i64 y] 35)
   have b2 := (b2.below hb4 b2.lt).alloc (.cells #[.int .i64 x, .int .i64 y] 35)
   have bs := Blk.new w4 #[.int .i64 x, .int .i64 y] 35
   clear hb4 hB4
   have h0 := blk_cl b0 0 _ rfl
   have hl := b0.lt
   go_wp2_with fail
   clear h0 hl
   refine (HV.out _ hB5).mono ?_
   rintro e w6 ⟨rfl, hb6⟩
   have hB6 := hB5.trans (hb6.mono hB5.size)
   have b0 := b0.below hb6 b0.lt
   have b1 := b1.below hb6 b1.lt
   have b2 := b2.below hb6 b2.lt
   have bs := bs.below hb6 bs.lt
   clear hb6 hB5
   have i0 := blk_cl b1 0 _ rfl
   have i1 := blk_cl b1 1 _ rfl
   have i2 := blk_cl b1 2 _ rfl
   have i3 := blk_cl b1 3 _ rfl
   have il := b1.lt
   go_wp2_with fail
   clear i0 i1 i2 i3 il
   refine (HVA.out _).mono ?_
   rintro e w7 ⟨rfl, hb7⟩
   have hB7 := hB6.trans (hb7.mono hB6.size)
   have b0 := b0.below hb7 b0.lt
   have b1 := b1.below hb7 b1.lt
   have b2 := b2.below hb7 b2.lt
   have bs := bs.below hb7 bs.lt
   clear hb7 hB6
   have j0 := blk_cl b2 0 _ rfl
   have j1 := blk_cl b2 1 _ rfl
   have j2 := blk_cl b2 2 _ rfl
   have j3 := blk_cl b2 3 _ rfl
   have jl := b2.lt
   go_wp2_with fail
   clear j0 j1 j2 j3 jl
   refine (HVB.out _).mono ?_
   rintro e w8 ⟨rfl, hb8⟩
   have hB8 := hB7.trans (hb8.mono hB7.size)
   have b0 := b0.below hb8 b0.lt
   have b1 := b1.below hb8 b1.lt
   have b2 := b2.below hb8 b2.lt
   have bs := bs.below hb8 bs.lt
   clear hb8 hB7
   have h0 := blk_cl b0 0 _ rfl
   have hl := b0.lt
   have i0 := blk_cl b1 0 _ rfl
   have i1 := blk_cl b1 1 _ rfl
   have i2 := blk_cl b1 2 _ rfl
   have i3 := blk_cl b1 3 _ rfl
   have il := b1.lt
   go_wp2_with fail
   clear h0 hl i0 i1 i2 i3 il
   refine (HRA.out _ hB8).mono ?_
   rintro e w9 ⟨rfl, hb9⟩
   have hB9 := hB8.trans (hb9.mono hB8.size)
   have b0 := b0.below hb9 b0.lt
   have b1 := b1.below hb9 b1.lt
   have b2 := b2.below hb9 b2.lt
   have bs := bs.below hb9 bs.lt
   clear hb9 hB8
   have h0 := blk_cl b0 0 _ rfl
   have hl := b0.lt
   have j0 := blk_cl b2 0 _ rfl
   have j1 := blk_cl b2 1 _ rfl
   have j2 := blk_cl b2 2 _ rfl
   have j3 := blk_cl b2 3 _ rfl
   have jl := b2.lt
   go_wp2_with fail
   clear h0 hl j0 j1 j2 j3 jl
   refine (HRB.out _ hB9).mono ?_
   rintro e wA ⟨rfl, hbA⟩
   have hBA := hB9.trans (hbA.mono hB9.size)
   have b0 := b0.below hbA b0.lt
   have b1 := b1.below hbA b1.lt
   have b2 := b2.below hbA b2.lt
   have bs := bs.below hbA bs.lt
   clear hbA hB9
   have h0 := blk_cl b0 0 _ rfl
   have hl := b0.lt
   have i0 := blk_cl b1 0 _ rfl
   have i1 := blk_cl b1 1 _ rfl
   have i2 := blk_cl b1 2 _ rfl
   have i3 := blk_cl b1 3 _ rfl
   have il := b1.lt
   have j0 := blk_cl b2 0 _ rfl
   have j1 := blk_cl b2 1 _ rfl
   have j2 := blk_cl b2 2 _ rfl
   have j3 := blk_cl b2 3 _ rfl
   have jl := b2.lt
   go_wp2_with fail
   clear h0 hl i0 i1 i2 i3 il j0 j1 j2 j3 jl
   refine (HC2.out _ hBA).mono ?_
   rintro e wB ⟨rfl, hbB⟩
   have hBB := hBA.trans (hbB.mono hBA.size)
   have b0 := b0.below hbB b0.lt
   have b1 := b1.below hbB b1.lt
   have b2 := b2.below hbB b2.lt
   have bs := bs.below hbB bs.lt
   clear hbB hBA
   have k0 := blk_cl bs 0 _ rfl
   have k1 := blk_cl bs 1 _ rfl
   have kl := bs.lt
   go_wp2
   exact HP.out _ hBB
  by_cases hyx : y < x
  ·rw [show cmpI x y = 1 from by unfold cmpI; rw [if_neg hxy, if_pos hyx]] at HC
   rw [show cmpI y x = -1 from if_pos hyx] at HC2
   rw [if_pos (by omega)] at HS
   have d1 : decide (x < y) = false := decide_eq_false hxy
   have d2 : (x == y) = false := by rw [beq_eq_false_iff_ne]; omega
   have d3 : decide (y ≤ x) = true := decide_eq_true (by omega)
   clear hxy hyx
   dsimp only at HS
   have h0 := blk_cl b0 0 _ rfl
   have hl := b0.lt
   have i0 := blk_cl b1 0 _ rfl
   have i1 := blk_cl b1 1 _ rfl
   have i2 := blk_cl b1 2 _ rfl
   have i3 := blk_cl b1 3 _ rfl
   have il := b1.lt
   have j0 := blk_cl b2 0 _ rfl
   have j1 := blk_cl b2 1 _ rfl
   have j2 := blk_cl b2 2 _ rfl
   have j3 := blk_cl b2 3 _ rfl
   have jl := b2.lt
   go_wp2_with fail
   clear h0 hl i0 i1 i2 i3 il j0 j1 j2 j3 jl
   refine (HC.out w2 hB3).mono ?_
   rintro e w3 ⟨rfl, hb3⟩
   have hB4 := hB3.trans (hb3.mono hB3.size)
   have b0 := b0.below hb3 b0.lt
   have b1 := b1.below hb3 b1.lt
   have b2 := b2.below hb3 b2.lt
   clear hb3 hB3
   have h0 := blk_cl b0 0 _ rfl
   have hl := b0.lt
   have i0 := blk_cl b1 0 _ rfl
   have i1 := blk_cl b1 1 _ rfl
   have i2 := blk_cl b1 2 _ rfl
   have i3 := blk_cl b1 3 _ rfl
   have il := b1.lt
   have j0 := blk_cl b2 0 _ rfl
   have j1 := blk_cl b2 1 _ rfl
   have j2 := blk_cl b2 2 _ rfl
   have j3 := blk_cl b2 3 _ rfl
   have jl := b2.lt
   go_wp2_with fail
   clear h0 hl i0 i1 i2 i3 il j0 j1 j2 j3 jl
   refine (HS.out w3 hB4).mono ?_
   rintro e w4 ⟨rfl, hb4⟩
   have hB5 := (hB4.trans (hb4.mono hB4.size)).alloc (by have := hB4.size; have := hb4.size; omega) (.cells #[.int .i64 0, .int .i64 0] 35)
   have b0 := (b0.below hb4 b0.lt).alloc (.cells #[.int .i64 0, .int .i64 0] 35)
   have b1 := (b1.below hb4 b1.lt).alloc (.cells #[.int .i64 0, .int .i64 0] 35)
   have b2 := (b2.below hb4 b2.lt).alloc (.cells #[.int .i64 0, .int .i64 0] 35)
   have bs := Blk.new w4 #[.int .i64 0, .int .i64 0] 35
   clear hb4 hB4
   have h0 := blk_cl b0 0 _ rfl
   have hl := b0.lt
   go_wp2_with fail
   clear h0 hl
   refine (HV.out _ hB5).mono ?_
   rintro e w6 ⟨rfl, hb6⟩
   have hB6 := hB5.trans (hb6.mono hB5.size)
   have b0 := b0.below hb6 b0.lt
   have b1 := b1.below hb6 b1.lt
   have b2 := b2.below hb6 b2.lt
   have bs := bs.below hb6 bs.lt
   clear hb6 hB5
   have i0 := blk_cl b1 0 _ rfl
   have i1 := blk_cl b1 1 _ rfl
   have i2 := blk_cl b1 2 _ rfl
   have i3 := blk_cl b1 3 _ rfl
   have il := b1.lt
   go_wp2_with fail
   clear i0 i1 i2 i3 il
   refine (HVA.out _).mono ?_
   rintro e w7 ⟨rfl, hb7⟩
   have hB7 := hB6.trans (hb7.mono hB6.size)
   have b0 := b0.below hb7 b0.lt
   have b1 := b1.below hb7 b1.lt
   have b2 := b2.below hb7 b2.lt
   have bs := bs.below hb7 bs.lt
   clear hb7 hB6
   have j0 := blk_cl b2 0 _ rfl
   have j1 := blk_cl b2 1 _ rfl
   have j2 := blk_cl b2 2 _ rfl
   have j3 := blk_cl b2 3 _ rfl
   have jl := b2.lt
   go_wp2_with fail
   clear j0 j1 j2 j3 jl
   refine (HVB.out _).mono ?_
   rintro e w8 ⟨rfl, hb8⟩
   have hB8 := hB7.trans (hb8.mono hB7.size)
   have b0 := b0.below hb8 b0.lt
   have b1 := b1.below hb8 b1.lt
   have b2 := b2.below hb8 b2.lt
   have bs := bs.below hb8 bs.lt
   clear hb8 hB7
   have h0 := blk_cl b0 0 _ rfl
   have hl := b0.lt
   have i0 := blk_cl b1 0 _ rfl
   have i1 := blk_cl b1 1 _ rfl
   have i2 := blk_cl b1 2 _ rfl
   have i3 := blk_cl b1 3 _ rfl
   have il := b1.lt
   go_wp2_with fail
   clear h0 hl i0 i1 i2 i3 il
   refine (HRA.out _ hB8).mono ?_
   rintro e w9 ⟨rfl, hb9⟩
   have hB9 := hB8.trans (hb9.mono hB8.size)
   have b0 := b0.below hb9 b0.lt
   have b1 := b1.below hb9 b1.lt
   have b2 := b2.below hb9 b2.lt
   have bs := bs.below hb9 bs.lt
   clear hb9 hB8
   have h0 := blk_cl b0 0 _ rfl
   have hl := b0.lt
   have j0 := blk_cl b2 0 _ rfl
   have j1 := blk_cl b2 1 _ rfl
   have j2 := blk_cl b2 2 _ rfl
   have j3 := blk_cl b2 3 _ rfl
   have jl := b2.lt
   go_wp2_with fail
   clear h0 hl j0 j1 j2 j3 jl
   refine (HRB.out _ hB9).mono ?_
   rintro e wA ⟨rfl, hbA⟩
   have hBA := hB9.trans (hbA.mono hB9.size)
   have b0 := b0.below hbA b0.lt
   have b1 := b1.below hbA b1.lt
   have b2 := b2.below hbA b2.lt
   have bs := bs.below hbA bs.lt
   clear hbA hB9
   have h0 := blk_cl b0 0 _ rfl
   have hl := b0.lt
   have i0 := blk_cl b1 0 _ rfl
   have i1 := blk_cl b1 1 _ rfl
   have i2 := blk_cl b1 2 _ rfl
   have i3 := blk_cl b1 3 _ rfl
   have il := b1.lt
   have j0 := blk_cl b2 0 _ rfl
   have j1 := blk_cl b2 1 _ rfl
   have j2 := blk_cl b2 2 _ rfl
   have j3 := blk_cl b2 3 _ rfl
   have jl := b2.lt
   go_wp2_with fail
   clear h0 hl i0 i1 i2 i3 il j0 j1 j2 j3 jl
   refine (HC2.out _ hBA).mono ?_
   rintro e wB ⟨rfl, hbB⟩
   have hBB := hBA.trans (hbB.mono hBA.size)
   have b0 := b0.below hbB b0.lt
   have b1 := b1.below hbB b1.lt
   have b2 := b2.below hbB b2.lt
   have bs := bs.below hbB bs.lt
   clear hbB hBA
   have k0 := blk_cl bs 0 _ rfl
   have k1 := blk_cl bs 1 _ rfl
   have kl := bs.lt
   go_wp2
   exact HP.out _ hBB
  ·obtain rfl : x = y := by omega
   rw [show cmpI x x = 0 from by unfold cmpI; rw [if_neg hxy, if_neg hxy]] at HC HC2
   rw [if_pos (by omega)] at HS
   have d1 : decide (x < x) = false := decide_eq_false hxy
   have d3 : decide (x ≤ x) = true := decide_eq_true (by omega)
   clear hxy hyx
   dsimp only at HS
   have h0 := blk_cl b0 0 _ rfl
   have hl := b0.lt
   have i0 := blk_cl b1 0 _ rfl
   have i1 := blk_cl b1 1 _ rfl
   have i2 := blk_cl b1 2 _ rfl
   have i3 := blk_cl b1 3 _ rfl
   have il := b1.lt
   have j0 := blk_cl b2 0 _ rfl
   have j1 := blk_cl b2 1 _ rfl
   have j2 := blk_cl b2 2 _ rfl
   have j3 := blk_cl b2 3 _ rfl
   have jl := b2.lt
   go_wp2_with fail
   clear h0 hl i0 i1 i2 i3 il j0 j1 j2 j3 jl
   refine (HC.out w2 hB3).mono ?_
   rintro e w3 ⟨rfl, hb3⟩
   have hB4 := hB3.trans (hb3.mono hB3.size)
   have b0 := b0.below hb3 b0.lt
   have b1 := b1.below hb3 b1.lt
   have b2 := b2.below hb3 b2.lt
   clear hb3 hB3
   have h0 := blk_cl b0 0 _ rfl
   have hl := b0.lt
   have i0 := blk_cl b1 0 _ rfl
   have i1 := blk_cl b1 1 _ rfl
   have i2 := blk_cl b1 2 _ rfl
   have i3 := blk_cl b1 3 _ rfl
   have il := b1.lt
   have j0 := blk_cl b2 0 _ rfl
   have j1 := blk_cl b2 1 _ rfl
   have j2 := blk_cl b2 2 _ rfl
   have j3 := blk_cl b2 3 _ rfl
   have jl := b2.lt
   go_wp2_with fail
   clear h0 hl i0 i1 i2 i3 il j0 j1 j2 j3 jl
   refine (HS.out w3 hB4).mono ?_
   rintro e w4 ⟨rfl, hb4⟩
   have hB5 := (hB4.trans (hb4.mono hB4.size)).alloc (by have := hB4.size; have := hb4.size; omega) (.cells #[.int .i64 0, .int .i64 0] 35)
   have b0 := (b0.below hb4 b0.lt).alloc (.cells #[.int .i64 0, .int .i64 0] 35)
   have b1 := (b1.below hb4 b1.lt).alloc (.cells #[.int .i64 0, .int .i64 0] 35)
   have b2 := (b2.below hb4 b2.lt).alloc (.cells #[.int .i64 0, .int .i64 0] 35)
   have bs := Blk.new w4 #[.int .i64 0, .int .i64 0] 35
   clear hb4 hB4
   have h0 := blk_cl b0 0 _ rfl
   have hl := b0.lt
   go_wp2_with fail
   clear h0 hl
   refine (HV.out _ hB5).mono ?_
   rintro e w6 ⟨rfl, hb6⟩
   have hB6 := hB5.trans (hb6.mono hB5.size)
   have b0 := b0.below hb6 b0.lt
   have b1 := b1.below hb6 b1.lt
   have b2 := b2.below hb6 b2.lt
   have bs := bs.below hb6 bs.lt
   clear hb6 hB5
   have i0 := blk_cl b1 0 _ rfl
   have i1 := blk_cl b1 1 _ rfl
   have i2 := blk_cl b1 2 _ rfl
   have i3 := blk_cl b1 3 _ rfl
   have il := b1.lt
   go_wp2_with fail
   clear i0 i1 i2 i3 il
   refine (HVA.out _).mono ?_
   rintro e w7 ⟨rfl, hb7⟩
   have hB7 := hB6.trans (hb7.mono hB6.size)
   have b0 := b0.below hb7 b0.lt
   have b1 := b1.below hb7 b1.lt
   have b2 := b2.below hb7 b2.lt
   have bs := bs.below hb7 bs.lt
   clear hb7 hB6
   have j0 := blk_cl b2 0 _ rfl
   have j1 := blk_cl b2 1 _ rfl
   have j2 := blk_cl b2 2 _ rfl
   have j3 := blk_cl b2 3 _ rfl
   have jl := b2.lt
   go_wp2_with fail
   clear j0 j1 j2 j3 jl
   refine (HVB.out _).mono ?_
   rintro e w8 ⟨rfl, hb8⟩
   have hB8 := hB7.trans (hb8.mono hB7.size)
   have b0 := b0.below hb8 b0.lt
   have b1 := b1.below hb8 b1.lt
   have b2 := b2.below hb8 b2.lt
   have bs := bs.below hb8 bs.lt
   clear hb8 hB7
   have h0 := blk_cl b0 0 _ rfl
   have hl := b0.lt
   have i0 := blk_cl b1 0 _ rfl
   have i1 := blk_cl b1 1 _ rfl
   have i2 := blk_cl b1 2 _ rfl
   have i3 := blk_cl b1 3 _ rfl
   have il := b1.lt
   go_wp2_with fail
   clear h0 hl i0 i1 i2 i3 il
   refine (HRA.out _ hB8).mono ?_
   rintro e w9 ⟨rfl, hb9⟩
   have hB9 := hB8.trans (hb9.mono hB8.size)
   have b0 := b0.below hb9 b0.lt
   have b1 := b1.below hb9 b1.lt
   have b2 := b2.below hb9 b2.lt
   have bs := bs.below hb9 bs.lt
   clear hb9 hB8
   have h0 := blk_cl b0 0 _ rfl
   have hl := b0.lt
   have j0 := blk_cl b2 0 _ rfl
   have j1 := blk_cl b2 1 _ rfl
   have j2 := blk_cl b2 2 _ rfl
   have j3 := blk_cl b2 3 _ rfl
   have jl := b2.lt
   go_wp2_with fail
   clear h0 hl j0 j1 j2 j3 jl
   refine (HRB.out _ hB9).mono ?_
   rintro e wA ⟨rfl, hbA⟩
   have hBA := hB9.trans (hbA.mono hB9.size)
   have b0 := b0.below hbA b0.lt
   have b1 := b1.below hbA b1.lt
   have b2 := b2.below hbA b2.lt
   have bs := bs.below hbA bs.lt
   clear hbA hB9
   have h0 := blk_cl b0 0 _ rfl
   have hl := b0.lt
   have i0 := blk_cl b1 0 _ rfl
   have i1 := blk_cl b1 1 _ rfl
   have i2 := blk_cl b1 2 _ rfl
   have i3 := blk_cl b1 3 _ rfl
   have il := b1.lt
   have j0 := blk_cl b2 0 _ rfl
   have j1 := blk_cl b2 1 _ rfl
   have j2 := blk_cl b2 2 _ rfl
   have j3 := blk_cl b2 3 _ rfl
   have jl := b2.lt
   go_wp2_with fail
   clear h0 hl i0 i1 i2 i3 il j0 j1 j2 j3 jl
   refine (HC2.out _ hBA).mono ?_
   rintro e wB ⟨rfl, hbB⟩
   have hBB := hBA.trans (hbB.mono hBA.size)
   have b0 := b0.below hbB b0.lt
   have b1 := b1.below hbB b1.lt
   have b2 := b2.below hbB b2.lt
   have bs := bs.below hbB bs.lt
   clear hbB hBA
   have k0 := blk_cl bs 0 _ rfl
   have k1 := blk_cl bs 1 _ rfl
   have kl := bs.lt
   go_wp2
   exact HP.out _ hBB
end Go.Proofs.YtdafcipilknecaaGreatDoor

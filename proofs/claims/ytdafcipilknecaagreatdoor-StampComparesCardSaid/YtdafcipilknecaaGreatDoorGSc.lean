/- Joined by merge.py: StW, Ref25, EqSp. -/
import Derived.Test.YtdafcipilknecaaGreatDoorGStm
import Derived.Test.YtdafcipilknecaaGreatDoorGRe
import Derived.Laws.StructEq
/- stamp.two, stamp.Compare, stamp.Span. Printed by gen_stw.py. -/
namespace Go.Proofs.YtdafcipilknecaaGreatDoor
set_option linter.unusedSimpArgs false
set_option linter.unusedVariables false
open Go.ChangeShapes Go.WideShapes Go.ChangeAt Go.RowKit Go.Lib
def twoF (L : List VV) (v : ByteArray) (a b : Stm) : Int × Int × Int :=
 if validH L = true ∧ stmB a = true ∧ stmB b = true then
  if (rsv1 L v a).2 ≠ 0 then (0, 0, (rsv1 L v a).2) else ((rsv1 L v a).1, (rsv1 L v b).1, (rsv1 L v b).2)
 else (0, 0, 1)
theorem two_1 {L : List VV} {v : ByteArray} {a b : Stm} (h : ¬ (validH L = true ∧ stmB a = true ∧ stmB b = true)) : twoF L v a b = (0, 0, 1) := if_neg h
theorem two_e {L : List VV} {v : ByteArray} {a b : Stm} (h : validH L = true ∧ stmB a = true ∧ stmB b = true) {x e : Int} (hr : rsv1 L v a = (x, e)) (he : e ≠ 0) : twoF L v a b = (0, 0, e) := by unfold twoF; rw [if_pos h, hr, if_pos he]
theorem two_0 {L : List VV} {v : ByteArray} {a b : Stm} (h : validH L = true ∧ stmB a = true ∧ stmB b = true) {x y e : Int} (hr : rsv1 L v a = (x, 0)) (hq : rsv1 L v b = (y, e)) : twoF L v a b = (x, y, e) := by unfold twoF; rw [if_pos h, hr, hq, if_neg (by simp)]
def cmpI (x y : Int) : Int := if x < y then -1 else if y < x then 1 else 0
theorem cmpi_any (x y : Int) (w : World) : Calls Tryz.prog 35 #[.int .i64 x, .int .i64 y] w fun e w' => e = .returned (.int .i64 (cmpI x y)) ∧ w = w' := by
 have HNA := Lib.hid (fun (x : Int) W => show Calls Tryz.prog 68 #[.int .i64 x] W fun e w' => e = .returned (.bool false) ∧ W = w' from by
  go_enter Tryz.func68, Tryz.ntmps68
  go_wp2
  go_ret
  exact ⟨rfl, rfl⟩)
 unfold cmpI
 by_cases h1 : x < y
 ·rw [if_pos h1]
  go_enter Tryz.func35, Tryz.ntmps35
  go_wp2_with (go_at_call 68; refine (HNA.out _ _).mono ?_; rintro e w1 ⟨rfl, rfl⟩)
  go_ret
  exact ⟨rfl, rfl⟩
 ·rw [if_neg h1]
  by_cases h2 : y < x
  ·rw [if_pos h2]
   go_enter Tryz.func35, Tryz.ntmps35
   go_wp2_with (go_at_call 68; refine (HNA.out _ _).mono ?_; rintro e w1 ⟨rfl, rfl⟩)
   go_ret
   exact ⟨rfl, rfl⟩
  ·rw [if_neg h2]
   go_enter Tryz.func35, Tryz.ntmps35
   go_wp2_with (go_at_call 68; refine (HNA.out _ _).mono ?_; rintro e w1 ⟨rfl, rfl⟩)
   go_ret
   exact ⟨rfl, rfl⟩
set_option maxRecDepth 100000 in
set_option maxHeartbeats 4000000 in
theorem two_any (L : List VV) (vH : Value) (v : ByteArray) (a b : Stm) (w : World) (hm : HasMax w) (hg : GoodH w vH L) (hk : OkH L) :
  Calls Tryz.prog 34 #[.agg #[vH], .string v, .agg (encStm a).toArray, .agg (encStm b).toArray] w fun e w' => e = .returned (.tuple #[.int .i64 (twoF L v a b).1, .int .i64 (twoF L v a b).2.1, .int .i64 (twoF L v a b).2.2]) ∧ Below w.heap.size w w' := by
 have HV := Lib.hid (fun W (hb : Below w.heap.size w W) => Valid_his L vH W (hm.on hb) (hg.on hb) hk)
 have HSA := Lib.hid (fun W => stm_valid a W)
 have HSB := Lib.hid (fun W => stm_valid b W)
 have HRA := Lib.hid (fun W (hb : Below w.heap.size w W) => resolve_his L vH v a W (hm.on hb) (hg.on hb) hk)
 have HRB := Lib.hid (fun W (hb : Below w.heap.size w W) => resolve_his L vH v b W (hm.on hb) (hg.on hb) hk)
 suffices HPOST : ∀ Post : Ending → World → Prop, Hid (∀ p q r w', Below w.heap.size w w' → twoF L v a b = (p, q, r) → Post (.returned (.tuple #[.int .i64 p, .int .i64 q, .int .i64 r])) w') → Calls Tryz.prog 34 #[.agg #[vH], .string v, .agg (encStm a).toArray, .agg (encStm b).toArray] w Post from HPOST _ (Lib.hid fun p q r w' h1 h2 => by rw [h2]; exact ⟨rfl, h1⟩)
 intro Post HP
 have H1 := Lib.hid (two_1 (L := L) (v := v) (a := a) (b := b))
 have HE := Lib.hid (fun h x e => two_e (L := L) (v := v) (a := a) (b := b) h (x := x) (e := e))
 have H0 := Lib.hid (fun h x y e => two_0 (L := L) (v := v) (a := a) (b := b) h (x := x) (y := y) (e := e))
 obtain ⟨A, c, rfl⟩ := rd_vf hg.r
 clear hg hm hk
 generalize twoF L v a b = tw at *
 obtain ⟨⟨x, e1⟩, hr1⟩ : ∃ r, rsv1 L v a = r := ⟨_, rfl⟩
 obtain ⟨⟨y, e2⟩, hr2⟩ : ∃ r, rsv1 L v b = r := ⟨_, rfl⟩
 rw [hr1] at HRA HE H0
 rw [hr2] at HRB H0
 have HE := Lib.hid (fun h => HE.out h x e1 rfl)
 have H0 := Lib.hid (fun h (h0 : e1 = 0) => H0.out h x y e2 (by rw [h0]) rfl)
 obtain ⟨vv, hvv⟩ : ∃ x, validH L = x := ⟨_, rfl⟩
 obtain ⟨va, hva⟩ : ∃ x, stmB a = x := ⟨_, rfl⟩
 obtain ⟨vb, hvb⟩ : ∃ x, stmB b = x := ⟨_, rfl⟩
 rw [hvv] at HV
 rw [hva] at HSA
 rw [hvb] at HSB
 obtain ⟨aa, az, ag, af⟩ := a
 obtain ⟨ba, bz, bg, bf⟩ := b
 unfold encStm at HSA HSB HRA HRB ⊢
 dsimp only at HSA HSB HRA HRB ⊢
 show Calls Tryz.prog 34 #[.agg #[.slice A L.length c], .string v, .agg #[.int .i64 aa, .string az, .int .i64 ag, .int .i64 af], .agg #[.int .i64 ba, .string bz, .int .i64 bg, .int .i64 bf]] w _
 have b0 := ((Blk.new w #[.slice A L.length c] 24).alloc (.cells #[.int .i64 aa, .string az, .int .i64 ag, .int .i64 af] 28)).alloc (.cells #[.int .i64 ba, .string bz, .int .i64 bg, .int .i64 bf] 28)
 have b1 := (Blk.new (w.alloc (.cells #[.slice A L.length c] 24)) #[.int .i64 aa, .string az, .int .i64 ag, .int .i64 af] 28).alloc (.cells #[.int .i64 ba, .string bz, .int .i64 bg, .int .i64 bf] 28)
 have b2 := Blk.new ((w.alloc (.cells #[.slice A L.length c] 24)).alloc (.cells #[.int .i64 aa, .string az, .int .i64 ag, .int .i64 af] 28)) #[.int .i64 ba, .string bz, .int .i64 bg, .int .i64 bf] 28
 simp only [World.size_alloc] at b1 b2
 have hB2 : Below w.heap.size w (((w.alloc (.cells #[.slice A L.length c] 24)).alloc (.cells #[.int .i64 aa, .string az, .int .i64 ag, .int .i64 af] 28)).alloc (.cells #[.int .i64 ba, .string bz, .int .i64 bg, .int .i64 bf] 28)) := (((Below.refl _ _).alloc (Nat.le_refl _) _).alloc (by simp) _).alloc (by simp; omega) _
 have h0 := blk_cl b0 0 _ rfl
 have hl := b0.lt
 go_enter Tryz.func34, Tryz.ntmps34
 go_wp2_with fail
 generalize ((w.alloc (.cells #[.slice A L.length c] 24)).alloc (.cells #[.int .i64 aa, .string az, .int .i64 ag, .int .i64 af] 28)).alloc (.cells #[.int .i64 ba, .string bz, .int .i64 bg, .int .i64 bf] 28) = W at *
 clear h0 hl
 refine (HV.out W hB2).mono ?_
 rintro e w1 ⟨rfl, hb1⟩
 have hB3 := hB2.trans (hb1.mono hB2.size)
 have b0 := b0.below hb1 b0.lt
 have b1 := b1.below hb1 b1.lt
 have b2 := b2.below hb1 b2.lt
 cases vv
 ·go_wp2
  exact HP.out 0 0 1 _ hB3 (H1.out (fun h => by rw [hvv] at h; cases h.1))
 have i0 := blk_cl b1 0 _ rfl
 have i1 := blk_cl b1 1 _ rfl
 have i2 := blk_cl b1 2 _ rfl
 have i3 := blk_cl b1 3 _ rfl
 have il := b1.lt
 go_wp2_with fail
 clear i0 i1 i2 i3 il
 refine (HSA.out w1).mono ?_
 rintro e w2 ⟨rfl, hb2⟩
 have hB4 := hB3.trans (hb2.mono hB3.size)
 have b0 := b0.below hb2 b0.lt
 have b1 := b1.below hb2 b1.lt
 have b2 := b2.below hb2 b2.lt
 cases va
 ·go_wp2
  exact HP.out 0 0 1 _ hB4 (H1.out (fun h => by rw [hva] at h; cases h.2.1))
 have i0 := blk_cl b2 0 _ rfl
 have i1 := blk_cl b2 1 _ rfl
 have i2 := blk_cl b2 2 _ rfl
 have i3 := blk_cl b2 3 _ rfl
 have il := b2.lt
 go_wp2_with fail
 clear i0 i1 i2 i3 il
 refine (HSB.out w2).mono ?_
 rintro e w3 ⟨rfl, hb3⟩
 have hB5 := hB4.trans (hb3.mono hB4.size)
 have b0 := b0.below hb3 b0.lt
 have b1 := b1.below hb3 b1.lt
 have b2 := b2.below hb3 b2.lt
 cases vb
 ·go_wp2
  exact HP.out 0 0 1 _ hB5 (H1.out (fun h => by rw [hvb] at h; cases h.2.2))
 have HE := Lib.hid (HE.out ⟨hvv, hva, hvb⟩)
 have H0 := Lib.hid (H0.out ⟨hvv, hva, hvb⟩)
 clear HV HSA HSB H1 hvv hva hvb hr1 hr2 hb1 hb2 hb3 hB2 hB3 hB4
 have h0 := blk_cl b0 0 _ rfl
 have hl := b0.lt
 have i0 := blk_cl b1 0 _ rfl
 have i1 := blk_cl b1 1 _ rfl
 have i2 := blk_cl b1 2 _ rfl
 have i3 := blk_cl b1 3 _ rfl
 have il := b1.lt
 go_wp2_with fail
 clear h0 hl i0 i1 i2 i3 il
 refine (HRA.out w3 hB5).mono ?_
 rintro e w4 ⟨rfl, hb4⟩
 have hB6 := hB5.trans (hb4.mono hB5.size)
 by_cases he : e1 = 0
 case neg =>
  have d1 : (e1 != 0) = true := bne_iff_ne.2 he
  go_wp2
  exact HP.out 0 0 e1 _ hB6 (HE.out he)
 have HOK := Lib.hid (H0.out he)
 clear H0
 subst he
 have b0 := b0.below hb4 b0.lt
 have b2 := b2.below hb4 b2.lt
 clear HE HRA b1
 have h0 := blk_cl b0 0 _ rfl
 have hl := b0.lt
 have i0 := blk_cl b2 0 _ rfl
 have i1 := blk_cl b2 1 _ rfl
 have i2 := blk_cl b2 2 _ rfl
 have i3 := blk_cl b2 3 _ rfl
 have il := b2.lt
 go_wp2_with fail
 clear h0 hl i0 i1 i2 i3 il
 refine (HRB.out w4 hB6).mono ?_
 rintro e w5 ⟨rfl, hb5⟩
 go_wp2
 exact HP.out x y e2 _ (hB6.trans (hb5.mono hB6.size)) HOK.out
def cmpF (L : List VV) (v : ByteArray) (a b : Stm) : Int × Int := if (twoF L v a b).2.2 = 0 then (cmpI (twoF L v a b).1 (twoF L v a b).2.1, 0) else (0, (twoF L v a b).2.2)
def spnF (L : List VV) (v : ByteArray) (a b : Stm) : Int × Int × Int := if (twoF L v a b).2.2 = 0 then (if (twoF L v a b).2.1 ≤ (twoF L v a b).1 then (0, 0, 2) else ((twoF L v a b).1, (twoF L v a b).2.1, 0)) else (0, 0, (twoF L v a b).2.2)
set_option maxRecDepth 100000 in
set_option maxHeartbeats 4000000 in
theorem Compare_any (L : List VV) (vH : Value) (v : ByteArray) (a b : Stm) (w : World) (hm : HasMax w) (hg : GoodH w vH L) (hk : OkH L) :
  Calls Tryz.prog 8 #[.agg #[vH], .string v, .agg (encStm a).toArray, .agg (encStm b).toArray] w fun e w' => e = .returned (.tuple #[.int .i64 (cmpF L v a b).1, .int .i64 (cmpF L v a b).2]) ∧ Below w.heap.size w w' := by
 have HT := Lib.hid (fun W (hb : Below w.heap.size w W) => two_any L vH v a b W (hm.on hb) (hg.on hb) hk)
 suffices HPOST : ∀ Post : Ending → World → Prop, Hid (∀ n e w', Below w.heap.size w w' → cmpF L v a b = (n, e) → Post (.returned (.tuple #[.int .i64 n, .int .i64 e])) w') → Calls Tryz.prog 8 #[.agg #[vH], .string v, .agg (encStm a).toArray, .agg (encStm b).toArray] w Post from HPOST _ (Lib.hid fun n e w' h1 h2 => by rw [h2]; exact ⟨rfl, h1⟩)
 intro Post HP
 obtain ⟨A, c, rfl⟩ := rd_vf hg.r
 clear hg hm hk
 have HF := Lib.hid (show cmpF L v a b = _ from by unfold cmpF; exact rfl)
 generalize cmpF L v a b = cf at *
 generalize twoF L v a b = tw at *
 obtain ⟨x, y, e1⟩ := tw
 dsimp only at HT HF
 obtain ⟨aa, az, ag, af⟩ := a
 obtain ⟨ba, bz, bg, bf⟩ := b
 unfold encStm at HT ⊢
 dsimp only at HT ⊢
 show Calls Tryz.prog 8 #[.agg #[.slice A L.length c], .string v, .agg #[.int .i64 aa, .string az, .int .i64 ag, .int .i64 af], .agg #[.int .i64 ba, .string bz, .int .i64 bg, .int .i64 bf]] w _
 have b0 := ((Blk.new w #[.slice A L.length c] 24).alloc (.cells #[.int .i64 aa, .string az, .int .i64 ag, .int .i64 af] 28)).alloc (.cells #[.int .i64 ba, .string bz, .int .i64 bg, .int .i64 bf] 28)
 have b1 := (Blk.new (w.alloc (.cells #[.slice A L.length c] 24)) #[.int .i64 aa, .string az, .int .i64 ag, .int .i64 af] 28).alloc (.cells #[.int .i64 ba, .string bz, .int .i64 bg, .int .i64 bf] 28)
 have b2 := Blk.new ((w.alloc (.cells #[.slice A L.length c] 24)).alloc (.cells #[.int .i64 aa, .string az, .int .i64 ag, .int .i64 af] 28)) #[.int .i64 ba, .string bz, .int .i64 bg, .int .i64 bf] 28
 simp only [World.size_alloc] at b1 b2
 have hB2 : Below w.heap.size w (((w.alloc (.cells #[.slice A L.length c] 24)).alloc (.cells #[.int .i64 aa, .string az, .int .i64 ag, .int .i64 af] 28)).alloc (.cells #[.int .i64 ba, .string bz, .int .i64 bg, .int .i64 bf] 28)) := (((Below.refl _ _).alloc (Nat.le_refl _) _).alloc (by simp) _).alloc (by simp; omega) _
 have h0 := blk_cl b0 0 _ rfl
 have hl := b0.lt
 have i0 := blk_cl b1 0 _ rfl
 have i1 := blk_cl b1 1 _ rfl
 have i2 := blk_cl b1 2 _ rfl
 have i3 := blk_cl b1 3 _ rfl
 have il := b1.lt
 have j0 := blk_cl b2 0 _ rfl
 have j1 := blk_cl b2 1 _ rfl
 have j2 := blk_cl b2 2 _ rfl
 have j3 := blk_cl b2 3 _ rfl
 have jl := b2.lt
 go_enter Tryz.func8, Tryz.ntmps8
 go_wp2_with fail
 have hWs : (((w.alloc (.cells #[.slice A L.length c] 24)).alloc (.cells #[.int .i64 aa, .string az, .int .i64 ag, .int .i64 af] 28)).alloc (.cells #[.int .i64 ba, .string bz, .int .i64 bg, .int .i64 bf] 28)).heap.size = w.heap.size + 1 + 1 + 1 := by simp
 generalize ((w.alloc (.cells #[.slice A L.length c] 24)).alloc (.cells #[.int .i64 aa, .string az, .int .i64 ag, .int .i64 af] 28)).alloc (.cells #[.int .i64 ba, .string bz, .int .i64 bg, .int .i64 bf] 28) = W at *
 clear h0 hl i0 i1 i2 i3 il j0 j1 j2 j3 jl b0 b1 b2
 refine (HT.out W hB2).mono ?_
 rintro e w1 ⟨rfl, hb1⟩
 have hB3 := hB2.trans (hb1.mono hB2.size)
 by_cases he : e1 = 0
 case neg =>
  have d1 : (e1 != 0) = true := bne_iff_ne.2 he
  have hcf := HF.out
  rw [if_neg he] at hcf
  go_wp2
  exact HP.out 0 e1 _ hB3 hcf
 subst he
 have HC := Lib.hid (fun W => cmpi_any x y W)
 have hcf := HF.out
 rw [if_pos rfl] at hcf
 generalize cmpI x y = n at *
 go_wp2_with fail
 refine (HC.out _).mono ?_
 rintro e w2 ⟨rfl, rfl⟩
 go_wp2
 exact HP.out n 0 _ hB3 hcf
set_option maxRecDepth 100000 in
set_option maxHeartbeats 4000000 in
theorem Span_any (L : List VV) (vH : Value) (v : ByteArray) (a b : Stm) (w : World) (hm : HasMax w) (hg : GoodH w vH L) (hk : OkH L) :
  Calls Tryz.prog 9 #[.agg #[vH], .string v, .agg (encStm a).toArray, .agg (encStm b).toArray] w fun e w' => e = .returned (.tuple #[.agg #[.int .i64 (spnF L v a b).1, .int .i64 (spnF L v a b).2.1], .int .i64 (spnF L v a b).2.2]) ∧ Below w.heap.size w w' := by
 have HT := Lib.hid (fun W (hb : Below w.heap.size w W) => two_any L vH v a b W (hm.on hb) (hg.on hb) hk)
 suffices HPOST : ∀ Post : Ending → World → Prop, Hid (∀ s t e w', Below w.heap.size w w' → spnF L v a b = (s, t, e) → Post (.returned (.tuple #[.agg #[.int .i64 s, .int .i64 t], .int .i64 e])) w') → Calls Tryz.prog 9 #[.agg #[vH], .string v, .agg (encStm a).toArray, .agg (encStm b).toArray] w Post from HPOST _ (Lib.hid fun s t e w' h1 h2 => by rw [h2]; exact ⟨rfl, h1⟩)
 intro Post HP
 obtain ⟨A, c, rfl⟩ := rd_vf hg.r
 clear hg hm hk
 have HF := Lib.hid (show spnF L v a b = _ from by unfold spnF; exact rfl)
 generalize spnF L v a b = cf at *
 generalize twoF L v a b = tw at *
 obtain ⟨x, y, e1⟩ := tw
 dsimp only at HT HF
 obtain ⟨aa, az, ag, af⟩ := a
 obtain ⟨ba, bz, bg, bf⟩ := b
 unfold encStm at HT ⊢
 dsimp only at HT ⊢
 show Calls Tryz.prog 9 #[.agg #[.slice A L.length c], .string v, .agg #[.int .i64 aa, .string az, .int .i64 ag, .int .i64 af], .agg #[.int .i64 ba, .string bz, .int .i64 bg, .int .i64 bf]] w _
 have b0 := ((Blk.new w #[.slice A L.length c] 24).alloc (.cells #[.int .i64 aa, .string az, .int .i64 ag, .int .i64 af] 28)).alloc (.cells #[.int .i64 ba, .string bz, .int .i64 bg, .int .i64 bf] 28)
 have b1 := (Blk.new (w.alloc (.cells #[.slice A L.length c] 24)) #[.int .i64 aa, .string az, .int .i64 ag, .int .i64 af] 28).alloc (.cells #[.int .i64 ba, .string bz, .int .i64 bg, .int .i64 bf] 28)
 have b2 := Blk.new ((w.alloc (.cells #[.slice A L.length c] 24)).alloc (.cells #[.int .i64 aa, .string az, .int .i64 ag, .int .i64 af] 28)) #[.int .i64 ba, .string bz, .int .i64 bg, .int .i64 bf] 28
 simp only [World.size_alloc] at b1 b2
 have hB2 : Below w.heap.size w (((w.alloc (.cells #[.slice A L.length c] 24)).alloc (.cells #[.int .i64 aa, .string az, .int .i64 ag, .int .i64 af] 28)).alloc (.cells #[.int .i64 ba, .string bz, .int .i64 bg, .int .i64 bf] 28)) := (((Below.refl _ _).alloc (Nat.le_refl _) _).alloc (by simp) _).alloc (by simp; omega) _
 have h0 := blk_cl b0 0 _ rfl
 have hl := b0.lt
 have i0 := blk_cl b1 0 _ rfl
 have i1 := blk_cl b1 1 _ rfl
 have i2 := blk_cl b1 2 _ rfl
 have i3 := blk_cl b1 3 _ rfl
 have il := b1.lt
 have j0 := blk_cl b2 0 _ rfl
 have j1 := blk_cl b2 1 _ rfl
 have j2 := blk_cl b2 2 _ rfl
 have j3 := blk_cl b2 3 _ rfl
 have jl := b2.lt
 go_enter Tryz.func9, Tryz.ntmps9
 go_wp2_with fail
 have hWs : (((w.alloc (.cells #[.slice A L.length c] 24)).alloc (.cells #[.int .i64 aa, .string az, .int .i64 ag, .int .i64 af] 28)).alloc (.cells #[.int .i64 ba, .string bz, .int .i64 bg, .int .i64 bf] 28)).heap.size = w.heap.size + 1 + 1 + 1 := by simp
 generalize ((w.alloc (.cells #[.slice A L.length c] 24)).alloc (.cells #[.int .i64 aa, .string az, .int .i64 ag, .int .i64 af] 28)).alloc (.cells #[.int .i64 ba, .string bz, .int .i64 bg, .int .i64 bf] 28) = W at *
 clear h0 hl i0 i1 i2 i3 il j0 j1 j2 j3 jl b0 b1 b2
 have bz := Blk.new W #[.int .i64 0, .int .i64 0] 35
 rw [hWs] at bz
 have hBz := hB2.alloc hB2.size (.cells #[.int .i64 0, .int .i64 0] 35)
 have hBL : w.heap.size ≤ w.heap.size + 1 + 1 + 1 := by omega
 generalize W.alloc (.cells #[.int .i64 0, .int .i64 0] 35) = Wz at *
 refine (HT.out Wz hBz).mono ?_
 rintro e w1 ⟨rfl, hb1⟩
 have hB3 := hBz.trans (hb1.mono hBz.size)
 have bz := bz.below hb1 bz.lt
 have z0 := blk_cl bz 0 _ rfl
 have z1 := blk_cl bz 1 _ rfl
 have zl := bz.lt
 have zf := fun i => bz.frozen i
 by_cases he : e1 = 0
 case neg =>
  have d1 : (e1 != 0) = true := bne_iff_ne.2 he
  have hcf := HF.out
  rw [if_neg he] at hcf
  have hB4 : Below w.heap.size w ((w1.setCell ⟨w.heap.size + 1 + 1 + 1, 0, none⟩ (.int .i64 0)).setCell ⟨w.heap.size + 1 + 1 + 1, 1, none⟩ (.int .i64 0)) := (hB3.setCell (p := ⟨w.heap.size + 1 + 1 + 1, 0, none⟩) hBL _).setCell (p := ⟨w.heap.size + 1 + 1 + 1, 1, none⟩) hBL _
  have s2 := (bz.setAt 0 (.int .i64 0)).setAt 1 (.int .i64 0)
  have s0 := s2.cell 0 (v := .int .i64 0) (by simp)
  have s1 := s2.cell 1 (v := .int .i64 0) (by simp)
  go_wp2
  exact bodyPost_ret (v := .tuple #[.agg #[.int .i64 0, .int .i64 0], .int .i64 e1]) (by simp [results, Tryz.results9, go_sem, s0, s1]) rfl (HP.out 0 0 e1 _ hB4 hcf)
 subst he
 have hcf := HF.out
 rw [if_pos rfl] at hcf
 by_cases hxy : y ≤ x
 ·rw [if_pos hxy] at hcf
  have hB4 : Below w.heap.size w ((w1.setCell ⟨w.heap.size + 1 + 1 + 1, 0, none⟩ (.int .i64 0)).setCell ⟨w.heap.size + 1 + 1 + 1, 1, none⟩ (.int .i64 0)) := (hB3.setCell (p := ⟨w.heap.size + 1 + 1 + 1, 0, none⟩) hBL _).setCell (p := ⟨w.heap.size + 1 + 1 + 1, 1, none⟩) hBL _
  have s2 := (bz.setAt 0 (.int .i64 0)).setAt 1 (.int .i64 0)
  have s0 := s2.cell 0 (v := .int .i64 0) (by simp)
  have s1 := s2.cell 1 (v := .int .i64 0) (by simp)
  go_wp2
  exact bodyPost_ret (v := .tuple #[.agg #[.int .i64 0, .int .i64 0], .int .i64 2]) (by simp [results, Tryz.results9, go_sem, s0, s1]) rfl (HP.out 0 0 2 _ hB4 hcf)
 ·rw [if_neg hxy] at hcf
  have hB4 : Below w.heap.size w ((w1.setCell ⟨w.heap.size + 1 + 1 + 1, 0, none⟩ (.int .i64 x)).setCell ⟨w.heap.size + 1 + 1 + 1, 1, none⟩ (.int .i64 y)) := (hB3.setCell (p := ⟨w.heap.size + 1 + 1 + 1, 0, none⟩) hBL _).setCell (p := ⟨w.heap.size + 1 + 1 + 1, 1, none⟩) hBL _
  have s2 := (bz.setAt 0 (.int .i64 x)).setAt 1 (.int .i64 y)
  have s0 := s2.cell 0 (v := .int .i64 x) (by simp)
  have s1 := s2.cell 1 (v := .int .i64 y) (by simp)
  go_wp2
  exact bodyPost_ret (v := .tuple #[.agg #[.int .i64 x, .int .i64 y], .int .i64 0]) (by simp [results, Tryz.results9, go_sem, s0, s1]) rfl (HP.out x y 0 _ hB4 hcf)
end Go.Proofs.YtdafcipilknecaaGreatDoor
/- The reference of layer 25: Valid. -/
namespace Go.Proofs.YtdafcipilknecaaGreatDoor
set_option linter.unusedSimpArgs false
set_option linter.unusedVariables false
open Go.ChangeShapes Go.WideShapes Go.ChangeAt Go.RowKit
theorem r23_Valid (g f : Int) (w : World) : Calls Tryz.prog 40 #[.agg #[.int .i64 g, .int .i64 f]] w fun e w' => e = .returned (.bool (polB g f)) ∧ Below w.heap.size w w' := by
 have hB1 : Below w.heap.size w (w.alloc (.cells #[.int .i64 g, .int .i64 f] 26)) := (Below.refl _ _).alloc (Nat.le_refl _) _
 have e : polB g f = (decide (1 ≤ g) && (decide (g ≤ 4) && (decide (1 ≤ f) && decide (f ≤ 3)))) := by
  unfold polB
  simp only [Bool.decide_and]
 rw [e]
 clear e
 by_cases c1 : 1 ≤ g
 ·by_cases c2 : g ≤ 4
  ·by_cases c3 : 1 ≤ f
   ·by_cases c4 : f ≤ 3
    ·rw [decide_eq_true c1, decide_eq_true c2, decide_eq_true c3, decide_eq_true c4]
     go_enter Tryz.func40, Tryz.ntmps40
     go_wp2
     go_ret
     exact ⟨rfl, hB1⟩
    ·rw [decide_eq_true c1, decide_eq_true c2, decide_eq_true c3, decide_eq_false c4]
     go_enter Tryz.func40, Tryz.ntmps40
     go_wp2
     go_ret
     exact ⟨rfl, hB1⟩
   ·rw [decide_eq_true c1, decide_eq_true c2, decide_eq_false c3]
    go_enter Tryz.func40, Tryz.ntmps40
    go_wp2
    go_ret
    exact ⟨rfl, hB1⟩
  ·rw [decide_eq_true c1, decide_eq_false c2]
   go_enter Tryz.func40, Tryz.ntmps40
   go_wp2
   go_ret
   exact ⟨rfl, hB1⟩
 ·rw [decide_eq_false c1]
  go_enter Tryz.func40, Tryz.ntmps40
  go_wp2
  go_ret
  exact ⟨rfl, hB1⟩
theorem r25_Instant (t : Int) (w : World) : Calls Tryz.prog 38 #[.int .i64 t] w fun e w' => e = .returned (.bool (insT t)) ∧ w = w' := by
 unfold insT
 by_cases h1 : -62135596800 ≤ t
 ·have d1 := decide_eq_true h1
  go_enter Tryz.func38, Tryz.ntmps38
  go_wp2
  go_ret
  exact ⟨ret1 (vbool (by simp [h1])), rfl⟩
 ·have d1 := decide_eq_false h1
  go_enter Tryz.func38, Tryz.ntmps38
  go_wp2
  go_ret
  exact ⟨ret1 (vbool (by simp [h1])), rfl⟩
set_option maxRecDepth 100000 in
set_option maxHeartbeats 1500000 in
theorem r25_Valid (s : Stm) (w : World) : Calls Tryz.prog 11 #[.agg (encStm s).toArray] w fun e w' => e = .returned (.bool (stmB s)) ∧ Below w.heap.size w w' := by
 have HI := Lib.hid (fun W => r25_Instant s.at_ W)
 have HN := Lib.hid (fun W => r18_Name s.zn W)
 have HP := Lib.hid (fun W => r23_Valid s.gap s.fold W)
 have b0 := Blk.new w #[.int .i64 s.at_, .string s.zn, .int .i64 s.gap, .int .i64 s.fold] 28
 have hB1 : Below w.heap.size w (w.alloc (.cells #[.int .i64 s.at_, .string s.zn, .int .i64 s.gap, .int .i64 s.fold] 28)) := (Below.refl _ _).alloc (Nat.le_refl _) _
 have v0 := blk_cl b0 0 _ rfl
 have v1 := blk_cl b0 1 _ rfl
 have v2 := blk_cl b0 2 _ rfl
 have v3 := blk_cl b0 3 _ rfl
 have vl := b0.lt
 show Calls Tryz.prog 11 #[.agg #[.int .i64 s.at_, .string s.zn, .int .i64 s.gap, .int .i64 s.fold]] w _
 cases hi : insT s.at_
 ·rw [hi] at HI
  rw [show stmB s = false from by unfold stmB; rw [hi]; rfl]
  go_enter Tryz.func11, Tryz.ntmps11
  go_wp2_with (go_at_call 38; refine (HI.out _).mono ?_; rintro e w1 ⟨rfl, rfl⟩)
  go_ret
  exact ⟨rfl, hB1⟩
 rw [hi] at HI
 cases he : emptyB s.zn
 ·rw [show stmB s = (Cv.nameZ s.zn && polB s.gap s.fold) from by unfold stmB; rw [hi, he]; rfl]
  clear hi
  unfold emptyB at he
  cases hn : Cv.nameZ s.zn
  ·rw [hn] at HN
   rw [Bool.false_and]
   clear hn
   go_enter Tryz.func11, Tryz.ntmps11
   go_wp2_with (first | (go_at_call 38; refine (HI.out _).mono ?_; rintro e w1 ⟨rfl, rfl⟩) | (go_at_call 39; refine (HN.out _).mono ?_; rintro e w2 ⟨rfl, rfl⟩))
   go_ret
   exact ⟨rfl, hB1⟩
  ·rw [hn] at HN
   rw [Bool.true_and]
   clear hn
   go_enter Tryz.func11, Tryz.ntmps11
   go_wp2_with (first | (go_at_call 38; refine (HI.out _).mono ?_; rintro e w1 ⟨rfl, rfl⟩) | (go_at_call 39; refine (HN.out _).mono ?_; rintro e w2 ⟨rfl, rfl⟩) | (go_at_call 40; refine (HP.out _).mono ?_; rintro e w3 ⟨rfl, hb3⟩))
   go_ret
   exact ⟨rfl, hB1.trans (hb3.mono hB1.size)⟩
 ·rw [show stmB s = decide (s.gap = 0 ∧ s.fold = 0) from by unfold stmB; rw [hi, he]; rfl]
  clear hi HN HP
  unfold emptyB at he
  obtain ⟨sa, sz, sg, sf⟩ := s
  dsimp only at *
  by_cases hg : sg = 0
  ·subst hg
   by_cases hf : sf = 0
   ·subst hf
    go_enter Tryz.func11, Tryz.ntmps11
    go_wp2_with (go_at_call 38; refine (HI.out _).mono ?_; rintro e w1 ⟨rfl, rfl⟩)
    go_ret
    exact ⟨rfl, hB1⟩
   ·have d2 : (sf == 0) = false := by rw [beq_eq_false_iff_ne]; exact hf
    rw [decide_eq_false (fun h => hf h.2)]
    go_enter Tryz.func11, Tryz.ntmps11
    go_wp2_with (go_at_call 38; refine (HI.out _).mono ?_; rintro e w1 ⟨rfl, rfl⟩)
    all_goals (go_ret; exact ⟨ret1 (vbool (by simp [hf])), hB1⟩)
  ·have d1 : (sg == 0) = false := by rw [beq_eq_false_iff_ne]; exact hg
   rw [decide_eq_false (fun h => hg h.1)]
   go_enter Tryz.func11, Tryz.ntmps11
   go_wp2_with (go_at_call 38; refine (HI.out _).mono ?_; rintro e w1 ⟨rfl, rfl⟩)
   all_goals (go_ret; exact ⟨ret1 (vbool (by simp [hg])), hB1⟩)
end Go.Proofs.YtdafcipilknecaaGreatDoor
/- Two spans compare as their numbers do. -/
namespace Go.Proofs.YtdafcipilknecaaGreatDoor
set_option linter.unusedSimpArgs false
set_option linter.unusedVariables false
open Go.ChangeShapes Go.WideShapes Go.ChangeAt Go.RowKit
theorem eqlSp (a b c d : Int) (w : World) : (binOp .eql 35 (.agg #[.int .i64 a, .int .i64 b]) (.agg #[.int .i64 c, .int .i64 d])).run Tryz.prog w = .ok (.bool (decide (a = c) && decide (b = d))) w := by
 have u3 := Tryz.underlying3
 have hS : Tryz.prog.underlying 35 = some (.struct (Tryz.prog.fieldsOf 35)) := by kernel_rfl
 have hp : Tryz.prog.stoodInHeld 35 = false := by kernel_rfl
 have a3 : ∀ w, (isAgg 3).run Tryz.prog w = .ok false w := fun w => by kernel_rfl
 have z3 : ∀ w, (Go.sizeOf 3).run Tryz.prog w = .ok 1 w := fun w => by kernel_rfl
 rw [run_eql_struct, show (10000 : Nat) = 9999 + 1 from rfl, run_equalIn_agg w 9999 35 _ _ hS hp]
 simp only [Program.fieldsOf, Tryz.underlying35]
 go_simp
 by_cases h1 : a = c <;> by_cases h2 : b = d <;> simp [h1, h2]
theorem gdSp (op : BinOp) (x y : Operand) (xs ys : Array Value) (w : World) : (eqGuard op 35 x y (.agg xs) (.agg ys)).run Tryz.prog w = .ok () w := run_eqGuard_agg w op 35 x y xs ys (by kernel_rfl)
end Go.Proofs.YtdafcipilknecaaGreatDoor

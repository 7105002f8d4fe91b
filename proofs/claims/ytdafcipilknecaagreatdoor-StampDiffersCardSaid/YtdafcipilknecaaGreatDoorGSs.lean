/- Joined by merge.py: ChgZ, StS. -/
import Derived.Test.YtdafcipilknecaaGreatDoorGHis
import Derived.Test.YtdafcipilknecaaGreatDoorGStm
/- The cells of a zone that may be none. -/
namespace Go.Proofs.YtdafcipilknecaaGreatDoor
set_option linter.unusedSimpArgs false
set_option linter.unusedVariables false
theorem optZ_cells : ∀ o : Option ZV, ∃ p0 p1 p2 p3 pA p4 pC pB p5 pD p6 p7 p8, optZ o = .agg #[.string p0, .int .i64 p1, .int .i64 p2, .string p3, .slice pA p4 pC, .slice pB p5 pD, .int .i64 p6, .string p7, .int .i64 p8]
 | none => ⟨_, _, _, _, _, _, _, _, _, _, _, _, _, rfl⟩
 | some ⟨z, vT, vR, ⟨A, c, hT⟩, ⟨A', c', hR⟩⟩ => by
  subst hT hR
  exact ⟨_, _, _, _, _, _, _, _, _, _, _, _, _, rfl⟩
end Go.Proofs.YtdafcipilknecaaGreatDoor
/- stamp.Same at local stamps. Printed by gen_same.py. -/
namespace Go.Proofs.YtdafcipilknecaaGreatDoor
set_option linter.unusedSimpArgs false
set_option linter.unusedVariables false
open Go.ChangeShapes Go.WideShapes Go.ChangeAt Go.RowKit Go.Lib
def sameF (L : List VV) (a b : ByteArray) (s : Stm) : Bool × Int :=
 if validH L = true ∧ stmB s = true then (if (findF L a s.zn).2 ≠ 0 ∨ (findF L b s.zn).2 ≠ 0 then (false, 7) else (decide (rsv1 L a s = rsv1 L b s), 0)) else (false, 1)
theorem same_1 {L : List VV} {a b : ByteArray} {s : Stm} (h : ¬ (validH L = true ∧ stmB s = true)) : sameF L a b s = (false, 1) := if_neg h
theorem same_7 {L : List VV} {a b : ByteArray} {s : Stm} (h : validH L = true ∧ stmB s = true) (h2 : (findF L a s.zn).2 ≠ 0 ∨ (findF L b s.zn).2 ≠ 0) : sameF L a b s = (false, 7) := by unfold sameF; rw [if_pos h, if_pos h2]
theorem same_0 {L : List VV} {a b : ByteArray} {s : Stm} (h : validH L = true ∧ stmB s = true) (h2 : ¬ ((findF L a s.zn).2 ≠ 0 ∨ (findF L b s.zn).2 ≠ 0)) : sameF L a b s = (decide (rsv1 L a s = rsv1 L b s), 0) := by unfold sameF; rw [if_pos h, if_neg h2]
set_option maxRecDepth 100000 in
set_option maxHeartbeats 4000000 in
theorem Same_any (L : List VV) (vH : Value) (a b : ByteArray) (s : Stm) (w : World) (hm : HasMax w) (hg : GoodH w vH L) (hk : OkH L) (he : emptyB s.zn = false) :
  Calls Tryz.prog 18 #[.agg #[vH], .string a, .string b, .agg (encStm s).toArray] w fun e w' => e = .returned (.tuple #[.bool (sameF L a b s).1, .int .i64 (sameF L a b s).2]) ∧ Below w.heap.size w w' := by
 have HV := Lib.hid (fun W (hb : Below w.heap.size w W) => Valid_his L vH W (hm.on hb) (hg.on hb) hk)
 have HS := Lib.hid (fun W => stm_valid s W)
 have HF1 := Lib.hid (fun W (hb : Below w.heap.size w W) => Find_his L vH a s.zn W (hm.on hb) (hg.on hb) hk)
 have HF2 := Lib.hid (fun W (hb : Below w.heap.size w W) => Find_his L vH b s.zn W (hm.on hb) (hg.on hb) hk)
 have HR1 := Lib.hid (fun W (hb : Below w.heap.size w W) => resolve_his L vH a s W (hm.on hb) (hg.on hb) hk)
 have HR2 := Lib.hid (fun W (hb : Below w.heap.size w W) => resolve_his L vH b s W (hm.on hb) (hg.on hb) hk)
 suffices HPOST : ∀ Post : Ending → World → Prop, Hid (∀ p q w', Below w.heap.size w w' → sameF L a b s = (p, q) → Post (.returned (.tuple #[.bool p, .int .i64 q])) w') → Calls Tryz.prog 18 #[.agg #[vH], .string a, .string b, .agg (encStm s).toArray] w Post from HPOST _ (Lib.hid fun p q w' h1 h2 => by rw [h2]; exact ⟨rfl, h1⟩)
 intro Post HP
 have H1 := Lib.hid (same_1 (L := L) (a := a) (b := b) (s := s))
 have H7 := Lib.hid (same_7 (L := L) (a := a) (b := b) (s := s))
 have H0 := Lib.hid (same_0 (L := L) (a := a) (b := b) (s := s))
 obtain ⟨A, c, rfl⟩ := rd_vf hg.r
 clear hg hm hk
 generalize sameF L a b s = sm at *
 obtain ⟨p0, p1, p2, p3, pA, p4, pC, pB, p5, pD, p6, p7, p8, hp⟩ := optZ_cells (findF L a s.zn).1
 obtain ⟨q0, q1, q2, q3, qA, q4, qC, qB, q5, qD, q6, q7, q8, hq⟩ := optZ_cells (findF L b s.zn).1
 rw [hp] at HF1
 rw [hq] at HF2
 clear hp hq
 generalize (findF L a s.zn).2 = f1 at *
 generalize (findF L b s.zn).2 = f2 at *
 generalize rsv1 L a s = r1 at *
 generalize rsv1 L b s = r2 at *
 obtain ⟨x, e1⟩ := r1
 obtain ⟨y, e2⟩ := r2
 dsimp only at HR1 HR2
 obtain ⟨vv, hvv⟩ : ∃ x, validH L = x := ⟨_, rfl⟩
 obtain ⟨vs, hvs⟩ : ∃ x, stmB s = x := ⟨_, rfl⟩
 rw [hvv] at HV
 rw [hvs] at HS
 unfold emptyB at he
 obtain ⟨sa, sz, sg, sf⟩ := s
 unfold encStm at HS HR1 HR2 ⊢
 dsimp only at HS HR1 HR2 HF1 HF2 he ⊢
 show Calls Tryz.prog 18 #[.agg #[.slice A L.length c], .string a, .string b, .agg #[.int .i64 sa, .string sz, .int .i64 sg, .int .i64 sf]] w _
 have b0 := (Blk.new w #[.slice A L.length c] 24).alloc (.cells #[.int .i64 sa, .string sz, .int .i64 sg, .int .i64 sf] 28)
 have b1 := Blk.new (w.alloc (.cells #[.slice A L.length c] 24)) #[.int .i64 sa, .string sz, .int .i64 sg, .int .i64 sf] 28
 rw [World.size_alloc] at b1
 have hB2 : Below w.heap.size w ((w.alloc (.cells #[.slice A L.length c] 24)).alloc (.cells #[.int .i64 sa, .string sz, .int .i64 sg, .int .i64 sf] 28)) := ((Below.refl _ _).alloc (Nat.le_refl _) _).alloc (by simp) _
 have h0 := blk_cl b0 0 _ rfl
 have hl := b0.lt
 go_enter Tryz.func18, Tryz.ntmps18
 go_wp2_with fail
 generalize (w.alloc (.cells #[.slice A L.length c] 24)).alloc (.cells #[.int .i64 sa, .string sz, .int .i64 sg, .int .i64 sf] 28) = W at *
 clear h0 hl
 refine (HV.out W hB2).mono ?_
 rintro e w1 ⟨rfl, hb1⟩
 have hB3 := hB2.trans (hb1.mono hB2.size)
 have b0 := b0.below hb1 b0.lt
 have b1 := b1.below hb1 b1.lt
 cases vv
 ·go_wp2
  exact HP.out _ _ _ hB3 (H1.out (fun h => by rw [hvv] at h; cases h.1))
 have i0 := blk_cl b1 0 _ rfl
 have i1 := blk_cl b1 1 _ rfl
 have i2 := blk_cl b1 2 _ rfl
 have i3 := blk_cl b1 3 _ rfl
 have il := b1.lt
 go_wp2_with fail
 clear i0 i1 i2 i3 il
 refine (HS.out w1).mono ?_
 rintro e w2 ⟨rfl, hb2⟩
 have hB4 := hB3.trans (hb2.mono hB3.size)
 have b0 := b0.below hb2 b0.lt
 have b1 := b1.below hb2 b1.lt
 cases vs
 ·go_wp2
  exact HP.out _ _ _ hB4 (H1.out (fun h => by rw [hvs] at h; cases h.2))
 have H7 := Lib.hid (H7.out ⟨hvv, hvs⟩)
 have H0 := Lib.hid (H0.out ⟨hvv, hvs⟩)
 clear HV HS H1 hvv hvs hb1 hb2 hB2 hB3
 have h0 := blk_cl b0 0 _ rfl
 have hl := b0.lt
 have i0 := blk_cl b1 0 _ rfl
 have i1 := blk_cl b1 1 _ rfl
 have i2 := blk_cl b1 2 _ rfl
 have i3 := blk_cl b1 3 _ rfl
 have il := b1.lt
 go_wp2_with fail
 clear h0 hl i0 i1 i2 i3 il
 refine (HF1.out w2 hB4).mono ?_
 rintro e w3 ⟨rfl, hb3⟩
 clear HF1
 have b0 := (b0.below hb3 b0.lt).alloc (.cells #[.string p0, .int .i64 p1, .int .i64 p2, .string p3, .slice pA p4 pC, .slice pB p5 pD, .int .i64 p6, .string p7, .int .i64 p8] 48)
 have b1 := (b1.below hb3 b1.lt).alloc (.cells #[.string p0, .int .i64 p1, .int .i64 p2, .string p3, .slice pA p4 pC, .slice pB p5 pD, .int .i64 p6, .string p7, .int .i64 p8] 48)
 have hB5 := (hB4.trans (hb3.mono hB4.size)).alloc (by have := hB4.size; have := hb3.size; omega) (.cells #[.string p0, .int .i64 p1, .int .i64 p2, .string p3, .slice pA p4 pC, .slice pB p5 pD, .int .i64 p6, .string p7, .int .i64 p8] 48)
 have h0 := blk_cl b0 0 _ rfl
 have hl := b0.lt
 have i0 := blk_cl b1 0 _ rfl
 have i1 := blk_cl b1 1 _ rfl
 have i2 := blk_cl b1 2 _ rfl
 have i3 := blk_cl b1 3 _ rfl
 have il := b1.lt
 clear hb3 hB4
 go_wp2_with fail
 clear h0 hl i0 i1 i2 i3 il
 refine (HF2.out _ hB5).mono ?_
 rintro e w5 ⟨rfl, hb5⟩
 clear HF2
 have b0 := (b0.below hb5 b0.lt).alloc (.cells #[.string q0, .int .i64 q1, .int .i64 q2, .string q3, .slice qA q4 qC, .slice qB q5 qD, .int .i64 q6, .string q7, .int .i64 q8] 48)
 have b1 := (b1.below hb5 b1.lt).alloc (.cells #[.string q0, .int .i64 q1, .int .i64 q2, .string q3, .slice qA q4 qC, .slice qB q5 qD, .int .i64 q6, .string q7, .int .i64 q8] 48)
 have hB6 := (hB5.trans (hb5.mono hB5.size)).alloc (by have := hB5.size; have := hb5.size; omega) (.cells #[.string q0, .int .i64 q1, .int .i64 q2, .string q3, .slice qA q4 qC, .slice qB q5 qD, .int .i64 q6, .string q7, .int .i64 q8] 48)
 have h0 := blk_cl b0 0 _ rfl
 have hl := b0.lt
 have i0 := blk_cl b1 0 _ rfl
 have i1 := blk_cl b1 1 _ rfl
 have i2 := blk_cl b1 2 _ rfl
 have i3 := blk_cl b1 3 _ rfl
 have il := b1.lt
 clear hb5 hB5
 by_cases hf1 : f1 = 0
 case neg =>
  have d1 : (f1 == 0) = false := by rw [beq_eq_false_iff_ne]; exact hf1
  go_wp2
  exact HP.out _ _ _ hB6 (H7.out (.inl hf1))
 subst hf1
 by_cases hf2 : f2 = 0
 case neg =>
  have d1 : (f2 == 0) = false := by rw [beq_eq_false_iff_ne]; exact hf2
  go_wp2
  exact HP.out _ _ _ hB6 (H7.out (.inr hf2))
 subst hf2
 have H0 := Lib.hid (H0.out (by rintro (h | h) <;> exact h rfl))
 clear H7
 go_wp2_with fail
 clear h0 hl i0 i1 i2 i3 il
 refine (HR1.out _ hB6).mono ?_
 rintro e w7 ⟨rfl, hb7⟩
 clear HR1
 have b0 := b0.below hb7 b0.lt
 have b1 := b1.below hb7 b1.lt
 have hB7 := hB6.trans (hb7.mono hB6.size)
 have h0 := blk_cl b0 0 _ rfl
 have hl := b0.lt
 have i0 := blk_cl b1 0 _ rfl
 have i1 := blk_cl b1 1 _ rfl
 have i2 := blk_cl b1 2 _ rfl
 have i3 := blk_cl b1 3 _ rfl
 have il := b1.lt
 clear hb7 hB6
 go_wp2_with fail
 clear h0 hl i0 i1 i2 i3 il
 refine (HR2.out _ hB7).mono ?_
 rintro e w8 ⟨rfl, hb8⟩
 have hB8 := hB7.trans (hb8.mono hB7.size)
 by_cases hxy : x = y
 case neg =>
  have d1 : (x == y) = false := by rw [beq_eq_false_iff_ne]; exact hxy
  have d2 : decide (x = y) = false := decide_eq_false hxy
  go_wp2
  exact HP.out _ _ _ hB8 (by rw [H0.out, decide_eq_false (fun h => hxy (Prod.ext_iff.1 h).1)])
 subst hxy
 by_cases hee : e1 = e2
 case neg =>
  have d1 : (e1 == e2) = false := by rw [beq_eq_false_iff_ne]; exact hee
  have d2 : decide (e1 = e2) = false := decide_eq_false hee
  go_wp2
  exact HP.out _ _ _ hB8 (by rw [H0.out, decide_eq_false (fun h => hee (Prod.ext_iff.1 h).2)])
 subst hee
 go_wp2
 exact HP.out _ _ _ hB8 (by rw [H0.out]; simp)
end Go.Proofs.YtdafcipilknecaaGreatDoor

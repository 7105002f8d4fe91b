/- The law StampWalks. Printed by gen_lawsw.py. -/
import Derived.Test.YtdafcipilknecaaGreatDoorGSx
import Derived.Test.YtdafcipilknecaaGreatDoorGFew
import Derived.Test.YtdafcipilknecaaGreatDoorGSaw
import Derived.Test.YtdafcipilknecaaGreatDoorGSs
namespace Go.Proofs.YtdafcipilknecaaGreatDoor
set_option linter.unusedSimpArgs false
set_option linter.unusedVariables false
open Go.ChangeShapes Go.WideShapes Go.ChangeAt Go.RowKit Go.Sort Go.Lib
set_option maxRecDepth 100000 in
set_option maxHeartbeats 4000000 in
theorem law_StampWalks (L : List VV) (vH : Value) (vn : ByteArray) (s : Stm) (d : Int) (w : World) (hg : GoodH w vH L) (hm : HasMax w) :
  Calls Tryz.prog 4 #[.agg #[vH], .string vn, .agg (encStm s).toArray, .int .i64 d] w fun e w' => e = .returned (.bool true) ∧ Below w.heap.size w w' := by
 have HA := Lib.hid (fun W (hb : Below w.heap.size w W) => awake25_any W (hm.on hb))
 have HF := Lib.hid (fun W (hb : Below w.heap.size w W) => few25_any L vH W (hg.on hb))
 have HM1 := Lib.hid (fun (hk : OkH L) (he : emptyB s.zn = false) W (hb : Below w.heap.size w W) => Move_loc L vH vn s d W (hm.on hb) (hg.on hb) hk he)
 have HM2 := Lib.hid (fun (hk : OkH L) (he : emptyB s.zn = false) W (hb : Below w.heap.size w W) => Move_loc L vH vn (s.mv d) (-d) W (hm.on hb) (hg.on hb) hk he)
 have HR1 := Lib.hid (fun (hk : OkH L) W (hb : Below w.heap.size w W) => Resolve_his L vH vn s W (hm.on hb) (hg.on hb) hk)
 have HR2 := Lib.hid (fun (hk : OkH L) W (hb : Below w.heap.size w W) => Resolve_his L vH vn (s.mv d) W (hm.on hb) (hg.on hb) hk)
 have HF1 := Lib.hid (fun (hk : OkH L) W (hb : Below w.heap.size w W) => Find_his L vH vn s.zn W (hm.on hb) (hg.on hb) hk)
 have HIN := Lib.hid (fun (hk : OkH L) x h1 t W (hb : Below w.heap.size w W) => Ins_his L vH vn s.zn t W (hm.on hb) (hg.on hb) hk x h1)
 have HOF := Lib.hid (fun (hk : OkH L) x h1 t W (hb : Below w.heap.size w W) => Of_his L vH vn s.zn t W (hm.on hb) (hg.on hb) hk x h1)
 have HSD := Lib.hid (fun he => mov_cases L vn s d he)
 suffices HPOST : ∀ Post : Ending → World → Prop, Hid (∀ w', Below w.heap.size w w' → Post (.returned (.bool true)) w') → Calls Tryz.prog 4 #[.agg #[vH], .string vn, .agg (encStm s).toArray, .int .i64 d] w Post from HPOST _ (Lib.hid fun w' h => ⟨rfl, h⟩)
 intro Post HP
 obtain ⟨A, c, rfl⟩ := rd_vf hg.r
 clear hg hm
 obtain ⟨sa, sz, sg, sf⟩ := s
 unfold Stm.mv at HM2 HR2 HSD
 unfold encStm at HM1 HM2 HR1 HR2 ⊢
 dsimp only at HM1 HM2 HR1 HR2 HF1 HIN HOF HSD ⊢
 show Calls Tryz.prog 4 #[.agg #[.slice A L.length c], .string vn, .agg #[.int .i64 sa, .string sz, .int .i64 sg, .int .i64 sf], .int .i64 d] w _
 have b0 := (Blk.new w #[.slice A L.length c] 24).alloc (.cells #[.int .i64 sa, .string sz, .int .i64 sg, .int .i64 sf] 28)
 have b1 := Blk.new (w.alloc (.cells #[.slice A L.length c] 24)) #[.int .i64 sa, .string sz, .int .i64 sg, .int .i64 sf] 28
 rw [World.size_alloc] at b1
 have hB1 : Below w.heap.size w ((w.alloc (.cells #[.slice A L.length c] 24)).alloc (.cells #[.int .i64 sa, .string sz, .int .i64 sg, .int .i64 sf] 28)) := ((Below.refl _ _).alloc (Nat.le_refl _) _).alloc (by simp) _
 go_enter Tryz.func4, Tryz.ntmps4
 go_wp2_with fail
 generalize (w.alloc (.cells #[.slice A L.length c] 24)).alloc (.cells #[.int .i64 sa, .string sz, .int .i64 sg, .int .i64 sf] 28) = W at *
 refine (HA.out W hB1).mono ?_
 rintro e w1 ⟨rfl, hb1⟩
 have hB2 := hB1.trans (hb1.mono hB1.size)
 have b0 := b0.below hb1 b0.lt
 have b1 := b1.below hb1 b1.lt
 have h0 := blk_cl b0 0 _ rfl
 have hl := b0.lt
 go_wp2_with fail
 refine (HF.out w1 hB2).mono ?_
 rintro e w2 ⟨rfl, hb2⟩
 have hB3 := hB2.trans (hb2.mono hB2.size)
 have b0 := b0.below hb2 b0.lt
 have b1 := b1.below hb2 b1.lt
 clear h0 hl hb1 hb2 HF hB1 hB2
 cases hf : fewH L
 case false =>
  clear hf
  go_wp2_with (go_at_call 6; refine (HA.out w2 hB3).mono ?_; rintro e w3 ⟨rfl, hb3⟩)
  exact HP.out _ (hB3.trans (hb3.mono hB3.size))
 have hok := (fewH_ok hf).1
 clear hf
 by_cases ha : (60 : Int) < (vn.size : Int)
 case pos =>
  have da := decide_eq_true ha
  go_wp2_with (go_at_call 6; refine (HA.out w2 hB3).mono ?_; rintro e w3 ⟨rfl, hb3⟩)
  exact HP.out _ (hB3.trans (hb3.mono hB3.size))
 have da := decide_eq_false ha
 have i0 := blk_cl b1 0 _ rfl
 have i1 := blk_cl b1 1 _ rfl
 have i2 := blk_cl b1 2 _ rfl
 have i3 := blk_cl b1 3 _ rfl
 have il := b1.lt
 cases he : emptyB sz
 case true =>
  unfold emptyB at he
  go_wp2_with (go_at_call 6; refine (HA.out w2 hB3).mono ?_; rintro e w3 ⟨rfl, hb3⟩)
  exact HP.out _ (hB3.trans (hb3.mono hB3.size))
 have HE := Lib.hid he
 unfold emptyB at he
 by_cases hz : (60 : Int) < (sz.size : Int)
 case pos =>
  have dz := decide_eq_true hz
  go_wp2_with (go_at_call 6; refine (HA.out w2 hB3).mono ?_; rintro e w3 ⟨rfl, hb3⟩)
  exact HP.out _ (hB3.trans (hb3.mono hB3.size))
 have dz := decide_eq_false hz
 clear ha hz HA
 have HM1 := Lib.hid (HM1.out hok HE.out)
 have HM2 := Lib.hid (HM2.out hok HE.out)
 have HR1 := Lib.hid (HR1.out hok)
 have HR2 := Lib.hid (HR2.out hok)
 have HF1 := Lib.hid (HF1.out hok)
 have HIN := Lib.hid (HIN.out hok)
 have HOF := Lib.hid (HOF.out hok)
 have HSD := Lib.hid (HSD.out HE.out)
 have hok2 := hok
 clear hok HE
 have h0 := blk_cl b0 0 _ rfl
 have hl := b0.lt
 go_wp2_with fail
 clear h0 hl i0 i1 i2 i3 il
 refine (HM1.out w2 hB3).mono ?_
 rintro e w3 ⟨rfl, hb3⟩
 clear HM1 da dz he
 rcases HSD.out with ⟨e1, h1, h2⟩ | ⟨zv, r, y0, e2, hmv, hfx, hx2, hin, hr1, hr2, hm2, hz1, hz2, hlen⟩
 ·rw [h1]
  have d1 : (e1 != 0) = true := bne_iff_ne.2 h2
  have hB4 := (hB3.trans (hb3.mono hB3.size)).alloc (by have := hB3.size; have := hb3.size; omega) (.cells #[.int .i64 0, .string ⟨#[]⟩, .int .i64 0, .int .i64 0] 28)
  have bx := Blk.new w3 #[.int .i64 0, .string ⟨#[]⟩, .int .i64 0, .int .i64 0] 28
  have x0 := blk_cl bx 0 _ rfl
  have x1 := blk_cl bx 1 _ rfl
  have x2 := blk_cl bx 2 _ rfl
  have x3 := blk_cl bx 3 _ rfl
  have xl := bx.lt
  have hq := fun W => eqlSt 0 0 0 ⟨#[]⟩ W
  have hgd := gdSt
  unfold stZ
  clear bx HSD
  go_wp2
  exact HP.out _ hB4
 rw [hmv]
 rw [hr1] at HR1
 rw [hr2] at HR2
 rw [hm2] at HM2
 rw [hfx, hx2] at HF1
 have HIN := Lib.hid (HIN.out zv hfx (sa + 86400 * d))
 have HOF := Lib.hid (HOF.out zv hfx r)
 clear HSD hmv hfx hx2 hr1 hr2 hm2
 dsimp only at HR1 HR2 HM2
 have hB4 := (hB3.trans (hb3.mono hB3.size)).alloc (by have := hB3.size; have := hb3.size; omega) (.cells #[.int .i64 (sa + 86400 * d), .string sz, .int .i64 sg, .int .i64 sf] 28)
 have bx := Blk.new w3 #[.int .i64 (sa + 86400 * d), .string sz, .int .i64 sg, .int .i64 sf] 28
 have b0 := (b0.below hb3 b0.lt).alloc (.cells #[.int .i64 (sa + 86400 * d), .string sz, .int .i64 sg, .int .i64 sf] 28)
 have b1 := (b1.below hb3 b1.lt).alloc (.cells #[.int .i64 (sa + 86400 * d), .string sz, .int .i64 sg, .int .i64 sf] 28)
 clear hb3 hB3
 rw [hz1] at HIN
 have HIC := Lib.hid hz2
 have HLN := Lib.hid (hlen hok2)
 generalize zv.z.insts (sa + 86400 * d) = IL at *
 have HZO := Lib.hid (optZ_cells (some zv))
 clear hz1 hz2 hlen
 have hn1 : (sa + 86400 * d != sa + d * 86400) = false := by rw [bne_eq_false_iff_eq]; omega
 have hqp := fun W => neqPo sg sf W
 have hgp := gdPo
 obtain ⟨ba, bz, bg, bf, hbk⟩ : ∃ ba bz bg bf, (if e2 = 0 then (⟨sa, sz, sg, sf⟩ : Stm) else stZ) = ⟨ba, bz, bg, bf⟩ := ⟨_, _, _, _, rfl⟩
 rw [hbk] at HM2
 have HBK := Lib.hid (show e2 = 0 → (sa = ba ∧ sz = bz ∧ sg = bg ∧ sf = bf) from fun h => by rw [if_pos h] at hbk; injection hbk with q1 q2 q3 q4; exact ⟨q1, q2, q3, q4⟩)
 clear hbk
 dsimp only at HM2 HIN
 have h0 := blk_cl b0 0 _ rfl
 have hl := b0.lt
 have i0 := blk_cl b1 0 _ rfl
 have i1 := blk_cl b1 1 _ rfl
 have i2 := blk_cl b1 2 _ rfl
 have i3 := blk_cl b1 3 _ rfl
 have il := b1.lt
 have m0 := blk_cl bx 0 _ rfl
 have m1 := blk_cl bx 1 _ rfl
 have m2 := blk_cl bx 2 _ rfl
 have m3 := blk_cl bx 3 _ rfl
 have ml := bx.lt
 go_wp2_with fail
 clear h0 hl i0 i1 i2 i3 il m0 m1 m2 m3 ml
 generalize w3.alloc (.cells #[.int .i64 (sa + 86400 * d), .string sz, .int .i64 sg, .int .i64 sf] 28) = w4 at *
 refine (HM2.out w4 hB4).mono ?_
 rintro e w5 ⟨rfl, hb5⟩
 have hB5 := (hB4.trans (hb5.mono hB4.size)).alloc (by have := hB4.size; have := hb5.size; omega) (.cells #[.int .i64 ba, .string bz, .int .i64 bg, .int .i64 bf] 28)
 have b0 := (b0.below hb5 b0.lt).alloc (.cells #[.int .i64 ba, .string bz, .int .i64 bg, .int .i64 bf] 28)
 have b1 := (b1.below hb5 b1.lt).alloc (.cells #[.int .i64 ba, .string bz, .int .i64 bg, .int .i64 bf] 28)
 have bx := (bx.below hb5 bx.lt).alloc (.cells #[.int .i64 ba, .string bz, .int .i64 bg, .int .i64 bf] 28)
 have bb := Blk.new w5 #[.int .i64 ba, .string bz, .int .i64 bg, .int .i64 bf] 28
 clear hb5 hB4 HM2 hqp hgp hn1
 have h0 := blk_cl b0 0 _ rfl
 have hl := b0.lt
 have i0 := blk_cl b1 0 _ rfl
 have i1 := blk_cl b1 1 _ rfl
 have i2 := blk_cl b1 2 _ rfl
 have i3 := blk_cl b1 3 _ rfl
 have il := b1.lt
 go_wp2_with fail
 clear h0 hl i0 i1 i2 i3 il
 generalize w5.alloc (.cells #[.int .i64 ba, .string bz, .int .i64 bg, .int .i64 bf] 28) = w6 at *
 refine (HR1.out w6 hB5).mono ?_
 rintro e w7 ⟨rfl, hb7⟩
 have hB7 := hB5.trans (hb7.mono hB5.size)
 have b0 := b0.below hb7 b0.lt
 have b1 := b1.below hb7 b1.lt
 have bx := bx.below hb7 bx.lt
 have bb := bb.below hb7 bb.lt
 clear hb7 hB5 HR1
 have HQ := Lib.hid (fun W => neqSt sa sg sf sz W)
 have hgs := gdSt
 by_cases he2 : e2 = 0
 ·obtain ⟨rfl, rfl, rfl, rfl⟩ := HBK.out he2
  subst he2
  have hqs := HQ.out
  clear HBK HQ
  have k0 := blk_cl bb 0 _ rfl
  have k1 := blk_cl bb 1 _ rfl
  have k2 := blk_cl bb 2 _ rfl
  have k3 := blk_cl bb 3 _ rfl
  have kl := bb.lt
  have h0 := blk_cl b0 0 _ rfl
  have hl := b0.lt
  have i0 := blk_cl b1 0 _ rfl
  have i1 := blk_cl b1 1 _ rfl
  have i2 := blk_cl b1 2 _ rfl
  have i3 := blk_cl b1 3 _ rfl
  have il := b1.lt
  have m0 := blk_cl bx 0 _ rfl
  have m1 := blk_cl bx 1 _ rfl
  have m2 := blk_cl bx 2 _ rfl
  have m3 := blk_cl bx 3 _ rfl
  have ml := bx.lt
  go_wp2_with fail
  clear h0 hl i0 i1 i2 i3 il m0 m1 m2 m3 ml
  refine (HR2.out w7 hB7).mono ?_
  rintro e w8 ⟨rfl, hb8⟩
  have hB8 := hB7.trans (hb8.mono hB7.size)
  have b0 := b0.below hb8 b0.lt
  have bx := bx.below hb8 bx.lt
  clear hb8 hB7 b1
  obtain ⟨p0, p1, p2, p3, pA, p4, pC, pB, p5, pD, p6, p7, p8, hp⟩ := HZO.out
  rw [hp] at HF1
  have hpv : zv.z.v zv.vT zv.vR = _ := hp
  rw [hpv] at HIN HOF
  clear hp hpv
  have h0 := blk_cl b0 0 _ rfl
  have hl := b0.lt
  have m0 := blk_cl bx 0 _ rfl
  have m1 := blk_cl bx 1 _ rfl
  have m2 := blk_cl bx 2 _ rfl
  have m3 := blk_cl bx 3 _ rfl
  have ml := bx.lt
  go_wp2_with fail
  clear h0 hl m0 m1 m2 m3 ml
  refine (HF1.out w8 hB8).mono ?_
  rintro e w9 ⟨rfl, hb9⟩
  have hB9 := (hB8.trans (hb9.mono hB8.size)).alloc (by have := hB8.size; have := hb9.size; omega) (.cells #[.string p0, .int .i64 p1, .int .i64 p2, .string p3, .slice pA p4 pC, .slice pB p5 pD, .int .i64 p6, .string p7, .int .i64 p8] 48)
  have bx := (bx.below hb9 bx.lt).alloc (.cells #[.string p0, .int .i64 p1, .int .i64 p2, .string p3, .slice pA p4 pC, .slice pB p5 pD, .int .i64 p6, .string p7, .int .i64 p8] 48)
  have bq := Blk.new w9 #[.string p0, .int .i64 p1, .int .i64 p2, .string p3, .slice pA p4 pC, .slice pB p5 pD, .int .i64 p6, .string p7, .int .i64 p8] 48
  clear hb9 hB8 b0
  have m0 := blk_cl bx 0 _ rfl
  have m1 := blk_cl bx 1 _ rfl
  have m2 := blk_cl bx 2 _ rfl
  have m3 := blk_cl bx 3 _ rfl
  have ml := bx.lt
  have q0 := blk_cl bq 0 _ rfl
  have q1 := blk_cl bq 1 _ rfl
  have q2 := blk_cl bq 2 _ rfl
  have q3 := blk_cl bq 3 _ rfl
  have q4 := blk_cl bq 4 _ rfl
  have q5 := blk_cl bq 5 _ rfl
  have q6 := blk_cl bq 6 _ rfl
  have q7 := blk_cl bq 7 _ rfl
  have q8 := blk_cl bq 8 _ rfl
  have ql := bq.lt
  go_wp2_with fail
  clear m0 m1 m2 m3 ml q0 q1 q2 q3 q4 q5 q6 q7 q8 ql
  generalize w9.alloc (.cells #[.string p0, .int .i64 p1, .int .i64 p2, .string p3, .slice pA p4 pC, .slice pB p5 pD, .int .i64 p6, .string p7, .int .i64 p8] 48) = wA at *
  refine (HIN.out wA hB9).mono ?_
  rintro e wB ⟨u, rfl, hown, hbB⟩
  have hBB := hB9.trans (hbB.mono hB9.size)
  have bx := bx.below hbB bx.lt
  have bq := bq.below hbB bq.lt
  obtain ⟨Au, cu, rfl⟩ := own_formN hown
  have HOWN := Lib.hid hown
  clear hbB hB9 hown
  by_cases hne : IL = []
  ·subst hne
   have hl0 : (([] : List Int).length : Int) = 0 := rfl
   go_wp2
   exact HP.out _ hBB
  obtain ⟨hof, hmem⟩ := HIC.out hne
  rw [hof] at HOF
  dsimp only at HOF
  have hlp : ((IL.length : Int) == 0) = false := by rw [beq_eq_false_iff_ne]; have := List.length_pos_iff.2 hne; omega
  have hco : IL.contains r = true := by simpa using hmem
  have HCO := Lib.hid (fun W hb => contains_any (W := W) r (own_on HOWN.out hb) HLN.out)
  rw [hco] at HCO
  clear hof hmem hne hco HIC
  obtain ⟨nI, hnI⟩ : ∃ n, IL.length = n := ⟨_, rfl⟩
  have HCO := Lib.hid (fun W hb => HCO.out W hb)
  rw [hnI] at HCO hlp ⊢
  clear hnI HOWN HLN
  have m0 := blk_cl bx 0 _ rfl
  have m1 := blk_cl bx 1 _ rfl
  have m2 := blk_cl bx 2 _ rfl
  have m3 := blk_cl bx 3 _ rfl
  have ml := bx.lt
  have q0 := blk_cl bq 0 _ rfl
  have q1 := blk_cl bq 1 _ rfl
  have q2 := blk_cl bq 2 _ rfl
  have q3 := blk_cl bq 3 _ rfl
  have q4 := blk_cl bq 4 _ rfl
  have q5 := blk_cl bq 5 _ rfl
  have q6 := blk_cl bq 6 _ rfl
  have q7 := blk_cl bq 7 _ rfl
  have q8 := blk_cl bq 8 _ rfl
  have ql := bq.lt
  go_wp2_with fail
  clear m0 m1 m2 m3 ml q0 q1 q2 q3 q4 q5 q6 q7 q8 ql
  refine (HOF.out wB hBB).mono ?_
  rintro e wC ⟨rfl, hbC⟩
  have hBC := hBB.trans (hbC.mono hBB.size)
  have bx := bx.below hbC bx.lt
  have m0 := blk_cl bx 0 _ rfl
  have m1 := blk_cl bx 1 _ rfl
  have m2 := blk_cl bx 2 _ rfl
  have m3 := blk_cl bx 3 _ rfl
  have ml := bx.lt
  go_wp2_with fail
  refine (HCO.out wC hbC).mono ?_
  rintro e wD ⟨rfl, rfl⟩
  go_wp2
  exact HP.out _ hBC
 ·have d1 : (e2 == 0) = false := by rw [beq_eq_false_iff_ne]; exact he2
  clear HBK HQ hgs
  have h0 := blk_cl b0 0 _ rfl
  have hl := b0.lt
  have i0 := blk_cl b1 0 _ rfl
  have i1 := blk_cl b1 1 _ rfl
  have i2 := blk_cl b1 2 _ rfl
  have i3 := blk_cl b1 3 _ rfl
  have il := b1.lt
  have m0 := blk_cl bx 0 _ rfl
  have m1 := blk_cl bx 1 _ rfl
  have m2 := blk_cl bx 2 _ rfl
  have m3 := blk_cl bx 3 _ rfl
  have ml := bx.lt
  go_wp2_with fail
  clear h0 hl i0 i1 i2 i3 il m0 m1 m2 m3 ml
  refine (HR2.out w7 hB7).mono ?_
  rintro e w8 ⟨rfl, hb8⟩
  have hB8 := hB7.trans (hb8.mono hB7.size)
  have b0 := b0.below hb8 b0.lt
  have bx := bx.below hb8 bx.lt
  clear hb8 hB7 b1
  obtain ⟨p0, p1, p2, p3, pA, p4, pC, pB, p5, pD, p6, p7, p8, hp⟩ := HZO.out
  rw [hp] at HF1
  have hpv : zv.z.v zv.vT zv.vR = _ := hp
  rw [hpv] at HIN HOF
  clear hp hpv
  have h0 := blk_cl b0 0 _ rfl
  have hl := b0.lt
  have m0 := blk_cl bx 0 _ rfl
  have m1 := blk_cl bx 1 _ rfl
  have m2 := blk_cl bx 2 _ rfl
  have m3 := blk_cl bx 3 _ rfl
  have ml := bx.lt
  go_wp2_with fail
  clear h0 hl m0 m1 m2 m3 ml
  refine (HF1.out w8 hB8).mono ?_
  rintro e w9 ⟨rfl, hb9⟩
  have hB9 := (hB8.trans (hb9.mono hB8.size)).alloc (by have := hB8.size; have := hb9.size; omega) (.cells #[.string p0, .int .i64 p1, .int .i64 p2, .string p3, .slice pA p4 pC, .slice pB p5 pD, .int .i64 p6, .string p7, .int .i64 p8] 48)
  have bx := (bx.below hb9 bx.lt).alloc (.cells #[.string p0, .int .i64 p1, .int .i64 p2, .string p3, .slice pA p4 pC, .slice pB p5 pD, .int .i64 p6, .string p7, .int .i64 p8] 48)
  have bq := Blk.new w9 #[.string p0, .int .i64 p1, .int .i64 p2, .string p3, .slice pA p4 pC, .slice pB p5 pD, .int .i64 p6, .string p7, .int .i64 p8] 48
  clear hb9 hB8 b0
  have m0 := blk_cl bx 0 _ rfl
  have m1 := blk_cl bx 1 _ rfl
  have m2 := blk_cl bx 2 _ rfl
  have m3 := blk_cl bx 3 _ rfl
  have ml := bx.lt
  have q0 := blk_cl bq 0 _ rfl
  have q1 := blk_cl bq 1 _ rfl
  have q2 := blk_cl bq 2 _ rfl
  have q3 := blk_cl bq 3 _ rfl
  have q4 := blk_cl bq 4 _ rfl
  have q5 := blk_cl bq 5 _ rfl
  have q6 := blk_cl bq 6 _ rfl
  have q7 := blk_cl bq 7 _ rfl
  have q8 := blk_cl bq 8 _ rfl
  have ql := bq.lt
  go_wp2_with fail
  clear m0 m1 m2 m3 ml q0 q1 q2 q3 q4 q5 q6 q7 q8 ql
  generalize w9.alloc (.cells #[.string p0, .int .i64 p1, .int .i64 p2, .string p3, .slice pA p4 pC, .slice pB p5 pD, .int .i64 p6, .string p7, .int .i64 p8] 48) = wA at *
  refine (HIN.out wA hB9).mono ?_
  rintro e wB ⟨u, rfl, hown, hbB⟩
  have hBB := hB9.trans (hbB.mono hB9.size)
  have bx := bx.below hbB bx.lt
  have bq := bq.below hbB bq.lt
  obtain ⟨Au, cu, rfl⟩ := own_formN hown
  have HOWN := Lib.hid hown
  clear hbB hB9 hown
  by_cases hne : IL = []
  ·subst hne
   have hl0 : (([] : List Int).length : Int) = 0 := rfl
   go_wp2
   exact HP.out _ hBB
  obtain ⟨hof, hmem⟩ := HIC.out hne
  rw [hof] at HOF
  dsimp only at HOF
  have hlp : ((IL.length : Int) == 0) = false := by rw [beq_eq_false_iff_ne]; have := List.length_pos_iff.2 hne; omega
  have hco : IL.contains r = true := by simpa using hmem
  have HCO := Lib.hid (fun W hb => contains_any (W := W) r (own_on HOWN.out hb) HLN.out)
  rw [hco] at HCO
  clear hof hmem hne hco HIC
  obtain ⟨nI, hnI⟩ : ∃ n, IL.length = n := ⟨_, rfl⟩
  have HCO := Lib.hid (fun W hb => HCO.out W hb)
  rw [hnI] at HCO hlp ⊢
  clear hnI HOWN HLN
  have m0 := blk_cl bx 0 _ rfl
  have m1 := blk_cl bx 1 _ rfl
  have m2 := blk_cl bx 2 _ rfl
  have m3 := blk_cl bx 3 _ rfl
  have ml := bx.lt
  have q0 := blk_cl bq 0 _ rfl
  have q1 := blk_cl bq 1 _ rfl
  have q2 := blk_cl bq 2 _ rfl
  have q3 := blk_cl bq 3 _ rfl
  have q4 := blk_cl bq 4 _ rfl
  have q5 := blk_cl bq 5 _ rfl
  have q6 := blk_cl bq 6 _ rfl
  have q7 := blk_cl bq 7 _ rfl
  have q8 := blk_cl bq 8 _ rfl
  have ql := bq.lt
  go_wp2_with fail
  clear m0 m1 m2 m3 ml q0 q1 q2 q3 q4 q5 q6 q7 q8 ql
  refine (HOF.out wB hBB).mono ?_
  rintro e wC ⟨rfl, hbC⟩
  have hBC := hBB.trans (hbC.mono hBB.size)
  have bx := bx.below hbC bx.lt
  have m0 := blk_cl bx 0 _ rfl
  have m1 := blk_cl bx 1 _ rfl
  have m2 := blk_cl bx 2 _ rfl
  have m3 := blk_cl bx 3 _ rfl
  have ml := bx.lt
  go_wp2_with fail
  refine (HCO.out wC hbC).mono ?_
  rintro e wD ⟨rfl, rfl⟩
  go_wp2
  exact HP.out _ hBC
end Go.Proofs.YtdafcipilknecaaGreatDoor

/- The law StampDiffers. Printed by gen_lawsd.py. -/
import Derived.Test.YtdafcipilknecaaGreatDoorGSl
import Derived.Test.YtdafcipilknecaaGreatDoorGSs
import Derived.Test.YtdafcipilknecaaGreatDoorGFew
import Derived.Test.YtdafcipilknecaaGreatDoorGSaw
namespace Go.Proofs.YtdafcipilknecaaGreatDoor
set_option linter.unusedSimpArgs false
set_option linter.unusedVariables false
open Go.ChangeShapes Go.WideShapes Go.ChangeAt Go.RowKit Go.Sort Go.Lib
set_option maxRecDepth 100000 in
set_option maxHeartbeats 4000000 in
theorem law_StampDiffers (L : List VV) (vH : Value) (a b : ByteArray) (s : Stm) (w : World) (hg : GoodH w vH L) (hm : HasMax w) :
  Calls Tryz.prog 5 #[.agg #[vH], .string a, .string b, .agg (encStm s).toArray] w fun e w' => e = .returned (.bool true) ∧ Below w.heap.size w w' := by
 have HA := Lib.hid (fun W (hb : Below w.heap.size w W) => awake25_any W (hm.on hb))
 have HF := Lib.hid (fun W (hb : Below w.heap.size w W) => few25_any L vH W (hg.on hb))
 have HSM := Lib.hid (fun (hk : OkH L) (he : emptyB s.zn = false) W (hb : Below w.heap.size w W) => Same_any L vH a b s W (hm.on hb) (hg.on hb) hk he)
 have HF1 := Lib.hid (fun (hk : OkH L) W (hb : Below w.heap.size w W) => Find_his L vH a s.zn W (hm.on hb) (hg.on hb) hk)
 have HF2 := Lib.hid (fun (hk : OkH L) W (hb : Below w.heap.size w W) => Find_his L vH b s.zn W (hm.on hb) (hg.on hb) hk)
 have HLO := Lib.hid (fun (hk : OkH L) x y h1 h2 ht hp hH W (hb : Below w.heap.size w W) => Loc_his1 L vH a b s.zn s.at_ s.gap s.fold W (hm.on hb) (hg.on hb) hk x y h1 h2 ht hp hH)
 unfold LocOne at HLO
 have HSD := Lib.hid (fun he => same_cases L a b s he)
 suffices HPOST : ∀ Post : Ending → World → Prop, Hid (∀ w', Below w.heap.size w w' → Post (.returned (.bool true)) w') → Calls Tryz.prog 5 #[.agg #[vH], .string a, .string b, .agg (encStm s).toArray] w Post from HPOST _ (Lib.hid fun w' h => ⟨rfl, h⟩)
 intro Post HP
 obtain ⟨A, c, rfl⟩ := rd_vf hg.r
 clear hg hm
 obtain ⟨sa, sz, sg, sf⟩ := s
 unfold encStm at HSM ⊢
 dsimp only at HSM HF1 HF2 HLO HSD ⊢
 show Calls Tryz.prog 5 #[.agg #[.slice A L.length c], .string a, .string b, .agg #[.int .i64 sa, .string sz, .int .i64 sg, .int .i64 sf]] w _
 have b0 := (Blk.new w #[.slice A L.length c] 24).alloc (.cells #[.int .i64 sa, .string sz, .int .i64 sg, .int .i64 sf] 28)
 have b1 := Blk.new (w.alloc (.cells #[.slice A L.length c] 24)) #[.int .i64 sa, .string sz, .int .i64 sg, .int .i64 sf] 28
 rw [World.size_alloc] at b1
 have hB1 : Below w.heap.size w ((w.alloc (.cells #[.slice A L.length c] 24)).alloc (.cells #[.int .i64 sa, .string sz, .int .i64 sg, .int .i64 sf] 28)) := ((Below.refl _ _).alloc (Nat.le_refl _) _).alloc (by simp) _
 go_enter Tryz.func5, Tryz.ntmps5
 go_wp2_with fail
 generalize (w.alloc (.cells #[.slice A L.length c] 24)).alloc (.cells #[.int .i64 sa, .string sz, .int .i64 sg, .int .i64 sf] 28) = W at *
 refine (HA.out W hB1).mono ?_
 rintro e w1 ⟨rfl, hb1⟩
 have hB2 := hB1.trans (hb1.mono hB1.size)
 have b0 := b0.below hb1 b0.lt
 have b1 := b1.below hb1 b1.lt
 have h0 := blk_cl b0 0 _ rfl
 have hl := b0.lt
 go_wp2_with fail
 refine (HF.out w1 hB2).mono ?_
 rintro e w2 ⟨rfl, hb2⟩
 have hB3 := hB2.trans (hb2.mono hB2.size)
 have b0 := b0.below hb2 b0.lt
 have b1 := b1.below hb2 b1.lt
 clear h0 hl hb1 hb2 HF hB1 hB2
 cases hf : fewH L
 case false =>
  clear hf
  go_wp2_with (go_at_call 6; refine (HA.out w2 hB3).mono ?_; rintro e w3 ⟨rfl, hb3⟩)
  exact HP.out _ (hB3.trans (hb3.mono hB3.size))
 have hok := (fewH_ok hf).1
 clear hf
 by_cases ha : (60 : Int) < (a.size : Int)
 case pos =>
  have da := decide_eq_true ha
  go_wp2_with (go_at_call 6; refine (HA.out w2 hB3).mono ?_; rintro e w3 ⟨rfl, hb3⟩)
  exact HP.out _ (hB3.trans (hb3.mono hB3.size))
 have da := decide_eq_false ha
 by_cases hb : (60 : Int) < (b.size : Int)
 case pos =>
  have db := decide_eq_true hb
  go_wp2_with (go_at_call 6; refine (HA.out w2 hB3).mono ?_; rintro e w3 ⟨rfl, hb3⟩)
  exact HP.out _ (hB3.trans (hb3.mono hB3.size))
 have db := decide_eq_false hb
 have i0 := blk_cl b1 0 _ rfl
 have i1 := blk_cl b1 1 _ rfl
 have i2 := blk_cl b1 2 _ rfl
 have i3 := blk_cl b1 3 _ rfl
 have il := b1.lt
 cases he : emptyB sz
 case true =>
  unfold emptyB at he
  go_wp2_with (go_at_call 6; refine (HA.out w2 hB3).mono ?_; rintro e w3 ⟨rfl, hb3⟩)
  exact HP.out _ (hB3.trans (hb3.mono hB3.size))
 have HE := Lib.hid he
 unfold emptyB at he
 by_cases hz : (60 : Int) < (sz.size : Int)
 case pos =>
  have dz := decide_eq_true hz
  go_wp2_with (go_at_call 6; refine (HA.out w2 hB3).mono ?_; rintro e w3 ⟨rfl, hb3⟩)
  exact HP.out _ (hB3.trans (hb3.mono hB3.size))
 have dz := decide_eq_false hz
 clear ha hb hz HA
 have HSM := Lib.hid (HSM.out hok HE.out)
 have HF1 := Lib.hid (HF1.out hok)
 have HF2 := Lib.hid (HF2.out hok)
 have HLO := Lib.hid (HLO.out hok)
 have HSD := Lib.hid (HSD.out HE.out)
 clear hok HE
 have h0 := blk_cl b0 0 _ rfl
 have hl := b0.lt
 generalize hsm : sameF L a b ⟨sa, sz, sg, sf⟩ = sm at *
 obtain ⟨ok, er⟩ := sm
 dsimp only at HSM
 go_wp2_with fail
 clear h0 hl i0 i1 i2 i3 il
 refine (HSM.out w2 hB3).mono ?_
 rintro e w3 ⟨rfl, hb3⟩
 have hB4 := hB3.trans (hb3.mono hB3.size)
 have b0 := b0.below hb3 b0.lt
 have b1 := b1.below hb3 b1.lt
 clear hb3 hB3 HSM da db dz he
 rcases HSD.out with ⟨h1, h2⟩ | ⟨x0, y0, ⟨hfx, hx2⟩, ⟨hfy, hy2⟩, h1, hsp, hpo, hhv⟩
 ·try dsimp only at h1 h2
  obtain rfl : ok = false := h1
  have d1 : (er != 0) = true := bne_iff_ne.2 h2
  go_wp2
  exact HP.out _ hB4
 injection h1 with h1 h2
 subst h2
 have HOK := Lib.hid h1
 clear h1
 have HLO := Lib.hid (HLO.out x0 y0 hfx hfy hsp hpo hhv)
 rw [hfx, hx2] at HF1
 rw [hfy, hy2] at HF2
 clear HSD hfx hfy hx2 hy2
 obtain ⟨x, vT1, vR1, ⟨AT1, cT1, rfl⟩, ⟨AR1, cR1, rfl⟩⟩ := x0
 obtain ⟨y, vT2, vR2, ⟨AT2, cT2, rfl⟩, ⟨AR2, cR2, rfl⟩⟩ := y0
 dsimp only at HLO HOK
 unfold Zn.v at HLO
 rw [show optZ (some ⟨x, .slice AT1 x.table.length cT1, .slice AR1 x.tail.length cR1, ⟨AT1, cT1, rfl⟩, ⟨AR1, cR1, rfl⟩⟩) = .agg #[.string x.nm, .int .i64 x.first.off, .int .i64 x.first.sv, .string x.first.nm, .slice AT1 x.table.length cT1, .slice AR1 x.tail.length cR1, .int .i64 x.off, .string x.form, .int .i64 x.year] from rfl] at HF1
 rw [show optZ (some ⟨y, .slice AT2 y.table.length cT2, .slice AR2 y.tail.length cR2, ⟨AT2, cT2, rfl⟩, ⟨AR2, cR2, rfl⟩⟩) = .agg #[.string y.nm, .int .i64 y.first.off, .int .i64 y.first.sv, .string y.first.nm, .slice AT2 y.table.length cT2, .slice AR2 y.tail.length cR2, .int .i64 y.off, .string y.form, .int .i64 y.year] from rfl] at HF2
 have h0 := blk_cl b0 0 _ rfl
 have hl := b0.lt
 have i0 := blk_cl b1 0 _ rfl
 have i1 := blk_cl b1 1 _ rfl
 have i2 := blk_cl b1 2 _ rfl
 have i3 := blk_cl b1 3 _ rfl
 have il := b1.lt
 go_wp2_with fail
 clear h0 hl i0 i1 i2 i3 il
 refine (HF1.out w3 hB4).mono ?_
 rintro e w4 ⟨rfl, hb4⟩
 clear HF1
 have b0 := (b0.below hb4 b0.lt).alloc (.cells #[.string x.nm, .int .i64 x.first.off, .int .i64 x.first.sv, .string x.first.nm, .slice AT1 x.table.length cT1, .slice AR1 x.tail.length cR1, .int .i64 x.off, .string x.form, .int .i64 x.year] 48)
 have b1 := (b1.below hb4 b1.lt).alloc (.cells #[.string x.nm, .int .i64 x.first.off, .int .i64 x.first.sv, .string x.first.nm, .slice AT1 x.table.length cT1, .slice AR1 x.tail.length cR1, .int .i64 x.off, .string x.form, .int .i64 x.year] 48)
 have bx := Blk.new w4 #[.string x.nm, .int .i64 x.first.off, .int .i64 x.first.sv, .string x.first.nm, .slice AT1 x.table.length cT1, .slice AR1 x.tail.length cR1, .int .i64 x.off, .string x.form, .int .i64 x.year] 48
 have hB5 := (hB4.trans (hb4.mono hB4.size)).alloc (by have := hB4.size; have := hb4.size; omega) (.cells #[.string x.nm, .int .i64 x.first.off, .int .i64 x.first.sv, .string x.first.nm, .slice AT1 x.table.length cT1, .slice AR1 x.tail.length cR1, .int .i64 x.off, .string x.form, .int .i64 x.year] 48)
 clear hb4 hB4
 have h0 := blk_cl b0 0 _ rfl
 have hl := b0.lt
 have i0 := blk_cl b1 0 _ rfl
 have i1 := blk_cl b1 1 _ rfl
 have i2 := blk_cl b1 2 _ rfl
 have i3 := blk_cl b1 3 _ rfl
 have il := b1.lt
 go_wp2_with fail
 clear h0 hl i0 i1 i2 i3 il
 generalize w4.alloc (.cells #[.string x.nm, .int .i64 x.first.off, .int .i64 x.first.sv, .string x.first.nm, .slice AT1 x.table.length cT1, .slice AR1 x.tail.length cR1, .int .i64 x.off, .string x.form, .int .i64 x.year] 48) = w5 at *
 refine (HF2.out w5 hB5).mono ?_
 rintro e w6 ⟨rfl, hb6⟩
 clear HF2
 have b1 := (b1.below hb6 b1.lt).alloc (.cells #[.string y.nm, .int .i64 y.first.off, .int .i64 y.first.sv, .string y.first.nm, .slice AT2 y.table.length cT2, .slice AR2 y.tail.length cR2, .int .i64 y.off, .string y.form, .int .i64 y.year] 48)
 have bx := (bx.below hb6 bx.lt).alloc (.cells #[.string y.nm, .int .i64 y.first.off, .int .i64 y.first.sv, .string y.first.nm, .slice AT2 y.table.length cT2, .slice AR2 y.tail.length cR2, .int .i64 y.off, .string y.form, .int .i64 y.year] 48)
 have by_ := Blk.new w6 #[.string y.nm, .int .i64 y.first.off, .int .i64 y.first.sv, .string y.first.nm, .slice AT2 y.table.length cT2, .slice AR2 y.tail.length cR2, .int .i64 y.off, .string y.form, .int .i64 y.year] 48
 have hB6 := (hB5.trans (hb6.mono hB5.size)).alloc (by have := hB5.size; have := hb6.size; omega) (.cells #[.string y.nm, .int .i64 y.first.off, .int .i64 y.first.sv, .string y.first.nm, .slice AT2 y.table.length cT2, .slice AR2 y.tail.length cR2, .int .i64 y.off, .string y.form, .int .i64 y.year] 48)
 clear hb6 hB5 b0
 have i0 := blk_cl b1 0 _ rfl
 have i1 := blk_cl b1 1 _ rfl
 have i2 := blk_cl b1 2 _ rfl
 have i3 := blk_cl b1 3 _ rfl
 have il := b1.lt
 have x0 := blk_cl bx 0 _ rfl
 have x1 := blk_cl bx 1 _ rfl
 have x2 := blk_cl bx 2 _ rfl
 have x3 := blk_cl bx 3 _ rfl
 have x4 := blk_cl bx 4 _ rfl
 have x5 := blk_cl bx 5 _ rfl
 have x6 := blk_cl bx 6 _ rfl
 have x7 := blk_cl bx 7 _ rfl
 have x8 := blk_cl bx 8 _ rfl
 have xl := bx.lt
 have y0 := blk_cl by_ 0 _ rfl
 have y1 := blk_cl by_ 1 _ rfl
 have y2 := blk_cl by_ 2 _ rfl
 have y3 := blk_cl by_ 3 _ rfl
 have y4 := blk_cl by_ 4 _ rfl
 have y5 := blk_cl by_ 5 _ rfl
 have y6 := blk_cl by_ 6 _ rfl
 have y7 := blk_cl by_ 7 _ rfl
 have y8 := blk_cl by_ 8 _ rfl
 have yl := by_.lt
 go_wp2_with fail
 refine (HLO.out _ hB6).mono ?_
 rintro e w8 ⟨hb8, n, A8, c8, rfl, hn1, hn⟩
 have hB8 := hB6.trans (hb8.mono hB6.size)
 have hokn : ok = decide (n = 0) := by rw [HOK.out, decide_eq_decide]; exact hn.symm
 clear hn HOK HLO
 obtain rfl | rfl : n = 0 ∨ n = 1 := by omega
 ·obtain rfl : ok = true := hokn
  go_wp2
  exact HP.out _ hB8
 ·obtain rfl : ok = false := hokn
  go_wp2
  exact HP.out _ hB8
end Go.Proofs.YtdafcipilknecaaGreatDoor

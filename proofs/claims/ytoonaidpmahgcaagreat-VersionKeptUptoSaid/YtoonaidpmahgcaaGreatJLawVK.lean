/- The law VersionKept. Printed by gen_lawvk.py. -/
import Derived.Test.YtoonaidpmahgcaaGreatGCh
import Derived.Test.YtoonaidpmahgcaaGreatJManyW
import Derived.Test.YtoonaidpmahgcaaGreatJVerAw
import Derived.Test.YtoonaidpmahgcaaGreatGVl
import Derived.Test.YtoonaidpmahgcaaGreatGHis
namespace Go.Proofs.YtoonaidpmahgcaaGreat
set_option linter.unusedSimpArgs false
set_option linter.unusedVariables false
open Go.ChangeShapes Go.WideShapes Go.ChangeAt Go.RowKit Go.Maps Go.Lib

theorem rd_none {α : Type} [Inhabited α] {enc : α → List Value} {k : Nat} {w : World} {v : Value} (h : Rd enc k w v []) : ∃ A c, v = .slice A 0 c := rd_vf h
theorem no_mem {α : Type} {l : List α} (h : ∀ x, x ∉ l) : l = [] := List.eq_nil_iff_forall_not_mem.2 h
set_option maxRecDepth 100000 in
set_option maxHeartbeats 8000000 in
theorem law_VersionKept (L : List VV) (vH : Value) (a b nm : ByteArray) (s t ti : Int) (w : World) (hf : ∀ x ∈ L, ∀ y ∈ x.zs, y.z.form.size < 4294967281) (hg : GoodH w vH L) (hm : HasMax w) :
    Calls Tryz.prog 9 #[.agg #[vH], .string a, .string b, .string nm, .agg #[.int .i64 s, .int .i64 t], .int .i64 ti] w fun e w' => e = .returned (.bool true) ∧ Below w.heap.size w w' := by
  have HA := Lib.hid (fun W (hb : Below w.heap.size w W) => awake24_any W (hm.on hb))
  have HM := Lib.hid (fun W (hb : Below w.heap.size w W) => many_any L vH W (hg.on hb))
  have HL := Lib.hid (fun W => long_any s t 10 (by decide) W)
  suffices HPOST : ∀ Post : Ending → World → Prop, Hid (∀ w', Below w.heap.size w w' → Post (.returned (.bool true)) w') → Calls Tryz.prog 9 #[.agg #[vH], .string a, .string b, .string nm, .agg #[.int .i64 s, .int .i64 t], .int .i64 ti] w Post from HPOST _ (Lib.hid fun w' h => ⟨rfl, h⟩)
  intro Post HP
  have HC := Lib.hid (fun b' hk hsp hsm W (hb : Below w.heap.size w W) => Changed_any L vH a b' s t W (hm.on hb) (hg.on hb) hk hsp hsm)
  have HC2 := Lib.hid (fun hk hv hs hsp hsm (i : Nat) (hi : numF L a = i) (hil : i < L.length) W (hb : Below w.heap.size w W) => Changed_main L vH a a s t W (hm.on hb) (hg.on hb) hk hv hs hsp hsm i i hi hi hil hil)
  have HF1 := Lib.hid (fun hk W (hb : Below w.heap.size w W) => Find_his L vH a nm W (hm.on hb) (hg.on hb) hk)
  have HF2 := Lib.hid (fun hk W (hb : Below w.heap.size w W) => Find_his L vH b nm W (hm.on hb) (hg.on hb) hk)
  have HAT := Lib.hid (fun x (hx : x ∈ L) y (hy : y ∈ x.zs) (hl : y.z.tail.length ≤ 12) W (hb : Below w.heap.size w W) => zAt_any y.z y.vT y.vR ti W (hm.on hb) (((hg.g x hx).g y hy).1.on hb) (((hg.g x hx).g y hy).2.on hb) (hf x hx y hy) (.inl hl))
  obtain ⟨A, c, rfl⟩ := rd_vf hg.r
  have HOK := Lib.hid (fun (hmn : manyB L = false) => show OkH L from ⟨by have := (many_parts hmn).1; omega, fun x hx => ⟨by have := ((many_parts hmn).2 x hx).1; omega, by have := ((many_parts hmn).2 x hx).1; omega, fun y hy => ⟨by have := ((many_parts hmn).2 x hx).2 y hy; omega, by have := ((many_parts hmn).2 x hx).2 y hy; omega, hf x hx y hy⟩⟩⟩)
  clear hg hm hf
  have b0 := (Blk.new w #[.slice A L.length c] 58).alloc (.cells #[.int .i64 s, .int .i64 t] 29)
  have b1 := Blk.new (w.alloc (.cells #[.slice A L.length c] 58)) #[.int .i64 s, .int .i64 t] 29
  rw [World.size_alloc] at b1
  have hB2 : Below w.heap.size w ((w.alloc (.cells #[.slice A L.length c] 58)).alloc (.cells #[.int .i64 s, .int .i64 t] 29)) := ((Below.refl _ _).alloc (Nat.le_refl _) _).alloc (by simp) _
  go_enter Tryz.func9, Tryz.ntmps9
  go_wp2_with fail
  generalize (w.alloc (.cells #[.slice A L.length c] 58)).alloc (.cells #[.int .i64 s, .int .i64 t] 29) = W at *
  refine (HA.out W hB2).mono ?_
  rintro e w1 ⟨rfl, hb1⟩
  have hB3 := hB2.trans (hb1.mono hB2.size)
  have b0 := b0.below hb1 b0.lt
  have b1 := b1.below hb1 b1.lt
  have h0 := blk_cl b0 0 _ rfl
  have hl := b0.lt
  clear HA hb1 hB2
  go_wp2_with fail
  clear h0 hl
  refine (HM.out w1 hB3).mono ?_
  rintro e w2 ⟨rfl, hb2⟩
  have hB4 := hB3.trans (hb2.mono hB3.size)
  have b0 := b0.below hb2 b0.lt
  have b1 := b1.below hb2 b1.lt
  clear HM hb2 hB3
  cases hmn : manyB L
  case true =>
    go_wp2
    exact HP.out _ hB4
  have hok := HOK.out hmn
  have hpart := (many_parts hmn).2
  have hsm : ∀ x ∈ L, x.zs.length ≤ 6 ∧ x.ls.length ≤ 6 := fun x hx => (hpart x hx).1
  have HTL := Lib.hid (fun x (hx : x ∈ L) y (hy : y ∈ x.zs) => show y.z.tail.length ≤ 12 from by have := (hpart x hx).2 y hy; omega)
  clear HOK hpart hmn
  have i0 := blk_cl b1 0 _ rfl
  have i1 := blk_cl b1 1 _ rfl
  have il := b1.lt
  go_wp2_with fail
  clear i0 i1 il
  refine (HL.out w2).mono ?_
  rintro e w3 ⟨rfl, hb3⟩
  have hB5 := hB4.trans (hb3.mono hB4.size)
  have b0 := b0.below hb3 b0.lt
  have b1 := b1.below hb3 b1.lt
  clear HL hb3 hB4
  cases hlg : longV s t 10
  case true =>
    go_wp2
    exact HP.out _ hB5
  have hspn : spanV s t = true → t - s ≤ 1263000000 := by
    intro hs
    unfold longV at hlg
    rw [hs] at hlg
    simp at hlg
    omega
  clear hlg
  have h0 := blk_cl b0 0 _ rfl
  have hl := b0.lt
  have i0 := blk_cl b1 0 _ rfl
  have i1 := blk_cl b1 1 _ rfl
  have il := b1.lt
  go_wp2_with fail
  clear h0 hl i0 i1 il
  refine (HC.out b hok hspn hsm w3 hB5).mono ?_
  rintro e w4 ⟨hb4, hcase⟩
  have hB6 := hB5.trans (hb4.mono hB5.size)
  have b0 := b0.below hb4 b0.lt
  have b1 := b1.below hb4 b1.lt
  clear HC hb4 hB5
  rcases hcase with ⟨n, hn0, hn17, rfl⟩ | ⟨hval, hspv, i, k, hi, hkk, hil, hkl, out, u, hmem, hol, rfl, hRu⟩
  · rcases hn17 with rfl | rfl
    · go_wp2
      exact HP.out _ hB6
    · go_wp2
      exact HP.out _ hB6
  have hX : L[i]! ∈ L := by rw [getElem!_pos L i hil]; exact List.getElem_mem hil
  have hY : L[k]! ∈ L := by rw [getElem!_pos L k hkl]; exact List.getElem_mem hkl
  have HRU := Lib.hid hRu
  obtain ⟨AU, cU, rfl⟩ := rd_vf hRu
  clear hRu
  have h0 := blk_cl b0 0 _ rfl
  have hl := b0.lt
  have i0 := blk_cl b1 0 _ rfl
  have i1 := blk_cl b1 1 _ rfl
  have il := b1.lt
  go_wp2_with fail
  clear h0 hl i0 i1 il
  refine (HC2.out hok hval hspv (hspn hspv) hsm i hi hil w4 hB6).mono ?_
  rintro e w5 ⟨hb5, out2, u2, hmem2, _, rfl, hR2⟩
  have hnil : out2 = [] := no_mem fun x hx => chg_same ((hmem2 x).1 hx).2
  subst hnil
  obtain ⟨A2, c2, rfl⟩ := rd_none hR2
  have hB7 := hB6.trans (hb5.mono hB6.size)
  have b0 := b0.below hb5 b0.lt
  have b1 := b1.below hb5 b1.lt
  have HRU := Lib.hid (HRU.out.on hb5)
  clear HC2 hb5 hB6 hmem2 hR2
  have hfX : findF L a nm = retZ (fndZ L[i]!.zs L[i]!.ls nm) := by unfold findF; rw [if_pos hval, hi, if_pos (by omega), Int.toNat_natCast]
  have hfY : findF L b nm = retZ (fndZ L[k]!.zs L[k]!.ls nm) := by unfold findF; rw [if_pos hval, hkk, if_pos (by omega), Int.toNat_natCast]
  have HF1 := Lib.hid (HF1.out hok)
  have HF2 := Lib.hid (HF2.out hok)
  rw [hfX] at HF1
  rw [hfY] at HF2
  have hr1 : ∀ o : Option ZV, (retZ o).1 = o := fun o => by cases o <;> rfl
  rw [hr1] at HF1 HF2
  have HVX := Lib.hid (fun y hy => his_valid hval hX (y := y) hy)
  have HVY := Lib.hid (fun y hy => his_valid hval hY (y := y) hy)
  have HTX := Lib.hid (HTL.out _ hX)
  have HTY := Lib.hid (HTL.out _ hY)
  have HAX := Lib.hid (HAT.out _ hX)
  have HAY := Lib.hid (HAT.out _ hY)
  unfold namesV chgP at hmem
  generalize L[i]! = X at *
  generalize L[k]! = Y at *
  obtain ⟨p0, p1, p2, p3, pA, p4, pC, pB, p5, pD, p6, p7, p8, hp⟩ := optZ_cells (fndZ X.zs X.ls nm)
  obtain ⟨q0, q1, q2, q3, qA, q4, qC, qB, q5, qD, q6, q7, q8, hq⟩ := optZ_cells (fndZ Y.zs Y.ls nm)
  rw [hp] at HF1
  rw [hq] at HF2
  obtain ⟨fX, hfx⟩ : ∃ f, (retZ (fndZ X.zs X.ls nm)).2 = f := ⟨_, rfl⟩
  obtain ⟨fY, hfy⟩ : ∃ f, (retZ (fndZ Y.zs Y.ls nm)).2 = f := ⟨_, rfl⟩
  rw [hfx] at HF1
  rw [hfy] at HF2
  clear hfX hfY hr1 HAT HTL hi hkk hil hkl hX hY hval hspn hsm hok
  have h0 := blk_cl b0 0 _ rfl
  have hl := b0.lt
  go_wp2_with fail
  clear h0 hl
  refine (HF1.out w5 hB7).mono ?_
  rintro e w6 ⟨rfl, hb6⟩
  clear HF1
  have b0 := (b0.below hb6 b0.lt).alloc (.cells #[.string p0, .int .i64 p1, .int .i64 p2, .string p3, .slice pA p4 pC, .slice pB p5 pD, .int .i64 p6, .string p7, .int .i64 p8] 27)
  have b1 := (b1.below hb6 b1.lt).alloc (.cells #[.string p0, .int .i64 p1, .int .i64 p2, .string p3, .slice pA p4 pC, .slice pB p5 pD, .int .i64 p6, .string p7, .int .i64 p8] 27)
  have bp := Blk.new w6 #[.string p0, .int .i64 p1, .int .i64 p2, .string p3, .slice pA p4 pC, .slice pB p5 pD, .int .i64 p6, .string p7, .int .i64 p8] 27
  have hbA : Below w5.heap.size w5 (w6.alloc (.cells #[.string p0, .int .i64 p1, .int .i64 p2, .string p3, .slice pA p4 pC, .slice pB p5 pD, .int .i64 p6, .string p7, .int .i64 p8] 27)) := hb6.alloc hb6.size _
  have hB8 := hB7.trans (hbA.mono hB7.size)
  have HRU := Lib.hid (HRU.out.on hbA)
  have h0 := blk_cl b0 0 _ rfl
  have hl := b0.lt
  clear hb6 hB7
  go_wp2_with fail
  clear h0 hl
  refine (HF2.out _ hB8).mono ?_
  rintro e w8 ⟨rfl, hb8⟩
  clear HF2
  have b1 := (b1.below hb8 b1.lt).alloc (.cells #[.string q0, .int .i64 q1, .int .i64 q2, .string q3, .slice qA q4 qC, .slice qB q5 qD, .int .i64 q6, .string q7, .int .i64 q8] 27)
  have bp := (bp.below hb8 bp.lt).alloc (.cells #[.string q0, .int .i64 q1, .int .i64 q2, .string q3, .slice qA q4 qC, .slice qB q5 qD, .int .i64 q6, .string q7, .int .i64 q8] 27)
  have bq := Blk.new w8 #[.string q0, .int .i64 q1, .int .i64 q2, .string q3, .slice qA q4 qC, .slice qB q5 qD, .int .i64 q6, .string q7, .int .i64 q8] 27
  have hbC : Below (w6.alloc (.cells #[.string p0, .int .i64 p1, .int .i64 p2, .string p3, .slice pA p4 pC, .slice pB p5 pD, .int .i64 p6, .string p7, .int .i64 p8] 27)).heap.size (w6.alloc (.cells #[.string p0, .int .i64 p1, .int .i64 p2, .string p3, .slice pA p4 pC, .slice pB p5 pD, .int .i64 p6, .string p7, .int .i64 p8] 27)) (w8.alloc (.cells #[.string q0, .int .i64 q1, .int .i64 q2, .string q3, .slice qA q4 qC, .slice qB q5 qD, .int .i64 q6, .string q7, .int .i64 q8] 27)) := hb8.alloc hb8.size _
  have hB9 := hB8.trans (hbC.mono hB8.size)
  have HRU := Lib.hid (HRU.out.on hbC)
  clear b0 hbA hb8 hbC hB8
  have HCO := Lib.hid (fun W (hb : Below (w8.alloc (.cells #[.string q0, .int .i64 q1, .int .i64 q2, .string q3, .slice qA q4 qC, .slice qB q5 qD, .int .i64 q6, .string q7, .int .i64 q8] 27)).heap.size (w8.alloc (.cells #[.string q0, .int .i64 q1, .int .i64 q2, .string q3, .slice qA q4 qC, .slice qB q5 qD, .int .i64 q6, .string q7, .int .i64 q8] 27)) W) => has_str (.slice AU out.length cU) out nm W (by omega) (HRU.out.on hb))
  have HCN := Lib.hid (HCO.out _ (Below.refl _ _))
  rcases hoX : fndZ X.zs X.ls nm with _ | zx <;> rcases hoY : fndZ Y.zs Y.ls nm with _ | zy
  · have hno : memB nm out = false := memB_no.2 fun h => chg_nn hoX hoY ((hmem nm).1 h).2
    rw [hoX] at hfx
    rw [hoY] at hfy
    obtain rfl : (7 : Int) = fX := hfx
    obtain rfl : (7 : Int) = fY := hfy
    rw [hno] at HCN
    clear bp bq b1
    go_wp2_with fail
    refine HCN.out.mono ?_
    rintro e w9 ⟨rfl, rfl⟩
    go_wp2
    exact HP.out _ hB9
  · have hyes : memB nm out = true := memB_iff.2 ((hmem nm).2 ⟨List.mem_append_right _ (fnd_mem hoY).2, chg_ns hoX hoY⟩)
    rw [hoX] at hfx
    rw [hoY] at hfy
    obtain rfl : (7 : Int) = fX := hfx
    obtain rfl : (0 : Int) = fY := hfy
    rw [hyes] at HCN
    clear bp bq b1
    go_wp2_with fail
    refine HCN.out.mono ?_
    rintro e w9 ⟨rfl, rfl⟩
    go_wp2
    exact HP.out _ hB9
  · have hyes : memB nm out = true := memB_iff.2 ((hmem nm).2 ⟨List.mem_append_left _ (fnd_mem hoX).2, chg_sn hoX hoY⟩)
    rw [hoX] at hfx
    rw [hoY] at hfy
    obtain rfl : (0 : Int) = fX := hfx
    obtain rfl : (7 : Int) = fY := hfy
    rw [hyes] at HCN
    clear bp bq b1
    go_wp2_with fail
    refine HCN.out.mono ?_
    rintro e w9 ⟨rfl, rfl⟩
    go_wp2
    exact HP.out _ hB9
  · rw [hoX] at hfx hp
    rw [hoY] at hfy hq
    obtain rfl : (0 : Int) = fX := hfx
    obtain rfl : (0 : Int) = fY := hfy
    have hxm := fnd_mem hoX
    have hym := fnd_mem hoY
    have hpv : zx.z.v zx.vT zx.vR = .agg #[.string p0, .int .i64 p1, .int .i64 p2, .string p3, .slice pA p4 pC, .slice pB p5 pD, .int .i64 p6, .string p7, .int .i64 p8] := hp
    have hqv : zy.z.v zy.vT zy.vR = .agg #[.string q0, .int .i64 q1, .int .i64 q2, .string q3, .slice qA q4 qC, .slice qB q5 qD, .int .i64 q6, .string q7, .int .i64 q8] := hq
    have HTX := Lib.hid (HAX.out zx hxm.1 (HTX.out zx hxm.1))
    have HTY := Lib.hid (HAY.out zy hym.1 (HTY.out zy hym.1))
    rw [hpv] at HTX
    rw [hqv] at HTY
    have hvx := HVX.out zx hxm.1
    have hvy := HVY.out zy hym.1
    cases hcm : memB nm out
    case true =>
      rw [hcm] at HCN
      clear bp bq b1
      go_wp2_with fail
      refine HCN.out.mono ?_
      rintro e w9 ⟨rfl, rfl⟩
      go_wp2_with fail
      refine HCN.out.mono ?_
      rintro e w9 ⟨rfl, rfl⟩
      go_wp2
      exact HP.out _ hB9
    rw [hcm] at HCN
    have hnc := fun h => memB_no.1 hcm ((hmem nm).2 ⟨List.mem_append_left _ hxm.2, (chg_ss hoX hoY).2 h⟩)
    clear hmem hcm hoX hoY
    go_wp2_with fail
    refine HCN.out.mono ?_
    rintro e w9 ⟨rfl, rfl⟩
    have i0 := blk_cl b1 0 _ rfl
    have i1 := blk_cl b1 1 _ rfl
    have il := b1.lt
    cases d1 : decide (ti < s)
    case true =>
      go_wp2_with fail
      refine HCN.out.mono ?_
      rintro e w9 ⟨rfl, rfl⟩
      go_wp2
      exact HP.out _ hB9
    cases d2 : decide (t ≤ ti)
    case true =>
      go_wp2_with fail
      refine HCN.out.mono ?_
      rintro e w9 ⟨rfl, rfl⟩
      go_wp2
      exact HP.out _ hB9
    have e1 := of_decide_eq_false d1
    have e2 := of_decide_eq_false d2
    have hsp2 : -62135596800 ≤ s ∧ s < t ∧ t ≤ 253402300800 := by
      unfold spanV at hspv
      simp at hspv
      omega
    have hat1 : zx.z.atV ti = (zx.z.typF ti, 0) := by unfold Zn.atV inT; rw [if_neg (by simp [hvx]), if_neg (by simp; omega)]
    have hat2 : zy.z.atV ti = (zy.z.typF ti, 0) := by unfold Zn.atV inT; rw [if_neg (by simp [hvy]), if_neg (by simp; omega)]
    have hsame : zx.z.typF ti = zy.z.typF ti := by
      by_cases h : zx.z.typF ti = zy.z.typF ti
      · exact h
      · exact absurd ⟨ti, ⟨by omega, by omega⟩, h⟩ hnc
    rw [hat1] at HTX
    rw [hat2, ← hsame] at HTY
    unfold atR Typ.val at HTX HTY
    dsimp only at HTX HTY
    generalize zx.z.typF ti = T at *
    have g0 := blk_cl bp 0 _ rfl
    have g1 := blk_cl bp 1 _ rfl
    have g2 := blk_cl bp 2 _ rfl
    have g3 := blk_cl bp 3 _ rfl
    have g4 := blk_cl bp 4 _ rfl
    have g5 := blk_cl bp 5 _ rfl
    have g6 := blk_cl bp 6 _ rfl
    have g7 := blk_cl bp 7 _ rfl
    have g8 := blk_cl bp 8 _ rfl
    have gl := bp.lt
    clear hat1 hat2 hnc hvx hvy hxm hym hp hq hpv hqv HVX HVY HAX HAY e1 e2 hsame
    go_wp2_with fail
    refine HCN.out.mono ?_
    rintro e w9 ⟨rfl, rfl⟩
    go_wp2_with fail
    clear g0 g1 g2 g3 g4 g5 g6 g7 g8 gl i0 i1 il
    refine (HTX.out _ hB9).mono ?_
    rintro e w10 ⟨rfl, hb10⟩
    have bq := (bq.below hb10 bq.lt).alloc (.cells #[.int .i64 T.off, .int .i64 T.sv, .string T.nm] 23)
    have bt := Blk.new w10 #[.int .i64 T.off, .int .i64 T.sv, .string T.nm] 23
    have hBA := (hB9.trans (hb10.mono hB9.size)).alloc (by have := hB9.size; have := hb10.size; omega) (.cells #[.int .i64 T.off, .int .i64 T.sv, .string T.nm] 23)
    have k0 := blk_cl bq 0 _ rfl
    have k1 := blk_cl bq 1 _ rfl
    have k2 := blk_cl bq 2 _ rfl
    have k3 := blk_cl bq 3 _ rfl
    have k4 := blk_cl bq 4 _ rfl
    have k5 := blk_cl bq 5 _ rfl
    have k6 := blk_cl bq 6 _ rfl
    have k7 := blk_cl bq 7 _ rfl
    have k8 := blk_cl bq 8 _ rfl
    have kl := bq.lt
    clear bp hB9 hb10
    go_wp2_with fail
    clear k0 k1 k2 k3 k4 k5 k6 k7 k8 kl bq
    refine (HTY.out _ hBA).mono ?_
    rintro e w12 ⟨rfl, hb12⟩
    have bt := (bt.below hb12 bt.lt).alloc (.cells #[.int .i64 T.off, .int .i64 T.sv, .string T.nm] 23)
    have bu := Blk.new w12 #[.int .i64 T.off, .int .i64 T.sv, .string T.nm] 23
    have hBB := (hBA.trans (hb12.mono hBA.size)).alloc (by have := hBA.size; have := hb12.size; omega) (.cells #[.int .i64 T.off, .int .i64 T.sv, .string T.nm] 23)
    have x0 := blk_cl bt 0 _ rfl
    have x1 := blk_cl bt 1 _ rfl
    have x2 := blk_cl bt 2 _ rfl
    have y0 := blk_cl bu 0 _ rfl
    have y1 := blk_cl bu 1 _ rfl
    have y2 := blk_cl bu 2 _ rfl
    have xl := bt.lt
    have yl := bu.lt
    have hTT := fun W => eqTyS T W
    clear bt bu
    go_wp2
    exact HP.out _ hBB

end Go.Proofs.YtoonaidpmahgcaaGreat

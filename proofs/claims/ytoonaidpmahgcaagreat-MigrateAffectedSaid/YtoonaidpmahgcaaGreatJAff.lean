/- migrate.Affected. Printed by gen_aff.py. -/
import Derived.Test.YtoonaidpmahgcaaGreatGMig
import Derived.Test.YtoonaidpmahgcaaGreatJVerW6
import Derived.Test.YtoonaidpmahgcaaGreatGHis
import Derived.Test.YtoonaidpmahgcaaGreatJVerP2
namespace Go.Proofs.YtoonaidpmahgcaaGreat
set_option linter.unusedSimpArgs false
set_option linter.unusedVariables false
open Go.ChangeShapes Go.WideShapes Go.ChangeAt Go.RowKit Go.Sort Go.Lib

theorem bet_few {z : Zn} (hv : z.valid = true) (ht : z.table.length ≤ 300) (hl : z.tail.length ≤ 12) {a b : Int} (h : b - a ≤ 94867200) : (z.betF (cutA a) (cutB b)).length ≤ 360 := by
  have := bet_countN hv (T := 300) (R := 12) (Y := 4) ht hl (a := cutA a) (b := cutB b) (by unfold cutA cutB; omega)
  omega
theorem gen_base {N : Nat} {z q : Zn} {a b g f : Int} {w w1 : World} {e : Ending} {w' : World} (h : LocGen N z q a b g f w1 e w') (hb : Below w.heap.size w w1) : LocGen N z q a b g f w e w' := by
  obtain ⟨h1, h | ⟨h2, h3, h4, h5, out, h6, h7, h8, h⟩⟩ := h
  · exact ⟨hb.trans (h1.mono hb.size), .inl h⟩
  · refine ⟨hb.trans (h1.mono hb.size), .inr ⟨h2, h3, h4, h5, out, h6, h7, h8, ?_⟩⟩
    rcases h with ⟨h9, u, h10, h11⟩ | h
    · exact .inl ⟨h9, u, h10, own_lower h11 hb.size⟩
    · exact .inr h
/-- what migrate.Affected returns -/
def AffEnd (L : List VV) (a b zn : ByteArray) (s t g f : Int) (w : World) (e : Ending) (w' : World) : Prop := Below w.heap.size w w' ∧
  (((findF L a zn).1 = none ∧ e = .returned (.tuple #[.slice none 0 0, .int .i64 (findF L a zn).2])) ∨
   (∃ x, (findF L a zn).1 = some x ∧ (findF L b zn).1 = none ∧ e = .returned (.tuple #[.slice none 0 0, .int .i64 (findF L b zn).2])) ∨
   (∃ x y, (findF L a zn).1 = some x ∧ (findF L b zn).1 = some y ∧ LocGen 360 x.z y.z s t g f w e w'))
/-- two zones of a history -/
theorem Loc_his (L : List VV) (vH : Value) (a b zn : ByteArray) (s t g f : Int) (w : World) (hm : HasMax w) (hg : GoodH w vH L) (hk : OkH L) (hsp : spanV s t = true → t - s ≤ 94867200) (x y : ZV) (h1 : (findF L a zn).1 = some x) (h2 : (findF L b zn).1 = some y) :
    Calls Tryz.prog 21 #[x.z.v x.vT x.vR, y.z.v y.vT y.vR, .agg #[.int .i64 s, .int .i64 t], .agg #[.int .i64 g, .int .i64 f]] w (LocGen 360 x.z y.z s t g f w) := by
  obtain ⟨_, v1, hv1, hx⟩ := findF_mem h1
  obtain ⟨_, v2, hv2, hy⟩ := findF_mem h2
  have ox := (hk.g v1 hv1).g x hx
  have oy := (hk.g v2 hv2).g y hy
  have gx := (hg.g v1 hv1).g x hx
  have gy := (hg.g v2 hv2).g y hy
  exact Locals_gen 360 (by omega) x.z y.z x.vT x.vR y.vT y.vR s t g f w hm gx.1 gx.2 gy.1 gy.2 ox.2.2 oy.2.2 ox.1 oy.1 ox.2.1 oy.2.1 (fun hv h => bet_few hv ox.2.1 ox.1 (hsp h)) (fun hv h => bet_few hv oy.2.1 oy.1 (hsp h))
set_option maxRecDepth 100000 in
set_option maxHeartbeats 3000000 in
theorem Affected_any (L : List VV) (vH : Value) (a b zn : ByteArray) (s t g f : Int) (w : World) (hm : HasMax w) (hg : GoodH w vH L) (hk : OkH L) (hsp : spanV s t = true → t - s ≤ 94867200) :
    Calls Tryz.prog 39 #[.agg #[vH], .string a, .string b, .string zn, .agg #[.int .i64 s, .int .i64 t], .agg #[.int .i64 g, .int .i64 f]] w (AffEnd L a b zn s t g f w) := by
  have HA := Lib.hid (fun W (hb : Below w.heap.size w W) => Find_his L vH a zn W (hm.on hb) (hg.on hb) hk)
  have HB := Lib.hid (fun W (hb : Below w.heap.size w W) => Find_his L vH b zn W (hm.on hb) (hg.on hb) hk)
  have HLO := Lib.hid (fun x y h1 h2 W (hb : Below w.heap.size w W) => Loc_his L vH a b zn s t g f W (hm.on hb) (hg.on hb) hk hsp x y h1 h2)
  have HEA := Lib.hid (fun h => findF_err (L := L) (vn := a) (zn := zn) h)
  have HEB := Lib.hid (fun h => findF_err (L := L) (vn := b) (zn := zn) h)
  have HOA := Lib.hid (fun y h => (findF_mem (L := L) (vn := a) (zn := zn) (y := y) h).1)
  have HOB := Lib.hid (fun y h => (findF_mem (L := L) (vn := b) (zn := zn) (y := y) h).1)
  obtain ⟨A, c, rfl⟩ := rd_vf hg.r
  clear hg hk hm hsp
  unfold AffEnd
  generalize findF L a zn = qa at *
  generalize findF L b zn = qb at *
  obtain ⟨qa1, qa2⟩ := qa
  obtain ⟨qb1, qb2⟩ := qb
  dsimp only at HA HB HLO HEA HEB HOA HOB ⊢
  have b0 := ((Blk.new w #[.slice A L.length c] 58).alloc (.cells #[.int .i64 s, .int .i64 t] 29)).alloc (.cells #[.int .i64 g, .int .i64 f] 44)
  have b1 := (Blk.new (w.alloc (.cells #[.slice A L.length c] 58)) #[.int .i64 s, .int .i64 t] 29).alloc (.cells #[.int .i64 g, .int .i64 f] 44)
  have b2 := Blk.new ((w.alloc (.cells #[.slice A L.length c] 58)).alloc (.cells #[.int .i64 s, .int .i64 t] 29)) #[.int .i64 g, .int .i64 f] 44
  simp only [World.size_alloc] at b1 b2
  have hB3 : Below w.heap.size w (((w.alloc (.cells #[.slice A L.length c] 58)).alloc (.cells #[.int .i64 s, .int .i64 t] 29)).alloc (.cells #[.int .i64 g, .int .i64 f] 44)) := (((Below.refl _ _).alloc (Nat.le_refl _) _).alloc (by simp) _).alloc (by simp; omega) _
  have h0 := blk_cl b0 0 _ rfl
  have hl := b0.lt
  go_enter Tryz.func39, Tryz.ntmps39
  go_wp2_with fail
  generalize ((w.alloc (.cells #[.slice A L.length c] 58)).alloc (.cells #[.int .i64 s, .int .i64 t] 29)).alloc (.cells #[.int .i64 g, .int .i64 f] 44) = W at *
  clear h0 hl
  refine (HA.out W hB3).mono ?_
  rintro e w1 ⟨rfl, hb1⟩
  have hB4 := hB3.trans (hb1.mono hB3.size)
  have b0 := b0.below hb1 b0.lt
  have b1 := b1.below hb1 b1.lt
  have b2 := b2.below hb1 b2.lt
  clear hb1 hB3 HA
  cases qa1 with
  | none =>
    have h7 : (qa2 != 0) = true := by rw [bne_iff_ne]; rcases HEA.out rfl with h | h <;> omega
    rw [show optZ none = .agg #[.string ⟨#[]⟩, .int .i64 0, .int .i64 0, .string ⟨#[]⟩, .slice none 0 0, .slice none 0 0, .int .i64 0, .string ⟨#[]⟩, .int .i64 0] from rfl]
    have hB5 : Below w.heap.size w (w1.alloc (.cells #[.string ⟨#[]⟩, .int .i64 0, .int .i64 0, .string ⟨#[]⟩, .slice none 0 0, .slice none 0 0, .int .i64 0, .string ⟨#[]⟩, .int .i64 0] 27)) := hB4.alloc hB4.size _
    go_wp2
    go_ret2
    first | exact ⟨hB5, .inl ⟨rfl, rfl⟩⟩ | exact ⟨hB5, rfl⟩
  | some x0 =>
    have h0 := HOA.out x0 rfl
    subst h0
    have HLO := Lib.hid (fun y h2 W hb => HLO.out x0 y rfl h2 W hb)
    obtain ⟨x, vT1, vR1, ⟨AT1, cT1, rfl⟩, ⟨AR1, cR1, rfl⟩⟩ := x0
    dsimp only at HLO
    unfold Zn.v at HLO
    rw [show optZ (some ⟨x, .slice AT1 x.table.length cT1, .slice AR1 x.tail.length cR1, ⟨AT1, cT1, rfl⟩, ⟨AR1, cR1, rfl⟩⟩) = .agg #[.string x.nm, .int .i64 x.first.off, .int .i64 x.first.sv, .string x.first.nm, .slice AT1 x.table.length cT1, .slice AR1 x.tail.length cR1, .int .i64 x.off, .string x.form, .int .i64 x.year] from rfl]
    have hB5 : Below w.heap.size w (w1.alloc (.cells #[.string x.nm, .int .i64 x.first.off, .int .i64 x.first.sv, .string x.first.nm, .slice AT1 x.table.length cT1, .slice AR1 x.tail.length cR1, .int .i64 x.off, .string x.form, .int .i64 x.year] 27)) := hB4.alloc hB4.size _
    have b0 := b0.alloc (.cells #[.string x.nm, .int .i64 x.first.off, .int .i64 x.first.sv, .string x.first.nm, .slice AT1 x.table.length cT1, .slice AR1 x.tail.length cR1, .int .i64 x.off, .string x.form, .int .i64 x.year] 27)
    have b1 := b1.alloc (.cells #[.string x.nm, .int .i64 x.first.off, .int .i64 x.first.sv, .string x.first.nm, .slice AT1 x.table.length cT1, .slice AR1 x.tail.length cR1, .int .i64 x.off, .string x.form, .int .i64 x.year] 27)
    have b2 := b2.alloc (.cells #[.string x.nm, .int .i64 x.first.off, .int .i64 x.first.sv, .string x.first.nm, .slice AT1 x.table.length cT1, .slice AR1 x.tail.length cR1, .int .i64 x.off, .string x.form, .int .i64 x.year] 27)
    have bx := Blk.new w1 #[.string x.nm, .int .i64 x.first.off, .int .i64 x.first.sv, .string x.first.nm, .slice AT1 x.table.length cT1, .slice AR1 x.tail.length cR1, .int .i64 x.off, .string x.form, .int .i64 x.year] 27
    have h0 := blk_cl b0 0 _ rfl
    have hl := b0.lt
    go_wp2_with fail
    generalize w1.alloc (.cells #[.string x.nm, .int .i64 x.first.off, .int .i64 x.first.sv, .string x.first.nm, .slice AT1 x.table.length cT1, .slice AR1 x.tail.length cR1, .int .i64 x.off, .string x.form, .int .i64 x.year] 27) = w2 at *
    clear h0 hl
    refine (HB.out w2 hB5).mono ?_
    rintro e w3 ⟨rfl, hb3⟩
    have hB6 := hB5.trans (hb3.mono hB5.size)
    have b1 := b1.below hb3 b1.lt
    have b2 := b2.below hb3 b2.lt
    have bx := bx.below hb3 bx.lt
    clear hb3 hB5 HB hB4
    cases qb1 with
    | none =>
      have h7 : (qb2 != 0) = true := by rw [bne_iff_ne]; rcases HEB.out rfl with h | h <;> omega
      rw [show optZ none = .agg #[.string ⟨#[]⟩, .int .i64 0, .int .i64 0, .string ⟨#[]⟩, .slice none 0 0, .slice none 0 0, .int .i64 0, .string ⟨#[]⟩, .int .i64 0] from rfl]
      have hB7 : Below w.heap.size w (w3.alloc (.cells #[.string ⟨#[]⟩, .int .i64 0, .int .i64 0, .string ⟨#[]⟩, .slice none 0 0, .slice none 0 0, .int .i64 0, .string ⟨#[]⟩, .int .i64 0] 27)) := hB6.alloc hB6.size _
      go_wp2
      go_ret2
      first | exact ⟨hB7, .inr (.inl ⟨_, rfl, rfl, rfl⟩)⟩ | exact ⟨hB7, .inl ⟨_, rfl, rfl, rfl⟩⟩ | exact ⟨hB7, rfl⟩
    | some y0 =>
      have h0 := HOB.out y0 rfl
      subst h0
      have HLO := Lib.hid (fun W hb => HLO.out y0 rfl W hb)
      obtain ⟨y, vT2, vR2, ⟨AT2, cT2, rfl⟩, ⟨AR2, cR2, rfl⟩⟩ := y0
      dsimp only at HLO
      rw [show optZ (some ⟨y, .slice AT2 y.table.length cT2, .slice AR2 y.tail.length cR2, ⟨AT2, cT2, rfl⟩, ⟨AR2, cR2, rfl⟩⟩) = .agg #[.string y.nm, .int .i64 y.first.off, .int .i64 y.first.sv, .string y.first.nm, .slice AT2 y.table.length cT2, .slice AR2 y.tail.length cR2, .int .i64 y.off, .string y.form, .int .i64 y.year] from rfl]
      have hB7 : Below w.heap.size w (w3.alloc (.cells #[.string y.nm, .int .i64 y.first.off, .int .i64 y.first.sv, .string y.first.nm, .slice AT2 y.table.length cT2, .slice AR2 y.tail.length cR2, .int .i64 y.off, .string y.form, .int .i64 y.year] 27)) := hB6.alloc hB6.size _
      have b1 := b1.alloc (.cells #[.string y.nm, .int .i64 y.first.off, .int .i64 y.first.sv, .string y.first.nm, .slice AT2 y.table.length cT2, .slice AR2 y.tail.length cR2, .int .i64 y.off, .string y.form, .int .i64 y.year] 27)
      have b2 := b2.alloc (.cells #[.string y.nm, .int .i64 y.first.off, .int .i64 y.first.sv, .string y.first.nm, .slice AT2 y.table.length cT2, .slice AR2 y.tail.length cR2, .int .i64 y.off, .string y.form, .int .i64 y.year] 27)
      have bx := bx.alloc (.cells #[.string y.nm, .int .i64 y.first.off, .int .i64 y.first.sv, .string y.first.nm, .slice AT2 y.table.length cT2, .slice AR2 y.tail.length cR2, .int .i64 y.off, .string y.form, .int .i64 y.year] 27)
      have by_ := Blk.new w3 #[.string y.nm, .int .i64 y.first.off, .int .i64 y.first.sv, .string y.first.nm, .slice AT2 y.table.length cT2, .slice AR2 y.tail.length cR2, .int .i64 y.off, .string y.form, .int .i64 y.year] 27
      have i0 := blk_cl b1 0 _ rfl
      have i1 := blk_cl b1 1 _ rfl
      have il := b1.lt
      have p0 := blk_cl b2 0 _ rfl
      have p1 := blk_cl b2 1 _ rfl
      have pl := b2.lt
      have x0 := blk_cl bx 0 _ rfl
      have x1 := blk_cl bx 1 _ rfl
      have x2 := blk_cl bx 2 _ rfl
      have x3 := blk_cl bx 3 _ rfl
      have x4 := blk_cl bx 4 _ rfl
      have x5 := blk_cl bx 5 _ rfl
      have x6 := blk_cl bx 6 _ rfl
      have x7 := blk_cl bx 7 _ rfl
      have x8 := blk_cl bx 8 _ rfl
      have xl := bx.lt
      have y0 := blk_cl by_ 0 _ rfl
      have y1 := blk_cl by_ 1 _ rfl
      have y2 := blk_cl by_ 2 _ rfl
      have y3 := blk_cl by_ 3 _ rfl
      have y4 := blk_cl by_ 4 _ rfl
      have y5 := blk_cl by_ 5 _ rfl
      have y6 := blk_cl by_ 6 _ rfl
      have y7 := blk_cl by_ 7 _ rfl
      have y8 := blk_cl by_ 8 _ rfl
      have yl := by_.lt
      go_wp2_with fail
      generalize w3.alloc (.cells #[.string y.nm, .int .i64 y.first.off, .int .i64 y.first.sv, .string y.first.nm, .slice AT2 y.table.length cT2, .slice AR2 y.tail.length cR2, .int .i64 y.off, .string y.form, .int .i64 y.year] 27) = w4 at *
      clear i0 i1 il p0 p1 pl x0 x1 x2 x3 x4 x5 x6 x7 x8 xl y0 y1 y2 y3 y4 y5 y6 y7 y8 yl
      refine (HLO.out w4 hB7).mono ?_
      rintro e w5 hgen
      have hgen2 := gen_base hgen hB7
      obtain ⟨hb5, h5⟩ := hgen
      have hB8 := hB7.trans (hb5.mono hB7.size)
      have HG := Lib.hid hgen2
      clear hgen2
      rcases h5 with ⟨_, rfl⟩ | ⟨_, _, _, _, out, _, _, _, ⟨_, u, rfl, _⟩ | ⟨_, rfl⟩⟩
      · go_wp2
        go_ret2
        first | exact ⟨hB8, .inr (.inr ⟨_, _, rfl, rfl, HG.out⟩)⟩ | exact ⟨hB8, .inr ⟨_, _, rfl, rfl, HG.out⟩⟩ | exact ⟨hB8, HG.out⟩
      · go_wp2
        go_ret2
        first | exact ⟨hB8, .inr (.inr ⟨_, _, rfl, rfl, HG.out⟩)⟩ | exact ⟨hB8, .inr ⟨_, _, rfl, rfl, HG.out⟩⟩ | exact ⟨hB8, HG.out⟩
      · go_wp2
        go_ret2
        first | exact ⟨hB8, .inr (.inr ⟨_, _, rfl, rfl, HG.out⟩)⟩ | exact ⟨hB8, .inr ⟨_, _, rfl, rfl, HG.out⟩⟩ | exact ⟨hB8, HG.out⟩

end Go.Proofs.YtoonaidpmahgcaaGreat

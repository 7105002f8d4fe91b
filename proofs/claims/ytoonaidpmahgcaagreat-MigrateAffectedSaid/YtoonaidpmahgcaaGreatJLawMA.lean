/- The law MigrateAffected. Printed by gen_aff.py. -/
import Derived.Test.YtoonaidpmahgcaaGreatJAff
import Derived.Test.YtoonaidpmahgcaaGreatGFew
import Derived.Test.YtoonaidpmahgcaaGreatGAm
import Derived.Test.YtoonaidpmahgcaaGreatJEqS
namespace Go.Proofs.YtoonaidpmahgcaaGreat
set_option linter.unusedSimpArgs false
set_option linter.unusedVariables false
open Go.ChangeShapes Go.WideShapes Go.ChangeAt Go.RowKit Go.Sort Go.Lib

/-- what the runs of two zones are, by the set alone -/
def LocIs (z q : Zn) (a b g f : Int) (l : List Spn) (n : Int) : Prop :=
 (((z.valid = false ∨ q.valid = false ∨ polB g f = false ∨ spanV a b = false) ∧ l = [] ∧ n = 1)) ∨
  (z.valid = true ∧ q.valid = true ∧ polB g f = true ∧ spanV a b = true ∧ ∃ out, Canon out ∧ (∀ t, hasL out t ↔ (a ≤ t ∧ t < b) ∧ z.resV t g f ≠ q.resV t g f) ∧ ((out.length ≤ 2000 ∧ l = out ∧ n = 0) ∨ (2000 < out.length ∧ l = [] ∧ n = 5)))
theorem loc_same {z q : Zn} {a b g f : Int} {l1 l2 : List Spn} {n1 n2 : Int} (h1 : LocIs z q a b g f l1 n1) (h2 : LocIs z q a b g f l2 n2) : l2 = l1 ∧ n2 = n1 := by
 rcases h1 with ⟨h1, rfl, rfl⟩ | ⟨a1, a2, a3, a4, o1, c1, m1, h1⟩
 ·rcases h2 with ⟨h2, rfl, rfl⟩ | ⟨a1, a2, a3, a4, _⟩
  ·exact ⟨rfl, rfl⟩
  ·rw [a1, a2, a3, a4] at h1; simp at h1
 ·rcases h2 with ⟨h2, _⟩ | ⟨_, _, _, _, o2, c2, m2, h2⟩
  ·rw [a1, a2, a3, a4] at h2; simp at h2
  ·obtain rfl : o2 = o1 := canon_ext c2 c1 fun x => (m2 x).trans (m1 x).symm
   rcases h1 with ⟨h1, rfl, rfl⟩ | ⟨h1, rfl, rfl⟩
   ·rcases h2 with ⟨h2, rfl, rfl⟩ | ⟨h2, rfl, rfl⟩
    ·exact ⟨rfl, rfl⟩
    ·omega
   ·rcases h2 with ⟨h2, rfl, rfl⟩ | ⟨h2, rfl, rfl⟩
    ·omega
    ·exact ⟨rfl, rfl⟩
theorem loc_shape {N : Nat} {z q : Zn} {a b g f : Int} {w w' : World} {e : Ending} (h : LocGen N z q a b g f w e w') : ∃ l n u, e = .returned (.tuple #[u, .int .i64 n]) ∧ LocIs z q a b g f l n ∧ Rd encN 2 w' u l ∧ l.length ≤ 2000 := by
 obtain ⟨_, ⟨h, rfl⟩ | ⟨h2, h3, h4, h5, out, h6, h7, _, ⟨h8, u, rfl, h9⟩ | ⟨h8, rfl⟩⟩⟩ := h
 ·exact ⟨[], 1, _, rfl, .inl ⟨h, rfl, rfl⟩, .inl ⟨rfl, none, 0, rfl⟩, by simp⟩
 ·exact ⟨out, 0, u, rfl, .inr ⟨h2, h3, h4, h5, out, h6, h7, .inl ⟨h8, rfl, rfl⟩⟩, rd_of_own encN_len h9 rfl, h8⟩
 ·exact ⟨[], 5, _, rfl, .inr ⟨h2, h3, h4, h5, out, h6, h7, .inr ⟨h8, rfl, rfl⟩⟩, .inl ⟨rfl, none, 0, rfl⟩, by simp⟩
set_option maxRecDepth 100000 in
set_option maxHeartbeats 4000000 in
theorem law_MigrateAffected (L : List VV) (vH : Value) (a b zn : ByteArray) (s t g f : Int) (w : World) (hg : GoodH w vH L) (hm : HasMax w) :
  Calls Tryz.prog 10 #[.agg #[vH], .string a, .string b, .string zn, .agg #[.int .i64 s, .int .i64 t], .agg #[.int .i64 g, .int .i64 f]] w fun e w' => e = .returned (.bool true) ∧ Below w.heap.size w w' := by
 have HAW := Lib.hid (fun W (hb : Below w.heap.size w W) => awake53_any W (hm.on hb))
 have HF := Lib.hid (fun W (hb : Below w.heap.size w W) => few53_any L [] vH (.slice none 0 0) W (hg.on hb) (.inl ⟨rfl, none, 0, rfl⟩))
 have HAF := Lib.hid (fun (hk : OkH L) hsp W (hb : Below w.heap.size w W) => Affected_any L vH a b zn s t g f W (hm.on hb) (hg.on hb) hk hsp)
 have HA := Lib.hid (fun (hk : OkH L) W (hb : Below w.heap.size w W) => Find_his L vH a zn W (hm.on hb) (hg.on hb) hk)
 have HB := Lib.hid (fun (hk : OkH L) W (hb : Below w.heap.size w W) => Find_his L vH b zn W (hm.on hb) (hg.on hb) hk)
 have HLO := Lib.hid (fun (hk : OkH L) hsp x y h1 h2 W (hb : Below w.heap.size w W) => Loc_his L vH a b zn s t g f W (hm.on hb) (hg.on hb) hk hsp x y h1 h2)
 have HEA := Lib.hid (fun h => findF_err (L := L) (vn := a) (zn := zn) h)
 have HEB := Lib.hid (fun h => findF_err (L := L) (vn := b) (zn := zn) h)
 have HOA := Lib.hid (fun y h => (findF_mem (L := L) (vn := a) (zn := zn) (y := y) h).1)
 have HOB := Lib.hid (fun y h => (findF_mem (L := L) (vn := b) (zn := zn) (y := y) h).1)
 obtain ⟨A, c, rfl⟩ := rd_vf hg.r
 clear hg hm
 unfold AffEnd at HAF
 generalize findF L a zn = qa at *
 generalize findF L b zn = qb at *
 obtain ⟨qa1, qa2⟩ := qa
 obtain ⟨qb1, qb2⟩ := qb
 dsimp only at HAF HA HB HLO HEA HEB HOA HOB ⊢
 have b0 := ((Blk.new w #[.slice A L.length c] 58).alloc (.cells #[.int .i64 s, .int .i64 t] 29)).alloc (.cells #[.int .i64 g, .int .i64 f] 44)
 have b1 := (Blk.new (w.alloc (.cells #[.slice A L.length c] 58)) #[.int .i64 s, .int .i64 t] 29).alloc (.cells #[.int .i64 g, .int .i64 f] 44)
 have b2 := Blk.new ((w.alloc (.cells #[.slice A L.length c] 58)).alloc (.cells #[.int .i64 s, .int .i64 t] 29)) #[.int .i64 g, .int .i64 f] 44
 simp only [World.size_alloc] at b1 b2
 have hB3 : Below w.heap.size w (((w.alloc (.cells #[.slice A L.length c] 58)).alloc (.cells #[.int .i64 s, .int .i64 t] 29)).alloc (.cells #[.int .i64 g, .int .i64 f] 44)) := (((Below.refl _ _).alloc (Nat.le_refl _) _).alloc (by simp) _).alloc (by simp; omega) _
 go_enter Tryz.func10, Tryz.ntmps10
 go_wp2_with fail
 generalize ((w.alloc (.cells #[.slice A L.length c] 58)).alloc (.cells #[.int .i64 s, .int .i64 t] 29)).alloc (.cells #[.int .i64 g, .int .i64 f] 44) = W at *
 refine (HAW.out W hB3).mono ?_
 rintro e w1 ⟨rfl, hb1⟩
 have hB4 := hB3.trans (hb1.mono hB3.size)
 have b0 := b0.below hb1 b0.lt
 have b1 := b1.below hb1 b1.lt
 have b2 := b2.below hb1 b2.lt
 clear hb1 hB3
 have h0 := blk_cl b0 0 _ rfl
 have hl := b0.lt
 go_wp2_with fail
 refine (HF.out w1 hB4).mono ?_
 rintro e w2 ⟨rfl, hb2⟩
 have hB5 := hB4.trans (hb2.mono hB4.size)
 clear h0 hl
 have b0 := b0.below hb2 b0.lt
 have b1 := b1.below hb2 b1.lt
 have b2 := b2.below hb2 b2.lt
 clear hb2 hB4 HF
 cases hf : fewB L []
 case false =>
  clear hf
  go_wp2_with (go_at_call 27; refine (HAW.out w2 hB5).mono ?_; rintro e w3 ⟨rfl, hb3⟩)
  go_ret
  exact ⟨rfl, hB5.trans (hb3.mono hB5.size)⟩
 obtain ⟨hok, _, _, _⟩ := few_ok hf
 clear hf
 by_cases ha : (60 : Int) < (a.size : Int)
 ·have da := decide_eq_true ha
  go_wp2_with (go_at_call 27; refine (HAW.out w2 hB5).mono ?_; rintro e w3 ⟨rfl, hb3⟩)
  go_ret
  exact ⟨rfl, hB5.trans (hb3.mono hB5.size)⟩
 have da := decide_eq_false ha
 clear ha
 by_cases hb : (60 : Int) < (b.size : Int)
 ·have db := decide_eq_true hb
  go_wp2_with (go_at_call 27; refine (HAW.out w2 hB5).mono ?_; rintro e w3 ⟨rfl, hb3⟩)
  go_ret
  exact ⟨rfl, hB5.trans (hb3.mono hB5.size)⟩
 have db := decide_eq_false hb
 clear hb
 by_cases hz : (60 : Int) < (zn.size : Int)
 ·have dz := decide_eq_true hz
  go_wp2_with (go_at_call 27; refine (HAW.out w2 hB5).mono ?_; rintro e w3 ⟨rfl, hb3⟩)
  go_ret
  exact ⟨rfl, hB5.trans (hb3.mono hB5.size)⟩
 have dz := decide_eq_false hz
 clear hz
 have i0 := blk_cl b1 0 _ rfl
 have i1 := blk_cl b1 1 _ rfl
 have il := b1.lt

 by_cases g1 : -62135596800 ≤ s
 case neg =>
  have e1 := decide_eq_false g1
  have hsp : spanV s t = true → t - s ≤ 94867200 := by
   intro h
   unfold spanV at h
   simp only [Bool.and_eq_true, decide_eq_true_eq] at h
   exact absurd h.1 g1
  clear g1
  have HAF := Lib.hid (HAF.out hok hsp)
  have HA := Lib.hid (HA.out hok)
  have HB := Lib.hid (HB.out hok)
  have HLO := Lib.hid (HLO.out hok hsp)
  clear hsp hok HAW

  have h0 := blk_cl b0 0 _ rfl
  have hl := b0.lt
  have p0 := blk_cl b2 0 _ rfl
  have p1 := blk_cl b2 1 _ rfl
  have pl := b2.lt
  go_wp2_with fail
  refine (HAF.out w2 hB5).mono ?_
  rintro e w3 ⟨hb3, h3⟩
  have hB6 := hB5.trans (hb3.mono hB5.size)
  clear h0 hl p0 p1 pl i0 i1 il
  have b0 := b0.below hb3 b0.lt
  have b1 := b1.below hb3 b1.lt
  have b2 := b2.below hb3 b2.lt
  clear HAF da db dz
  rcases h3 with ⟨rfl, rfl⟩ | ⟨x0, rfl, rfl, rfl⟩ | ⟨x0, y0, rfl, rfl, hg1⟩
  ·have h7 : (qa2 != 0) = true := by rw [bne_iff_ne]; rcases HEA.out rfl with h | h <;> omega
   have h8 : (qa2 == 0) = false := by rw [beq_eq_false_iff_ne]; rcases HEA.out rfl with h | h <;> omega
   rw [show optZ none = .agg #[.string ⟨#[]⟩, .int .i64 0, .int .i64 0, .string ⟨#[]⟩, .slice none 0 0, .slice none 0 0, .int .i64 0, .string ⟨#[]⟩, .int .i64 0] from rfl] at HA
   have h0 := blk_cl b0 0 _ rfl
   have hl := b0.lt
   go_wp2_with fail
   refine (HA.out w3 hB6).mono ?_
   rintro e w4 ⟨rfl, hbf⟩
   have hB70 := hB6.trans (hbf.mono hB6.size)
   have hB7 : Below w.heap.size w (w4.alloc (.cells #[.string ⟨#[]⟩, .int .i64 0, .int .i64 0, .string ⟨#[]⟩, .slice none 0 0, .slice none 0 0, .int .i64 0, .string ⟨#[]⟩, .int .i64 0] 27)) := hB70.alloc hB70.size _
   clear h0 hl
   have b0 := b0.below hbf b0.lt
   have b0 := b0.alloc (.cells #[.string ⟨#[]⟩, .int .i64 0, .int .i64 0, .string ⟨#[]⟩, .slice none 0 0, .slice none 0 0, .int .i64 0, .string ⟨#[]⟩, .int .i64 0] 27)
   clear hbf
   cases qb1 with
   | none =>
    rw [show optZ none = .agg #[.string ⟨#[]⟩, .int .i64 0, .int .i64 0, .string ⟨#[]⟩, .slice none 0 0, .slice none 0 0, .int .i64 0, .string ⟨#[]⟩, .int .i64 0] from rfl] at HB
    have h0 := blk_cl b0 0 _ rfl
    have hl := b0.lt
    go_wp2_with fail
    generalize w4.alloc (.cells #[.string ⟨#[]⟩, .int .i64 0, .int .i64 0, .string ⟨#[]⟩, .slice none 0 0, .slice none 0 0, .int .i64 0, .string ⟨#[]⟩, .int .i64 0] 27) = w5 at *
    refine (HB.out w5 hB7).mono ?_
    rintro e w6 ⟨rfl, hbf⟩
    have hB80 := hB7.trans (hbf.mono hB7.size)
    have hB8 : Below w.heap.size w (w6.alloc (.cells #[.string ⟨#[]⟩, .int .i64 0, .int .i64 0, .string ⟨#[]⟩, .slice none 0 0, .slice none 0 0, .int .i64 0, .string ⟨#[]⟩, .int .i64 0] 27)) := hB80.alloc hB80.size _
    clear h0 hl
    have b0 := b0.below hbf b0.lt
    have b0 := b0.alloc (.cells #[.string ⟨#[]⟩, .int .i64 0, .int .i64 0, .string ⟨#[]⟩, .slice none 0 0, .slice none 0 0, .int .i64 0, .string ⟨#[]⟩, .int .i64 0] 27)
    clear hbf
    go_wp2
    go_ret
    exact ⟨ret1 (vbool (by simp)), hB8⟩
   | some y0 =>
    obtain ⟨y, vT2, vR2, ⟨AT2, cT2, rfl⟩, ⟨AR2, cR2, rfl⟩⟩ := y0
    rw [show optZ (some ⟨y, .slice AT2 y.table.length cT2, .slice AR2 y.tail.length cR2, ⟨AT2, cT2, rfl⟩, ⟨AR2, cR2, rfl⟩⟩) = .agg #[.string y.nm, .int .i64 y.first.off, .int .i64 y.first.sv, .string y.first.nm, .slice AT2 y.table.length cT2, .slice AR2 y.tail.length cR2, .int .i64 y.off, .string y.form, .int .i64 y.year] from rfl] at HB
    have h0 := blk_cl b0 0 _ rfl
    have hl := b0.lt
    go_wp2_with fail
    generalize w4.alloc (.cells #[.string ⟨#[]⟩, .int .i64 0, .int .i64 0, .string ⟨#[]⟩, .slice none 0 0, .slice none 0 0, .int .i64 0, .string ⟨#[]⟩, .int .i64 0] 27) = w5 at *
    refine (HB.out w5 hB7).mono ?_
    rintro e w6 ⟨rfl, hbf⟩
    have hB80 := hB7.trans (hbf.mono hB7.size)
    have hB8 : Below w.heap.size w (w6.alloc (.cells #[.string y.nm, .int .i64 y.first.off, .int .i64 y.first.sv, .string y.first.nm, .slice AT2 y.table.length cT2, .slice AR2 y.tail.length cR2, .int .i64 y.off, .string y.form, .int .i64 y.year] 27)) := hB80.alloc hB80.size _
    clear h0 hl
    have b0 := b0.below hbf b0.lt
    have b0 := b0.alloc (.cells #[.string y.nm, .int .i64 y.first.off, .int .i64 y.first.sv, .string y.first.nm, .slice AT2 y.table.length cT2, .slice AR2 y.tail.length cR2, .int .i64 y.off, .string y.form, .int .i64 y.year] 27)
    clear hbf
    go_wp2
    go_ret
    exact ⟨ret1 (vbool (by simp)), hB8⟩
  ·have h7 : (qb2 != 0) = true := by rw [bne_iff_ne]; rcases HEB.out rfl with h | h <;> omega
   have h8 : (qb2 == 0) = false := by rw [beq_eq_false_iff_ne]; rcases HEB.out rfl with h | h <;> omega
   have h0 := HOA.out _ rfl
   subst h0
   obtain ⟨x, vT1, vR1, ⟨AT1, cT1, rfl⟩, ⟨AR1, cR1, rfl⟩⟩ := x0
   rw [show optZ (some ⟨x, .slice AT1 x.table.length cT1, .slice AR1 x.tail.length cR1, ⟨AT1, cT1, rfl⟩, ⟨AR1, cR1, rfl⟩⟩) = .agg #[.string x.nm, .int .i64 x.first.off, .int .i64 x.first.sv, .string x.first.nm, .slice AT1 x.table.length cT1, .slice AR1 x.tail.length cR1, .int .i64 x.off, .string x.form, .int .i64 x.year] from rfl] at HA
   have h0 := blk_cl b0 0 _ rfl
   have hl := b0.lt
   go_wp2_with fail
   refine (HA.out w3 hB6).mono ?_
   rintro e w4 ⟨rfl, hbf⟩
   have hB70 := hB6.trans (hbf.mono hB6.size)
   have hB7 : Below w.heap.size w (w4.alloc (.cells #[.string x.nm, .int .i64 x.first.off, .int .i64 x.first.sv, .string x.first.nm, .slice AT1 x.table.length cT1, .slice AR1 x.tail.length cR1, .int .i64 x.off, .string x.form, .int .i64 x.year] 27)) := hB70.alloc hB70.size _
   clear h0 hl
   have b0 := b0.below hbf b0.lt
   have b0 := b0.alloc (.cells #[.string x.nm, .int .i64 x.first.off, .int .i64 x.first.sv, .string x.first.nm, .slice AT1 x.table.length cT1, .slice AR1 x.tail.length cR1, .int .i64 x.off, .string x.form, .int .i64 x.year] 27)
   clear hbf
   rw [show optZ none = .agg #[.string ⟨#[]⟩, .int .i64 0, .int .i64 0, .string ⟨#[]⟩, .slice none 0 0, .slice none 0 0, .int .i64 0, .string ⟨#[]⟩, .int .i64 0] from rfl] at HB
   have h0 := blk_cl b0 0 _ rfl
   have hl := b0.lt
   go_wp2_with fail
   generalize w4.alloc (.cells #[.string x.nm, .int .i64 x.first.off, .int .i64 x.first.sv, .string x.first.nm, .slice AT1 x.table.length cT1, .slice AR1 x.tail.length cR1, .int .i64 x.off, .string x.form, .int .i64 x.year] 27) = w5 at *
   refine (HB.out w5 hB7).mono ?_
   rintro e w6 ⟨rfl, hbf⟩
   have hB80 := hB7.trans (hbf.mono hB7.size)
   have hB8 : Below w.heap.size w (w6.alloc (.cells #[.string ⟨#[]⟩, .int .i64 0, .int .i64 0, .string ⟨#[]⟩, .slice none 0 0, .slice none 0 0, .int .i64 0, .string ⟨#[]⟩, .int .i64 0] 27)) := hB80.alloc hB80.size _
   clear h0 hl
   have b0 := b0.below hbf b0.lt
   have b0 := b0.alloc (.cells #[.string ⟨#[]⟩, .int .i64 0, .int .i64 0, .string ⟨#[]⟩, .slice none 0 0, .slice none 0 0, .int .i64 0, .string ⟨#[]⟩, .int .i64 0] 27)
   clear hbf
   go_wp2
   go_ret
   exact ⟨ret1 (vbool (by simp)), hB8⟩
  ·have h0 := HOA.out _ rfl
   subst h0
   have h0 := HOB.out _ rfl
   subst h0
   have HLO := Lib.hid (fun W hb => HLO.out x0 y0 rfl rfl W hb)
   obtain ⟨x, vT1, vR1, ⟨AT1, cT1, rfl⟩, ⟨AR1, cR1, rfl⟩⟩ := x0
   rw [show optZ (some ⟨x, .slice AT1 x.table.length cT1, .slice AR1 x.tail.length cR1, ⟨AT1, cT1, rfl⟩, ⟨AR1, cR1, rfl⟩⟩) = .agg #[.string x.nm, .int .i64 x.first.off, .int .i64 x.first.sv, .string x.first.nm, .slice AT1 x.table.length cT1, .slice AR1 x.tail.length cR1, .int .i64 x.off, .string x.form, .int .i64 x.year] from rfl] at HA
   obtain ⟨y, vT2, vR2, ⟨AT2, cT2, rfl⟩, ⟨AR2, cR2, rfl⟩⟩ := y0
   rw [show optZ (some ⟨y, .slice AT2 y.table.length cT2, .slice AR2 y.tail.length cR2, ⟨AT2, cT2, rfl⟩, ⟨AR2, cR2, rfl⟩⟩) = .agg #[.string y.nm, .int .i64 y.first.off, .int .i64 y.first.sv, .string y.first.nm, .slice AT2 y.table.length cT2, .slice AR2 y.tail.length cR2, .int .i64 y.off, .string y.form, .int .i64 y.year] from rfl] at HB
   dsimp only at hg1 HLO
   unfold Zn.v at HLO
   obtain ⟨l1, n1, u1, rfl, hl1, hR1, hv1⟩ := loc_shape hg1
   have h0 := blk_cl b0 0 _ rfl
   have hl := b0.lt
   go_wp2_with fail
   refine (HA.out w3 hB6).mono ?_
   rintro e w4 ⟨rfl, hbf⟩
   have hB70 := hB6.trans (hbf.mono hB6.size)
   have hB7 : Below w.heap.size w (w4.alloc (.cells #[.string x.nm, .int .i64 x.first.off, .int .i64 x.first.sv, .string x.first.nm, .slice AT1 x.table.length cT1, .slice AR1 x.tail.length cR1, .int .i64 x.off, .string x.form, .int .i64 x.year] 27)) := hB70.alloc hB70.size _
   clear h0 hl
   have b0 := b0.below hbf b0.lt
   have b1 := b1.below hbf b1.lt
   have b2 := b2.below hbf b2.lt
   have hR1 := hR1.on (hbf)
   have b0 := b0.alloc (.cells #[.string x.nm, .int .i64 x.first.off, .int .i64 x.first.sv, .string x.first.nm, .slice AT1 x.table.length cT1, .slice AR1 x.tail.length cR1, .int .i64 x.off, .string x.form, .int .i64 x.year] 27)
   have b1 := b1.alloc (.cells #[.string x.nm, .int .i64 x.first.off, .int .i64 x.first.sv, .string x.first.nm, .slice AT1 x.table.length cT1, .slice AR1 x.tail.length cR1, .int .i64 x.off, .string x.form, .int .i64 x.year] 27)
   have b2 := b2.alloc (.cells #[.string x.nm, .int .i64 x.first.off, .int .i64 x.first.sv, .string x.first.nm, .slice AT1 x.table.length cT1, .slice AR1 x.tail.length cR1, .int .i64 x.off, .string x.form, .int .i64 x.year] 27)
   clear hbf
   have hR1 := hR1.on (alloc_below' w4 (.cells #[.string x.nm, .int .i64 x.first.off, .int .i64 x.first.sv, .string x.first.nm, .slice AT1 x.table.length cT1, .slice AR1 x.tail.length cR1, .int .i64 x.off, .string x.form, .int .i64 x.year] 27))
   have bx := Blk.new w4 #[.string x.nm, .int .i64 x.first.off, .int .i64 x.first.sv, .string x.first.nm, .slice AT1 x.table.length cT1, .slice AR1 x.tail.length cR1, .int .i64 x.off, .string x.form, .int .i64 x.year] 27
   have h0 := blk_cl b0 0 _ rfl
   have hl := b0.lt
   go_wp2_with fail
   generalize w4.alloc (.cells #[.string x.nm, .int .i64 x.first.off, .int .i64 x.first.sv, .string x.first.nm, .slice AT1 x.table.length cT1, .slice AR1 x.tail.length cR1, .int .i64 x.off, .string x.form, .int .i64 x.year] 27) = w5 at *
   refine (HB.out w5 hB7).mono ?_
   rintro e w6 ⟨rfl, hbf⟩
   have hB80 := hB7.trans (hbf.mono hB7.size)
   have hB8 : Below w.heap.size w (w6.alloc (.cells #[.string y.nm, .int .i64 y.first.off, .int .i64 y.first.sv, .string y.first.nm, .slice AT2 y.table.length cT2, .slice AR2 y.tail.length cR2, .int .i64 y.off, .string y.form, .int .i64 y.year] 27)) := hB80.alloc hB80.size _
   clear h0 hl
   have b0 := b0.below hbf b0.lt
   have b1 := b1.below hbf b1.lt
   have b2 := b2.below hbf b2.lt
   have bx := bx.below hbf bx.lt
   have hR1 := hR1.on (hbf)
   have b0 := b0.alloc (.cells #[.string y.nm, .int .i64 y.first.off, .int .i64 y.first.sv, .string y.first.nm, .slice AT2 y.table.length cT2, .slice AR2 y.tail.length cR2, .int .i64 y.off, .string y.form, .int .i64 y.year] 27)
   have b1 := b1.alloc (.cells #[.string y.nm, .int .i64 y.first.off, .int .i64 y.first.sv, .string y.first.nm, .slice AT2 y.table.length cT2, .slice AR2 y.tail.length cR2, .int .i64 y.off, .string y.form, .int .i64 y.year] 27)
   have b2 := b2.alloc (.cells #[.string y.nm, .int .i64 y.first.off, .int .i64 y.first.sv, .string y.first.nm, .slice AT2 y.table.length cT2, .slice AR2 y.tail.length cR2, .int .i64 y.off, .string y.form, .int .i64 y.year] 27)
   have bx := bx.alloc (.cells #[.string y.nm, .int .i64 y.first.off, .int .i64 y.first.sv, .string y.first.nm, .slice AT2 y.table.length cT2, .slice AR2 y.tail.length cR2, .int .i64 y.off, .string y.form, .int .i64 y.year] 27)
   clear hbf
   have hR1 := hR1.on (alloc_below' w6 (.cells #[.string y.nm, .int .i64 y.first.off, .int .i64 y.first.sv, .string y.first.nm, .slice AT2 y.table.length cT2, .slice AR2 y.tail.length cR2, .int .i64 y.off, .string y.form, .int .i64 y.year] 27))
   have by_ := Blk.new w6 #[.string y.nm, .int .i64 y.first.off, .int .i64 y.first.sv, .string y.first.nm, .slice AT2 y.table.length cT2, .slice AR2 y.tail.length cR2, .int .i64 y.off, .string y.form, .int .i64 y.year] 27
   have i0 := blk_cl b1 0 _ rfl
   have i1 := blk_cl b1 1 _ rfl
   have il := b1.lt
   have p0 := blk_cl b2 0 _ rfl
   have p1 := blk_cl b2 1 _ rfl
   have pl := b2.lt
   have x0 := blk_cl bx 0 _ rfl
   have x1 := blk_cl bx 1 _ rfl
   have x2 := blk_cl bx 2 _ rfl
   have x3 := blk_cl bx 3 _ rfl
   have x4 := blk_cl bx 4 _ rfl
   have x5 := blk_cl bx 5 _ rfl
   have x6 := blk_cl bx 6 _ rfl
   have x7 := blk_cl bx 7 _ rfl
   have x8 := blk_cl bx 8 _ rfl
   have xl := bx.lt
   have y0 := blk_cl by_ 0 _ rfl
   have y1 := blk_cl by_ 1 _ rfl
   have y2 := blk_cl by_ 2 _ rfl
   have y3 := blk_cl by_ 3 _ rfl
   have y4 := blk_cl by_ 4 _ rfl
   have y5 := blk_cl by_ 5 _ rfl
   have y6 := blk_cl by_ 6 _ rfl
   have y7 := blk_cl by_ 7 _ rfl
   have y8 := blk_cl by_ 8 _ rfl
   have yl := by_.lt
   have HR1 := Lib.hid hR1
   obtain ⟨A1, c1, rfl⟩ := rd_vf hR1
   clear hR1
   go_wp2_with fail
   generalize w6.alloc (.cells #[.string y.nm, .int .i64 y.first.off, .int .i64 y.first.sv, .string y.first.nm, .slice AT2 y.table.length cT2, .slice AR2 y.tail.length cR2, .int .i64 y.off, .string y.form, .int .i64 y.year] 27) = w7 at *
   clear i0 i1 il p0 p1 pl x0 x1 x2 x3 x4 x5 x6 x7 x8 xl y0 y1 y2 y3 y4 y5 y6 y7 y8 yl
   refine (HLO.out w7 hB8).mono ?_
   rintro e w8 hg2
   have hB9 := hB8.trans (hg2.1.mono hB8.size)
   obtain ⟨l2, n2, u2, rfl, hl2, hR2, hv2⟩ := loc_shape hg2
   obtain ⟨rfl, rfl⟩ : l2 = l1 ∧ n2 = n1 := loc_same hl1 hl2
   have HEQ := Lib.hid (EqS_same l2 _ _ w8 (by omega) (HR1.out.on hg2.1) hR2)
   obtain ⟨A2, c2, rfl⟩ := rd_vf hR2
   clear hR2 hg1 hg2
   go_wp2_with fail
   refine HEQ.out.mono ?_
   rintro e w9 ⟨rfl, hb9⟩
   go_wp2
   go_ret
   exact ⟨ret1 (vbool (by simp)), hB9.trans (hb9.mono hB9.size)⟩

 have e1 := decide_eq_true g1
 by_cases g2 : t ≤ 253402300800
 case neg =>
  have e2 := decide_eq_false g2
  have hsp : spanV s t = true → t - s ≤ 94867200 := by
   intro h
   unfold spanV at h
   simp only [Bool.and_eq_true, decide_eq_true_eq] at h
   exact absurd h.2.2 g2
  clear g1 g2
  have HAF := Lib.hid (HAF.out hok hsp)
  have HA := Lib.hid (HA.out hok)
  have HB := Lib.hid (HB.out hok)
  have HLO := Lib.hid (HLO.out hok hsp)
  clear hsp hok HAW

  have h0 := blk_cl b0 0 _ rfl
  have hl := b0.lt
  have p0 := blk_cl b2 0 _ rfl
  have p1 := blk_cl b2 1 _ rfl
  have pl := b2.lt
  go_wp2_with fail
  refine (HAF.out w2 hB5).mono ?_
  rintro e w3 ⟨hb3, h3⟩
  have hB6 := hB5.trans (hb3.mono hB5.size)
  clear h0 hl p0 p1 pl i0 i1 il
  have b0 := b0.below hb3 b0.lt
  have b1 := b1.below hb3 b1.lt
  have b2 := b2.below hb3 b2.lt
  clear HAF da db dz
  rcases h3 with ⟨rfl, rfl⟩ | ⟨x0, rfl, rfl, rfl⟩ | ⟨x0, y0, rfl, rfl, hg1⟩
  ·have h7 : (qa2 != 0) = true := by rw [bne_iff_ne]; rcases HEA.out rfl with h | h <;> omega
   have h8 : (qa2 == 0) = false := by rw [beq_eq_false_iff_ne]; rcases HEA.out rfl with h | h <;> omega
   rw [show optZ none = .agg #[.string ⟨#[]⟩, .int .i64 0, .int .i64 0, .string ⟨#[]⟩, .slice none 0 0, .slice none 0 0, .int .i64 0, .string ⟨#[]⟩, .int .i64 0] from rfl] at HA
   have h0 := blk_cl b0 0 _ rfl
   have hl := b0.lt
   go_wp2_with fail
   refine (HA.out w3 hB6).mono ?_
   rintro e w4 ⟨rfl, hbf⟩
   have hB70 := hB6.trans (hbf.mono hB6.size)
   have hB7 : Below w.heap.size w (w4.alloc (.cells #[.string ⟨#[]⟩, .int .i64 0, .int .i64 0, .string ⟨#[]⟩, .slice none 0 0, .slice none 0 0, .int .i64 0, .string ⟨#[]⟩, .int .i64 0] 27)) := hB70.alloc hB70.size _
   clear h0 hl
   have b0 := b0.below hbf b0.lt
   have b0 := b0.alloc (.cells #[.string ⟨#[]⟩, .int .i64 0, .int .i64 0, .string ⟨#[]⟩, .slice none 0 0, .slice none 0 0, .int .i64 0, .string ⟨#[]⟩, .int .i64 0] 27)
   clear hbf
   cases qb1 with
   | none =>
    rw [show optZ none = .agg #[.string ⟨#[]⟩, .int .i64 0, .int .i64 0, .string ⟨#[]⟩, .slice none 0 0, .slice none 0 0, .int .i64 0, .string ⟨#[]⟩, .int .i64 0] from rfl] at HB
    have h0 := blk_cl b0 0 _ rfl
    have hl := b0.lt
    go_wp2_with fail
    generalize w4.alloc (.cells #[.string ⟨#[]⟩, .int .i64 0, .int .i64 0, .string ⟨#[]⟩, .slice none 0 0, .slice none 0 0, .int .i64 0, .string ⟨#[]⟩, .int .i64 0] 27) = w5 at *
    refine (HB.out w5 hB7).mono ?_
    rintro e w6 ⟨rfl, hbf⟩
    have hB80 := hB7.trans (hbf.mono hB7.size)
    have hB8 : Below w.heap.size w (w6.alloc (.cells #[.string ⟨#[]⟩, .int .i64 0, .int .i64 0, .string ⟨#[]⟩, .slice none 0 0, .slice none 0 0, .int .i64 0, .string ⟨#[]⟩, .int .i64 0] 27)) := hB80.alloc hB80.size _
    clear h0 hl
    have b0 := b0.below hbf b0.lt
    have b0 := b0.alloc (.cells #[.string ⟨#[]⟩, .int .i64 0, .int .i64 0, .string ⟨#[]⟩, .slice none 0 0, .slice none 0 0, .int .i64 0, .string ⟨#[]⟩, .int .i64 0] 27)
    clear hbf
    go_wp2
    go_ret
    exact ⟨ret1 (vbool (by simp)), hB8⟩
   | some y0 =>
    obtain ⟨y, vT2, vR2, ⟨AT2, cT2, rfl⟩, ⟨AR2, cR2, rfl⟩⟩ := y0
    rw [show optZ (some ⟨y, .slice AT2 y.table.length cT2, .slice AR2 y.tail.length cR2, ⟨AT2, cT2, rfl⟩, ⟨AR2, cR2, rfl⟩⟩) = .agg #[.string y.nm, .int .i64 y.first.off, .int .i64 y.first.sv, .string y.first.nm, .slice AT2 y.table.length cT2, .slice AR2 y.tail.length cR2, .int .i64 y.off, .string y.form, .int .i64 y.year] from rfl] at HB
    have h0 := blk_cl b0 0 _ rfl
    have hl := b0.lt
    go_wp2_with fail
    generalize w4.alloc (.cells #[.string ⟨#[]⟩, .int .i64 0, .int .i64 0, .string ⟨#[]⟩, .slice none 0 0, .slice none 0 0, .int .i64 0, .string ⟨#[]⟩, .int .i64 0] 27) = w5 at *
    refine (HB.out w5 hB7).mono ?_
    rintro e w6 ⟨rfl, hbf⟩
    have hB80 := hB7.trans (hbf.mono hB7.size)
    have hB8 : Below w.heap.size w (w6.alloc (.cells #[.string y.nm, .int .i64 y.first.off, .int .i64 y.first.sv, .string y.first.nm, .slice AT2 y.table.length cT2, .slice AR2 y.tail.length cR2, .int .i64 y.off, .string y.form, .int .i64 y.year] 27)) := hB80.alloc hB80.size _
    clear h0 hl
    have b0 := b0.below hbf b0.lt
    have b0 := b0.alloc (.cells #[.string y.nm, .int .i64 y.first.off, .int .i64 y.first.sv, .string y.first.nm, .slice AT2 y.table.length cT2, .slice AR2 y.tail.length cR2, .int .i64 y.off, .string y.form, .int .i64 y.year] 27)
    clear hbf
    go_wp2
    go_ret
    exact ⟨ret1 (vbool (by simp)), hB8⟩
  ·have h7 : (qb2 != 0) = true := by rw [bne_iff_ne]; rcases HEB.out rfl with h | h <;> omega
   have h8 : (qb2 == 0) = false := by rw [beq_eq_false_iff_ne]; rcases HEB.out rfl with h | h <;> omega
   have h0 := HOA.out _ rfl
   subst h0
   obtain ⟨x, vT1, vR1, ⟨AT1, cT1, rfl⟩, ⟨AR1, cR1, rfl⟩⟩ := x0
   rw [show optZ (some ⟨x, .slice AT1 x.table.length cT1, .slice AR1 x.tail.length cR1, ⟨AT1, cT1, rfl⟩, ⟨AR1, cR1, rfl⟩⟩) = .agg #[.string x.nm, .int .i64 x.first.off, .int .i64 x.first.sv, .string x.first.nm, .slice AT1 x.table.length cT1, .slice AR1 x.tail.length cR1, .int .i64 x.off, .string x.form, .int .i64 x.year] from rfl] at HA
   have h0 := blk_cl b0 0 _ rfl
   have hl := b0.lt
   go_wp2_with fail
   refine (HA.out w3 hB6).mono ?_
   rintro e w4 ⟨rfl, hbf⟩
   have hB70 := hB6.trans (hbf.mono hB6.size)
   have hB7 : Below w.heap.size w (w4.alloc (.cells #[.string x.nm, .int .i64 x.first.off, .int .i64 x.first.sv, .string x.first.nm, .slice AT1 x.table.length cT1, .slice AR1 x.tail.length cR1, .int .i64 x.off, .string x.form, .int .i64 x.year] 27)) := hB70.alloc hB70.size _
   clear h0 hl
   have b0 := b0.below hbf b0.lt
   have b0 := b0.alloc (.cells #[.string x.nm, .int .i64 x.first.off, .int .i64 x.first.sv, .string x.first.nm, .slice AT1 x.table.length cT1, .slice AR1 x.tail.length cR1, .int .i64 x.off, .string x.form, .int .i64 x.year] 27)
   clear hbf
   rw [show optZ none = .agg #[.string ⟨#[]⟩, .int .i64 0, .int .i64 0, .string ⟨#[]⟩, .slice none 0 0, .slice none 0 0, .int .i64 0, .string ⟨#[]⟩, .int .i64 0] from rfl] at HB
   have h0 := blk_cl b0 0 _ rfl
   have hl := b0.lt
   go_wp2_with fail
   generalize w4.alloc (.cells #[.string x.nm, .int .i64 x.first.off, .int .i64 x.first.sv, .string x.first.nm, .slice AT1 x.table.length cT1, .slice AR1 x.tail.length cR1, .int .i64 x.off, .string x.form, .int .i64 x.year] 27) = w5 at *
   refine (HB.out w5 hB7).mono ?_
   rintro e w6 ⟨rfl, hbf⟩
   have hB80 := hB7.trans (hbf.mono hB7.size)
   have hB8 : Below w.heap.size w (w6.alloc (.cells #[.string ⟨#[]⟩, .int .i64 0, .int .i64 0, .string ⟨#[]⟩, .slice none 0 0, .slice none 0 0, .int .i64 0, .string ⟨#[]⟩, .int .i64 0] 27)) := hB80.alloc hB80.size _
   clear h0 hl
   have b0 := b0.below hbf b0.lt
   have b0 := b0.alloc (.cells #[.string ⟨#[]⟩, .int .i64 0, .int .i64 0, .string ⟨#[]⟩, .slice none 0 0, .slice none 0 0, .int .i64 0, .string ⟨#[]⟩, .int .i64 0] 27)
   clear hbf
   go_wp2
   go_ret
   exact ⟨ret1 (vbool (by simp)), hB8⟩
  ·have h0 := HOA.out _ rfl
   subst h0
   have h0 := HOB.out _ rfl
   subst h0
   have HLO := Lib.hid (fun W hb => HLO.out x0 y0 rfl rfl W hb)
   obtain ⟨x, vT1, vR1, ⟨AT1, cT1, rfl⟩, ⟨AR1, cR1, rfl⟩⟩ := x0
   rw [show optZ (some ⟨x, .slice AT1 x.table.length cT1, .slice AR1 x.tail.length cR1, ⟨AT1, cT1, rfl⟩, ⟨AR1, cR1, rfl⟩⟩) = .agg #[.string x.nm, .int .i64 x.first.off, .int .i64 x.first.sv, .string x.first.nm, .slice AT1 x.table.length cT1, .slice AR1 x.tail.length cR1, .int .i64 x.off, .string x.form, .int .i64 x.year] from rfl] at HA
   obtain ⟨y, vT2, vR2, ⟨AT2, cT2, rfl⟩, ⟨AR2, cR2, rfl⟩⟩ := y0
   rw [show optZ (some ⟨y, .slice AT2 y.table.length cT2, .slice AR2 y.tail.length cR2, ⟨AT2, cT2, rfl⟩, ⟨AR2, cR2, rfl⟩⟩) = .agg #[.string y.nm, .int .i64 y.first.off, .int .i64 y.first.sv, .string y.first.nm, .slice AT2 y.table.length cT2, .slice AR2 y.tail.length cR2, .int .i64 y.off, .string y.form, .int .i64 y.year] from rfl] at HB
   dsimp only at hg1 HLO
   unfold Zn.v at HLO
   obtain ⟨l1, n1, u1, rfl, hl1, hR1, hv1⟩ := loc_shape hg1
   have h0 := blk_cl b0 0 _ rfl
   have hl := b0.lt
   go_wp2_with fail
   refine (HA.out w3 hB6).mono ?_
   rintro e w4 ⟨rfl, hbf⟩
   have hB70 := hB6.trans (hbf.mono hB6.size)
   have hB7 : Below w.heap.size w (w4.alloc (.cells #[.string x.nm, .int .i64 x.first.off, .int .i64 x.first.sv, .string x.first.nm, .slice AT1 x.table.length cT1, .slice AR1 x.tail.length cR1, .int .i64 x.off, .string x.form, .int .i64 x.year] 27)) := hB70.alloc hB70.size _
   clear h0 hl
   have b0 := b0.below hbf b0.lt
   have b1 := b1.below hbf b1.lt
   have b2 := b2.below hbf b2.lt
   have hR1 := hR1.on (hbf)
   have b0 := b0.alloc (.cells #[.string x.nm, .int .i64 x.first.off, .int .i64 x.first.sv, .string x.first.nm, .slice AT1 x.table.length cT1, .slice AR1 x.tail.length cR1, .int .i64 x.off, .string x.form, .int .i64 x.year] 27)
   have b1 := b1.alloc (.cells #[.string x.nm, .int .i64 x.first.off, .int .i64 x.first.sv, .string x.first.nm, .slice AT1 x.table.length cT1, .slice AR1 x.tail.length cR1, .int .i64 x.off, .string x.form, .int .i64 x.year] 27)
   have b2 := b2.alloc (.cells #[.string x.nm, .int .i64 x.first.off, .int .i64 x.first.sv, .string x.first.nm, .slice AT1 x.table.length cT1, .slice AR1 x.tail.length cR1, .int .i64 x.off, .string x.form, .int .i64 x.year] 27)
   clear hbf
   have hR1 := hR1.on (alloc_below' w4 (.cells #[.string x.nm, .int .i64 x.first.off, .int .i64 x.first.sv, .string x.first.nm, .slice AT1 x.table.length cT1, .slice AR1 x.tail.length cR1, .int .i64 x.off, .string x.form, .int .i64 x.year] 27))
   have bx := Blk.new w4 #[.string x.nm, .int .i64 x.first.off, .int .i64 x.first.sv, .string x.first.nm, .slice AT1 x.table.length cT1, .slice AR1 x.tail.length cR1, .int .i64 x.off, .string x.form, .int .i64 x.year] 27
   have h0 := blk_cl b0 0 _ rfl
   have hl := b0.lt
   go_wp2_with fail
   generalize w4.alloc (.cells #[.string x.nm, .int .i64 x.first.off, .int .i64 x.first.sv, .string x.first.nm, .slice AT1 x.table.length cT1, .slice AR1 x.tail.length cR1, .int .i64 x.off, .string x.form, .int .i64 x.year] 27) = w5 at *
   refine (HB.out w5 hB7).mono ?_
   rintro e w6 ⟨rfl, hbf⟩
   have hB80 := hB7.trans (hbf.mono hB7.size)
   have hB8 : Below w.heap.size w (w6.alloc (.cells #[.string y.nm, .int .i64 y.first.off, .int .i64 y.first.sv, .string y.first.nm, .slice AT2 y.table.length cT2, .slice AR2 y.tail.length cR2, .int .i64 y.off, .string y.form, .int .i64 y.year] 27)) := hB80.alloc hB80.size _
   clear h0 hl
   have b0 := b0.below hbf b0.lt
   have b1 := b1.below hbf b1.lt
   have b2 := b2.below hbf b2.lt
   have bx := bx.below hbf bx.lt
   have hR1 := hR1.on (hbf)
   have b0 := b0.alloc (.cells #[.string y.nm, .int .i64 y.first.off, .int .i64 y.first.sv, .string y.first.nm, .slice AT2 y.table.length cT2, .slice AR2 y.tail.length cR2, .int .i64 y.off, .string y.form, .int .i64 y.year] 27)
   have b1 := b1.alloc (.cells #[.string y.nm, .int .i64 y.first.off, .int .i64 y.first.sv, .string y.first.nm, .slice AT2 y.table.length cT2, .slice AR2 y.tail.length cR2, .int .i64 y.off, .string y.form, .int .i64 y.year] 27)
   have b2 := b2.alloc (.cells #[.string y.nm, .int .i64 y.first.off, .int .i64 y.first.sv, .string y.first.nm, .slice AT2 y.table.length cT2, .slice AR2 y.tail.length cR2, .int .i64 y.off, .string y.form, .int .i64 y.year] 27)
   have bx := bx.alloc (.cells #[.string y.nm, .int .i64 y.first.off, .int .i64 y.first.sv, .string y.first.nm, .slice AT2 y.table.length cT2, .slice AR2 y.tail.length cR2, .int .i64 y.off, .string y.form, .int .i64 y.year] 27)
   clear hbf
   have hR1 := hR1.on (alloc_below' w6 (.cells #[.string y.nm, .int .i64 y.first.off, .int .i64 y.first.sv, .string y.first.nm, .slice AT2 y.table.length cT2, .slice AR2 y.tail.length cR2, .int .i64 y.off, .string y.form, .int .i64 y.year] 27))
   have by_ := Blk.new w6 #[.string y.nm, .int .i64 y.first.off, .int .i64 y.first.sv, .string y.first.nm, .slice AT2 y.table.length cT2, .slice AR2 y.tail.length cR2, .int .i64 y.off, .string y.form, .int .i64 y.year] 27
   have i0 := blk_cl b1 0 _ rfl
   have i1 := blk_cl b1 1 _ rfl
   have il := b1.lt
   have p0 := blk_cl b2 0 _ rfl
   have p1 := blk_cl b2 1 _ rfl
   have pl := b2.lt
   have x0 := blk_cl bx 0 _ rfl
   have x1 := blk_cl bx 1 _ rfl
   have x2 := blk_cl bx 2 _ rfl
   have x3 := blk_cl bx 3 _ rfl
   have x4 := blk_cl bx 4 _ rfl
   have x5 := blk_cl bx 5 _ rfl
   have x6 := blk_cl bx 6 _ rfl
   have x7 := blk_cl bx 7 _ rfl
   have x8 := blk_cl bx 8 _ rfl
   have xl := bx.lt
   have y0 := blk_cl by_ 0 _ rfl
   have y1 := blk_cl by_ 1 _ rfl
   have y2 := blk_cl by_ 2 _ rfl
   have y3 := blk_cl by_ 3 _ rfl
   have y4 := blk_cl by_ 4 _ rfl
   have y5 := blk_cl by_ 5 _ rfl
   have y6 := blk_cl by_ 6 _ rfl
   have y7 := blk_cl by_ 7 _ rfl
   have y8 := blk_cl by_ 8 _ rfl
   have yl := by_.lt
   have HR1 := Lib.hid hR1
   obtain ⟨A1, c1, rfl⟩ := rd_vf hR1
   clear hR1
   go_wp2_with fail
   generalize w6.alloc (.cells #[.string y.nm, .int .i64 y.first.off, .int .i64 y.first.sv, .string y.first.nm, .slice AT2 y.table.length cT2, .slice AR2 y.tail.length cR2, .int .i64 y.off, .string y.form, .int .i64 y.year] 27) = w7 at *
   clear i0 i1 il p0 p1 pl x0 x1 x2 x3 x4 x5 x6 x7 x8 xl y0 y1 y2 y3 y4 y5 y6 y7 y8 yl
   refine (HLO.out w7 hB8).mono ?_
   rintro e w8 hg2
   have hB9 := hB8.trans (hg2.1.mono hB8.size)
   obtain ⟨l2, n2, u2, rfl, hl2, hR2, hv2⟩ := loc_shape hg2
   obtain ⟨rfl, rfl⟩ : l2 = l1 ∧ n2 = n1 := loc_same hl1 hl2
   have HEQ := Lib.hid (EqS_same l2 _ _ w8 (by omega) (HR1.out.on hg2.1) hR2)
   obtain ⟨A2, c2, rfl⟩ := rd_vf hR2
   clear hR2 hg1 hg2
   go_wp2_with fail
   refine HEQ.out.mono ?_
   rintro e w9 ⟨rfl, hb9⟩
   go_wp2
   go_ret
   exact ⟨ret1 (vbool (by simp)), hB9.trans (hb9.mono hB9.size)⟩

 have e2 := decide_eq_true g2
 by_cases g3 : 94867200 < wrap64 (t - s)
 case pos =>
  have e3 := decide_eq_true g3
  clear g1 g2 g3
  go_wp2_with (go_at_call 27; refine (HAW.out w2 hB5).mono ?_; rintro e w3 ⟨rfl, hb3⟩)
  go_ret
  exact ⟨rfl, hB5.trans (hb3.mono hB5.size)⟩
 have e3 := decide_eq_false g3
 have hsp : spanV s t = true → t - s ≤ 94867200 := by
  intro h
  unfold spanV at h
  simp only [Bool.and_eq_true, decide_eq_true_eq] at h
  rw [show wrap64 (t - s) = t - s by unfold wrap64; omega] at g3; omega
 clear g1 g2 g3
 have HAF := Lib.hid (HAF.out hok hsp)
 have HA := Lib.hid (HA.out hok)
 have HB := Lib.hid (HB.out hok)
 have HLO := Lib.hid (HLO.out hok hsp)
 clear hsp hok HAW

 have h0 := blk_cl b0 0 _ rfl
 have hl := b0.lt
 have p0 := blk_cl b2 0 _ rfl
 have p1 := blk_cl b2 1 _ rfl
 have pl := b2.lt
 go_wp2_with fail
 refine (HAF.out w2 hB5).mono ?_
 rintro e w3 ⟨hb3, h3⟩
 have hB6 := hB5.trans (hb3.mono hB5.size)
 clear h0 hl p0 p1 pl i0 i1 il
 have b0 := b0.below hb3 b0.lt
 have b1 := b1.below hb3 b1.lt
 have b2 := b2.below hb3 b2.lt
 clear HAF da db dz
 rcases h3 with ⟨rfl, rfl⟩ | ⟨x0, rfl, rfl, rfl⟩ | ⟨x0, y0, rfl, rfl, hg1⟩
 ·have h7 : (qa2 != 0) = true := by rw [bne_iff_ne]; rcases HEA.out rfl with h | h <;> omega
  have h8 : (qa2 == 0) = false := by rw [beq_eq_false_iff_ne]; rcases HEA.out rfl with h | h <;> omega
  rw [show optZ none = .agg #[.string ⟨#[]⟩, .int .i64 0, .int .i64 0, .string ⟨#[]⟩, .slice none 0 0, .slice none 0 0, .int .i64 0, .string ⟨#[]⟩, .int .i64 0] from rfl] at HA
  have h0 := blk_cl b0 0 _ rfl
  have hl := b0.lt
  go_wp2_with fail
  refine (HA.out w3 hB6).mono ?_
  rintro e w4 ⟨rfl, hbf⟩
  have hB70 := hB6.trans (hbf.mono hB6.size)
  have hB7 : Below w.heap.size w (w4.alloc (.cells #[.string ⟨#[]⟩, .int .i64 0, .int .i64 0, .string ⟨#[]⟩, .slice none 0 0, .slice none 0 0, .int .i64 0, .string ⟨#[]⟩, .int .i64 0] 27)) := hB70.alloc hB70.size _
  clear h0 hl
  have b0 := b0.below hbf b0.lt
  have b0 := b0.alloc (.cells #[.string ⟨#[]⟩, .int .i64 0, .int .i64 0, .string ⟨#[]⟩, .slice none 0 0, .slice none 0 0, .int .i64 0, .string ⟨#[]⟩, .int .i64 0] 27)
  clear hbf
  cases qb1 with
  | none =>
   rw [show optZ none = .agg #[.string ⟨#[]⟩, .int .i64 0, .int .i64 0, .string ⟨#[]⟩, .slice none 0 0, .slice none 0 0, .int .i64 0, .string ⟨#[]⟩, .int .i64 0] from rfl] at HB
   have h0 := blk_cl b0 0 _ rfl
   have hl := b0.lt
   go_wp2_with fail
   generalize w4.alloc (.cells #[.string ⟨#[]⟩, .int .i64 0, .int .i64 0, .string ⟨#[]⟩, .slice none 0 0, .slice none 0 0, .int .i64 0, .string ⟨#[]⟩, .int .i64 0] 27) = w5 at *
   refine (HB.out w5 hB7).mono ?_
   rintro e w6 ⟨rfl, hbf⟩
   have hB80 := hB7.trans (hbf.mono hB7.size)
   have hB8 : Below w.heap.size w (w6.alloc (.cells #[.string ⟨#[]⟩, .int .i64 0, .int .i64 0, .string ⟨#[]⟩, .slice none 0 0, .slice none 0 0, .int .i64 0, .string ⟨#[]⟩, .int .i64 0] 27)) := hB80.alloc hB80.size _
   clear h0 hl
   have b0 := b0.below hbf b0.lt
   have b0 := b0.alloc (.cells #[.string ⟨#[]⟩, .int .i64 0, .int .i64 0, .string ⟨#[]⟩, .slice none 0 0, .slice none 0 0, .int .i64 0, .string ⟨#[]⟩, .int .i64 0] 27)
   clear hbf
   go_wp2
   go_ret
   exact ⟨ret1 (vbool (by simp)), hB8⟩
  | some y0 =>
   obtain ⟨y, vT2, vR2, ⟨AT2, cT2, rfl⟩, ⟨AR2, cR2, rfl⟩⟩ := y0
   rw [show optZ (some ⟨y, .slice AT2 y.table.length cT2, .slice AR2 y.tail.length cR2, ⟨AT2, cT2, rfl⟩, ⟨AR2, cR2, rfl⟩⟩) = .agg #[.string y.nm, .int .i64 y.first.off, .int .i64 y.first.sv, .string y.first.nm, .slice AT2 y.table.length cT2, .slice AR2 y.tail.length cR2, .int .i64 y.off, .string y.form, .int .i64 y.year] from rfl] at HB
   have h0 := blk_cl b0 0 _ rfl
   have hl := b0.lt
   go_wp2_with fail
   generalize w4.alloc (.cells #[.string ⟨#[]⟩, .int .i64 0, .int .i64 0, .string ⟨#[]⟩, .slice none 0 0, .slice none 0 0, .int .i64 0, .string ⟨#[]⟩, .int .i64 0] 27) = w5 at *
   refine (HB.out w5 hB7).mono ?_
   rintro e w6 ⟨rfl, hbf⟩
   have hB80 := hB7.trans (hbf.mono hB7.size)
   have hB8 : Below w.heap.size w (w6.alloc (.cells #[.string y.nm, .int .i64 y.first.off, .int .i64 y.first.sv, .string y.first.nm, .slice AT2 y.table.length cT2, .slice AR2 y.tail.length cR2, .int .i64 y.off, .string y.form, .int .i64 y.year] 27)) := hB80.alloc hB80.size _
   clear h0 hl
   have b0 := b0.below hbf b0.lt
   have b0 := b0.alloc (.cells #[.string y.nm, .int .i64 y.first.off, .int .i64 y.first.sv, .string y.first.nm, .slice AT2 y.table.length cT2, .slice AR2 y.tail.length cR2, .int .i64 y.off, .string y.form, .int .i64 y.year] 27)
   clear hbf
   go_wp2
   go_ret
   exact ⟨ret1 (vbool (by simp)), hB8⟩
 ·have h7 : (qb2 != 0) = true := by rw [bne_iff_ne]; rcases HEB.out rfl with h | h <;> omega
  have h8 : (qb2 == 0) = false := by rw [beq_eq_false_iff_ne]; rcases HEB.out rfl with h | h <;> omega
  have h0 := HOA.out _ rfl
  subst h0
  obtain ⟨x, vT1, vR1, ⟨AT1, cT1, rfl⟩, ⟨AR1, cR1, rfl⟩⟩ := x0
  rw [show optZ (some ⟨x, .slice AT1 x.table.length cT1, .slice AR1 x.tail.length cR1, ⟨AT1, cT1, rfl⟩, ⟨AR1, cR1, rfl⟩⟩) = .agg #[.string x.nm, .int .i64 x.first.off, .int .i64 x.first.sv, .string x.first.nm, .slice AT1 x.table.length cT1, .slice AR1 x.tail.length cR1, .int .i64 x.off, .string x.form, .int .i64 x.year] from rfl] at HA
  have h0 := blk_cl b0 0 _ rfl
  have hl := b0.lt
  go_wp2_with fail
  refine (HA.out w3 hB6).mono ?_
  rintro e w4 ⟨rfl, hbf⟩
  have hB70 := hB6.trans (hbf.mono hB6.size)
  have hB7 : Below w.heap.size w (w4.alloc (.cells #[.string x.nm, .int .i64 x.first.off, .int .i64 x.first.sv, .string x.first.nm, .slice AT1 x.table.length cT1, .slice AR1 x.tail.length cR1, .int .i64 x.off, .string x.form, .int .i64 x.year] 27)) := hB70.alloc hB70.size _
  clear h0 hl
  have b0 := b0.below hbf b0.lt
  have b0 := b0.alloc (.cells #[.string x.nm, .int .i64 x.first.off, .int .i64 x.first.sv, .string x.first.nm, .slice AT1 x.table.length cT1, .slice AR1 x.tail.length cR1, .int .i64 x.off, .string x.form, .int .i64 x.year] 27)
  clear hbf
  rw [show optZ none = .agg #[.string ⟨#[]⟩, .int .i64 0, .int .i64 0, .string ⟨#[]⟩, .slice none 0 0, .slice none 0 0, .int .i64 0, .string ⟨#[]⟩, .int .i64 0] from rfl] at HB
  have h0 := blk_cl b0 0 _ rfl
  have hl := b0.lt
  go_wp2_with fail
  generalize w4.alloc (.cells #[.string x.nm, .int .i64 x.first.off, .int .i64 x.first.sv, .string x.first.nm, .slice AT1 x.table.length cT1, .slice AR1 x.tail.length cR1, .int .i64 x.off, .string x.form, .int .i64 x.year] 27) = w5 at *
  refine (HB.out w5 hB7).mono ?_
  rintro e w6 ⟨rfl, hbf⟩
  have hB80 := hB7.trans (hbf.mono hB7.size)
  have hB8 : Below w.heap.size w (w6.alloc (.cells #[.string ⟨#[]⟩, .int .i64 0, .int .i64 0, .string ⟨#[]⟩, .slice none 0 0, .slice none 0 0, .int .i64 0, .string ⟨#[]⟩, .int .i64 0] 27)) := hB80.alloc hB80.size _
  clear h0 hl
  have b0 := b0.below hbf b0.lt
  have b0 := b0.alloc (.cells #[.string ⟨#[]⟩, .int .i64 0, .int .i64 0, .string ⟨#[]⟩, .slice none 0 0, .slice none 0 0, .int .i64 0, .string ⟨#[]⟩, .int .i64 0] 27)
  clear hbf
  go_wp2
  go_ret
  exact ⟨ret1 (vbool (by simp)), hB8⟩
 ·have h0 := HOA.out _ rfl
  subst h0
  have h0 := HOB.out _ rfl
  subst h0
  have HLO := Lib.hid (fun W hb => HLO.out x0 y0 rfl rfl W hb)
  obtain ⟨x, vT1, vR1, ⟨AT1, cT1, rfl⟩, ⟨AR1, cR1, rfl⟩⟩ := x0
  rw [show optZ (some ⟨x, .slice AT1 x.table.length cT1, .slice AR1 x.tail.length cR1, ⟨AT1, cT1, rfl⟩, ⟨AR1, cR1, rfl⟩⟩) = .agg #[.string x.nm, .int .i64 x.first.off, .int .i64 x.first.sv, .string x.first.nm, .slice AT1 x.table.length cT1, .slice AR1 x.tail.length cR1, .int .i64 x.off, .string x.form, .int .i64 x.year] from rfl] at HA
  obtain ⟨y, vT2, vR2, ⟨AT2, cT2, rfl⟩, ⟨AR2, cR2, rfl⟩⟩ := y0
  rw [show optZ (some ⟨y, .slice AT2 y.table.length cT2, .slice AR2 y.tail.length cR2, ⟨AT2, cT2, rfl⟩, ⟨AR2, cR2, rfl⟩⟩) = .agg #[.string y.nm, .int .i64 y.first.off, .int .i64 y.first.sv, .string y.first.nm, .slice AT2 y.table.length cT2, .slice AR2 y.tail.length cR2, .int .i64 y.off, .string y.form, .int .i64 y.year] from rfl] at HB
  dsimp only at hg1 HLO
  unfold Zn.v at HLO
  obtain ⟨l1, n1, u1, rfl, hl1, hR1, hv1⟩ := loc_shape hg1
  have h0 := blk_cl b0 0 _ rfl
  have hl := b0.lt
  go_wp2_with fail
  refine (HA.out w3 hB6).mono ?_
  rintro e w4 ⟨rfl, hbf⟩
  have hB70 := hB6.trans (hbf.mono hB6.size)
  have hB7 : Below w.heap.size w (w4.alloc (.cells #[.string x.nm, .int .i64 x.first.off, .int .i64 x.first.sv, .string x.first.nm, .slice AT1 x.table.length cT1, .slice AR1 x.tail.length cR1, .int .i64 x.off, .string x.form, .int .i64 x.year] 27)) := hB70.alloc hB70.size _
  clear h0 hl
  have b0 := b0.below hbf b0.lt
  have b1 := b1.below hbf b1.lt
  have b2 := b2.below hbf b2.lt
  have hR1 := hR1.on (hbf)
  have b0 := b0.alloc (.cells #[.string x.nm, .int .i64 x.first.off, .int .i64 x.first.sv, .string x.first.nm, .slice AT1 x.table.length cT1, .slice AR1 x.tail.length cR1, .int .i64 x.off, .string x.form, .int .i64 x.year] 27)
  have b1 := b1.alloc (.cells #[.string x.nm, .int .i64 x.first.off, .int .i64 x.first.sv, .string x.first.nm, .slice AT1 x.table.length cT1, .slice AR1 x.tail.length cR1, .int .i64 x.off, .string x.form, .int .i64 x.year] 27)
  have b2 := b2.alloc (.cells #[.string x.nm, .int .i64 x.first.off, .int .i64 x.first.sv, .string x.first.nm, .slice AT1 x.table.length cT1, .slice AR1 x.tail.length cR1, .int .i64 x.off, .string x.form, .int .i64 x.year] 27)
  clear hbf
  have hR1 := hR1.on (alloc_below' w4 (.cells #[.string x.nm, .int .i64 x.first.off, .int .i64 x.first.sv, .string x.first.nm, .slice AT1 x.table.length cT1, .slice AR1 x.tail.length cR1, .int .i64 x.off, .string x.form, .int .i64 x.year] 27))
  have bx := Blk.new w4 #[.string x.nm, .int .i64 x.first.off, .int .i64 x.first.sv, .string x.first.nm, .slice AT1 x.table.length cT1, .slice AR1 x.tail.length cR1, .int .i64 x.off, .string x.form, .int .i64 x.year] 27
  have h0 := blk_cl b0 0 _ rfl
  have hl := b0.lt
  go_wp2_with fail
  generalize w4.alloc (.cells #[.string x.nm, .int .i64 x.first.off, .int .i64 x.first.sv, .string x.first.nm, .slice AT1 x.table.length cT1, .slice AR1 x.tail.length cR1, .int .i64 x.off, .string x.form, .int .i64 x.year] 27) = w5 at *
  refine (HB.out w5 hB7).mono ?_
  rintro e w6 ⟨rfl, hbf⟩
  have hB80 := hB7.trans (hbf.mono hB7.size)
  have hB8 : Below w.heap.size w (w6.alloc (.cells #[.string y.nm, .int .i64 y.first.off, .int .i64 y.first.sv, .string y.first.nm, .slice AT2 y.table.length cT2, .slice AR2 y.tail.length cR2, .int .i64 y.off, .string y.form, .int .i64 y.year] 27)) := hB80.alloc hB80.size _
  clear h0 hl
  have b0 := b0.below hbf b0.lt
  have b1 := b1.below hbf b1.lt
  have b2 := b2.below hbf b2.lt
  have bx := bx.below hbf bx.lt
  have hR1 := hR1.on (hbf)
  have b0 := b0.alloc (.cells #[.string y.nm, .int .i64 y.first.off, .int .i64 y.first.sv, .string y.first.nm, .slice AT2 y.table.length cT2, .slice AR2 y.tail.length cR2, .int .i64 y.off, .string y.form, .int .i64 y.year] 27)
  have b1 := b1.alloc (.cells #[.string y.nm, .int .i64 y.first.off, .int .i64 y.first.sv, .string y.first.nm, .slice AT2 y.table.length cT2, .slice AR2 y.tail.length cR2, .int .i64 y.off, .string y.form, .int .i64 y.year] 27)
  have b2 := b2.alloc (.cells #[.string y.nm, .int .i64 y.first.off, .int .i64 y.first.sv, .string y.first.nm, .slice AT2 y.table.length cT2, .slice AR2 y.tail.length cR2, .int .i64 y.off, .string y.form, .int .i64 y.year] 27)
  have bx := bx.alloc (.cells #[.string y.nm, .int .i64 y.first.off, .int .i64 y.first.sv, .string y.first.nm, .slice AT2 y.table.length cT2, .slice AR2 y.tail.length cR2, .int .i64 y.off, .string y.form, .int .i64 y.year] 27)
  clear hbf
  have hR1 := hR1.on (alloc_below' w6 (.cells #[.string y.nm, .int .i64 y.first.off, .int .i64 y.first.sv, .string y.first.nm, .slice AT2 y.table.length cT2, .slice AR2 y.tail.length cR2, .int .i64 y.off, .string y.form, .int .i64 y.year] 27))
  have by_ := Blk.new w6 #[.string y.nm, .int .i64 y.first.off, .int .i64 y.first.sv, .string y.first.nm, .slice AT2 y.table.length cT2, .slice AR2 y.tail.length cR2, .int .i64 y.off, .string y.form, .int .i64 y.year] 27
  have i0 := blk_cl b1 0 _ rfl
  have i1 := blk_cl b1 1 _ rfl
  have il := b1.lt
  have p0 := blk_cl b2 0 _ rfl
  have p1 := blk_cl b2 1 _ rfl
  have pl := b2.lt
  have x0 := blk_cl bx 0 _ rfl
  have x1 := blk_cl bx 1 _ rfl
  have x2 := blk_cl bx 2 _ rfl
  have x3 := blk_cl bx 3 _ rfl
  have x4 := blk_cl bx 4 _ rfl
  have x5 := blk_cl bx 5 _ rfl
  have x6 := blk_cl bx 6 _ rfl
  have x7 := blk_cl bx 7 _ rfl
  have x8 := blk_cl bx 8 _ rfl
  have xl := bx.lt
  have y0 := blk_cl by_ 0 _ rfl
  have y1 := blk_cl by_ 1 _ rfl
  have y2 := blk_cl by_ 2 _ rfl
  have y3 := blk_cl by_ 3 _ rfl
  have y4 := blk_cl by_ 4 _ rfl
  have y5 := blk_cl by_ 5 _ rfl
  have y6 := blk_cl by_ 6 _ rfl
  have y7 := blk_cl by_ 7 _ rfl
  have y8 := blk_cl by_ 8 _ rfl
  have yl := by_.lt
  have HR1 := Lib.hid hR1
  obtain ⟨A1, c1, rfl⟩ := rd_vf hR1
  clear hR1
  go_wp2_with fail
  generalize w6.alloc (.cells #[.string y.nm, .int .i64 y.first.off, .int .i64 y.first.sv, .string y.first.nm, .slice AT2 y.table.length cT2, .slice AR2 y.tail.length cR2, .int .i64 y.off, .string y.form, .int .i64 y.year] 27) = w7 at *
  clear i0 i1 il p0 p1 pl x0 x1 x2 x3 x4 x5 x6 x7 x8 xl y0 y1 y2 y3 y4 y5 y6 y7 y8 yl
  refine (HLO.out w7 hB8).mono ?_
  rintro e w8 hg2
  have hB9 := hB8.trans (hg2.1.mono hB8.size)
  obtain ⟨l2, n2, u2, rfl, hl2, hR2, hv2⟩ := loc_shape hg2
  obtain ⟨rfl, rfl⟩ : l2 = l1 ∧ n2 = n1 := loc_same hl1 hl2
  have HEQ := Lib.hid (EqS_same l2 _ _ w8 (by omega) (HR1.out.on hg2.1) hR2)
  obtain ⟨A2, c2, rfl⟩ := rd_vf hR2
  clear hR2 hg1 hg2
  go_wp2_with fail
  refine HEQ.out.mono ?_
  rintro e w9 ⟨rfl, hb9⟩
  go_wp2
  go_ret
  exact ⟨ret1 (vbool (by simp)), hB9.trans (hb9.mono hB9.size)⟩


end Go.Proofs.YtoonaidpmahgcaaGreat

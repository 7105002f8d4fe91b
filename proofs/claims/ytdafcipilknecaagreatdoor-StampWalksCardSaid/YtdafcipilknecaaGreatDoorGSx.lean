/- Joined by merge.py: StM, StP0, WalkP, EqSt, LawBackC. -/
import Derived.Test.YtdafcipilknecaaGreatDoorGStm
import Derived.Test.YtdafcipilknecaaGreatDoorJShiftP
import Derived.Test.YtdafcipilknecaaGreatDoorGCh
import Derived.Test.YtdafcipilknecaaGreatDoorJLocW6
import Derived.Test.YtdafcipilknecaaGreatDoorGLa
import Derived.Laws.StructEq
import Derived.Test.YtdafcipilknecaaGreatDoorJLocW10
/- stamp.Move at a local stamp, by days alone. -/
namespace Go.Proofs.YtdafcipilknecaaGreatDoor
set_option linter.unusedSimpArgs false
set_option linter.unusedVariables false
open Go.ChangeShapes Go.WideShapes Go.ChangeAt Go.RowKit Go.Lib
def stZ : Stm := ⟨0, ⟨#[]⟩, 0, 0⟩
def Stm.mv (s : Stm) (d : Int) : Stm := ⟨s.at_ + 86400 * d, s.zn, s.gap, s.fold⟩
def movF (L : List VV) (vn : ByteArray) (s : Stm) (d : Int) : Stm × Int :=
 if validH L = true ∧ stmB s = true then
  if (-4000000 ≤ d ∧ d ≤ 4000000) ∧ insT (s.mv d).at_ = true then
   if (rsv1 L vn (s.mv d)).2 = 0 then (s.mv d, 0) else (stZ, (rsv1 L vn (s.mv d)).2)
  else (stZ, 2)
 else (stZ, 1)
theorem mov_1 {L : List VV} {vn : ByteArray} {s : Stm} {d : Int} (h : ¬ (validH L = true ∧ stmB s = true)) : movF L vn s d = (stZ, 1) := if_neg h
theorem mov_2 {L : List VV} {vn : ByteArray} {s : Stm} {d : Int} (h : validH L = true ∧ stmB s = true) (h2 : ¬ ((-4000000 ≤ d ∧ d ≤ 4000000) ∧ insT (s.mv d).at_ = true)) : movF L vn s d = (stZ, 2) := by unfold movF; rw [if_pos h, if_neg h2]
theorem mov_e {L : List VV} {vn : ByteArray} {s : Stm} {d : Int} (h : validH L = true ∧ stmB s = true) (h2 : (-4000000 ≤ d ∧ d ≤ 4000000) ∧ insT (s.mv d).at_ = true) {r e : Int} (hr : rsv1 L vn (s.mv d) = (r, e)) (h3 : e ≠ 0) : movF L vn s d = (stZ, e) := by unfold movF; rw [if_pos h, if_pos h2, hr, if_neg h3]
theorem mov_0 {L : List VV} {vn : ByteArray} {s : Stm} {d : Int} (h : validH L = true ∧ stmB s = true) (h2 : (-4000000 ≤ d ∧ d ≤ 4000000) ∧ insT (s.mv d).at_ = true) {r : Int} (hr : rsv1 L vn (s.mv d) = (r, 0)) : movF L vn s d = (s.mv d, 0) := by unfold movF; rw [if_pos h, if_pos h2, hr, if_pos rfl]
theorem stm_at {s : Stm} (h : stmB s = true) : -62135596800 ≤ s.at_ ∧ s.at_ < 253402300800 := by
 unfold stmB insT at h
 simp at h
 omega
set_option maxRecDepth 100000 in
set_option maxHeartbeats 4000000 in
theorem Move_loc (L : List VV) (vH : Value) (vn : ByteArray) (s : Stm) (d : Int) (w : World) (hm : HasMax w) (hg : GoodH w vH L) (hk : OkH L) (he : emptyB s.zn = false) :
  Calls Tryz.prog 13 #[.agg #[vH], .string vn, .agg (encStm s).toArray, .int .i64 d, .int .i64 0] w fun e w' => e = .returned (.tuple #[.agg (encStm (movF L vn s d).1).toArray, .int .i64 (movF L vn s d).2]) ∧ Below w.heap.size w w' := by
 have HV := Lib.hid (fun W (hb : Below w.heap.size w W) => Valid_his L vH W (hm.on hb) (hg.on hb) hk)
 have HS := Lib.hid (fun W => stm_valid s W)
 have HI := Lib.hid (fun W => inside_any (s.at_ + 86400 * d) W)
 have HR := Lib.hid (fun W (hb : Below w.heap.size w W) => resolve_his L vH vn (s.mv d) W (hm.on hb) (hg.on hb) hk)
 suffices HPOST : ∀ Post : Ending → World → Prop, Hid (∀ p q w', Below w.heap.size w w' → movF L vn s d = (p, q) → Post (.returned (.tuple #[.agg #[.int .i64 p.at_, .string p.zn, .int .i64 p.gap, .int .i64 p.fold], .int .i64 q])) w') → Calls Tryz.prog 13 #[.agg #[vH], .string vn, .agg (encStm s).toArray, .int .i64 d, .int .i64 0] w Post from HPOST _ (Lib.hid fun p q w' h1 h2 => by rw [h2]; exact ⟨rfl, h1⟩)
 intro Post HP
 have H1 := Lib.hid (mov_1 (L := L) (vn := vn) (s := s) (d := d))
 have H2 := Lib.hid (mov_2 (L := L) (vn := vn) (s := s) (d := d))
 have HE := Lib.hid (fun h h2 r e => mov_e (L := L) (vn := vn) (s := s) (d := d) h h2 (r := r) (e := e))
 have H0 := Lib.hid (fun h h2 r => mov_0 (L := L) (vn := vn) (s := s) (d := d) h h2 (r := r))
 have HA := Lib.hid (stm_at (s := s))
 obtain ⟨A, c, rfl⟩ := rd_vf hg.r
 clear hg hm hk
 generalize hmv : movF L vn s d = sm at *
 clear hmv
 obtain ⟨⟨x, e1⟩, hr1⟩ : ∃ r, rsv1 L vn (s.mv d) = r := ⟨_, rfl⟩
 rw [hr1] at HR HE H0
 have HE := Lib.hid (fun h h2 => HE.out h h2 x e1 rfl)
 obtain ⟨vv, hvv⟩ : ∃ x, validH L = x := ⟨_, rfl⟩
 obtain ⟨vs, hvs⟩ : ∃ x, stmB s = x := ⟨_, rfl⟩
 obtain ⟨vi, hvi⟩ : ∃ x, insT (s.at_ + 86400 * d) = x := ⟨_, rfl⟩
 rw [hvv] at HV
 rw [hvs] at HS
 rw [hvi] at HI
 have hvi : insT (s.mv d).at_ = vi := hvi
 unfold emptyB at he
 obtain ⟨sa, sz, sg, sf⟩ := s
 unfold Stm.mv at H2 HE H0 HR hvi
 unfold encStm at HS HR ⊢
 dsimp only at HS HR HI HA H2 HE H0 he hvi ⊢
 show Calls Tryz.prog 13 #[.agg #[.slice A L.length c], .string vn, .agg #[.int .i64 sa, .string sz, .int .i64 sg, .int .i64 sf], .int .i64 d, .int .i64 0] w _
 have b0 := ((Blk.new w #[.slice A L.length c] 24).alloc (.cells #[.int .i64 sa, .string sz, .int .i64 sg, .int .i64 sf] 28)).alloc (.cells #[.int .i64 0, .string ⟨#[]⟩, .int .i64 0, .int .i64 0] 28)
 have b1 := (Blk.new (w.alloc (.cells #[.slice A L.length c] 24)) #[.int .i64 sa, .string sz, .int .i64 sg, .int .i64 sf] 28).alloc (.cells #[.int .i64 0, .string ⟨#[]⟩, .int .i64 0, .int .i64 0] 28)
 have bz := Blk.new ((w.alloc (.cells #[.slice A L.length c] 24)).alloc (.cells #[.int .i64 sa, .string sz, .int .i64 sg, .int .i64 sf] 28)) #[.int .i64 0, .string ⟨#[]⟩, .int .i64 0, .int .i64 0] 28
 simp only [World.size_alloc] at b1 bz
 have hB2 : Below w.heap.size w (((w.alloc (.cells #[.slice A L.length c] 24)).alloc (.cells #[.int .i64 sa, .string sz, .int .i64 sg, .int .i64 sf] 28)).alloc (.cells #[.int .i64 0, .string ⟨#[]⟩, .int .i64 0, .int .i64 0] 28)) := (((Below.refl _ _).alloc (Nat.le_refl _) _).alloc (by simp) _).alloc (by simp; omega) _
 have hRL : w.heap.size ≤ w.heap.size + 1 + 1 := by omega
 have h0 := blk_cl b0 0 _ rfl
 have hl := b0.lt
 go_enter Tryz.func13, Tryz.ntmps13
 go_wp2_with fail
 generalize ((w.alloc (.cells #[.slice A L.length c] 24)).alloc (.cells #[.int .i64 sa, .string sz, .int .i64 sg, .int .i64 sf] 28)).alloc (.cells #[.int .i64 0, .string ⟨#[]⟩, .int .i64 0, .int .i64 0] 28) = W at *
 clear h0 hl
 refine (HV.out W hB2).mono ?_
 rintro e w1 ⟨rfl, hb1⟩
 have hB3 := hB2.trans (hb1.mono hB2.size)
 have b0 := b0.below hb1 b0.lt
 have b1 := b1.below hb1 b1.lt
 have bz := bz.below hb1 bz.lt
 cases vv
 ·skip
  have z0 := blk_cl bz 0 _ rfl
  have z1 := blk_cl bz 1 _ rfl
  have z2 := blk_cl bz 2 _ rfl
  have z3 := blk_cl bz 3 _ rfl
  have zl := bz.lt
  have zf := fun i => bz.frozen i
  have hBr : Below w.heap.size w ((((w1.setCell ⟨w.heap.size + 1 + 1, 0, none⟩ (.int .i64 0)).setCell ⟨w.heap.size + 1 + 1, 1, none⟩ (.string ⟨#[]⟩)).setCell ⟨w.heap.size + 1 + 1, 2, none⟩ (.int .i64 0)).setCell ⟨w.heap.size + 1 + 1, 3, none⟩ (.int .i64 0)) := ((((hB3.setCell (p := ⟨w.heap.size + 1 + 1, 0, none⟩) hRL _).setCell (p := ⟨w.heap.size + 1 + 1, 1, none⟩) hRL _).setCell (p := ⟨w.heap.size + 1 + 1, 2, none⟩) hRL _).setCell (p := ⟨w.heap.size + 1 + 1, 3, none⟩) hRL _)
  have s4 := ((((bz.setAt 0 (.int .i64 0)).setAt 1 (.string ⟨#[]⟩)).setAt 2 (.int .i64 0)).setAt 3 (.int .i64 0))
  have s0 := s4.cell 0 (v := .int .i64 0) (by simp)
  have s1 := s4.cell 1 (v := .string ⟨#[]⟩) (by simp)
  have s2 := s4.cell 2 (v := .int .i64 0) (by simp)
  have s3 := s4.cell 3 (v := .int .i64 0) (by simp)
  go_wp2
  exact bodyPost_ret (v := .tuple #[.agg #[.int .i64 0, .string ⟨#[]⟩, .int .i64 0, .int .i64 0], .int .i64 1]) (by simp [results, Tryz.results13, go_sem, s0, s1, s2, s3]) rfl (HP.out stZ 1 _ hBr (H1.out (fun h => by rw [hvv] at h; cases h.1)))
 have i0 := blk_cl b1 0 _ rfl
 have i1 := blk_cl b1 1 _ rfl
 have i2 := blk_cl b1 2 _ rfl
 have i3 := blk_cl b1 3 _ rfl
 have il := b1.lt
 go_wp2_with fail
 clear i0 i1 i2 i3 il
 refine (HS.out w1).mono ?_
 rintro e w2 ⟨rfl, hb2⟩
 have hB4 := hB3.trans (hb2.mono hB3.size)
 have b0 := b0.below hb2 b0.lt
 have b1 := b1.below hb2 b1.lt
 have bz := bz.below hb2 bz.lt
 cases vs
 ·skip
  have z0 := blk_cl bz 0 _ rfl
  have z1 := blk_cl bz 1 _ rfl
  have z2 := blk_cl bz 2 _ rfl
  have z3 := blk_cl bz 3 _ rfl
  have zl := bz.lt
  have zf := fun i => bz.frozen i
  have hBr : Below w.heap.size w ((((w2.setCell ⟨w.heap.size + 1 + 1, 0, none⟩ (.int .i64 0)).setCell ⟨w.heap.size + 1 + 1, 1, none⟩ (.string ⟨#[]⟩)).setCell ⟨w.heap.size + 1 + 1, 2, none⟩ (.int .i64 0)).setCell ⟨w.heap.size + 1 + 1, 3, none⟩ (.int .i64 0)) := ((((hB4.setCell (p := ⟨w.heap.size + 1 + 1, 0, none⟩) hRL _).setCell (p := ⟨w.heap.size + 1 + 1, 1, none⟩) hRL _).setCell (p := ⟨w.heap.size + 1 + 1, 2, none⟩) hRL _).setCell (p := ⟨w.heap.size + 1 + 1, 3, none⟩) hRL _)
  have s4 := ((((bz.setAt 0 (.int .i64 0)).setAt 1 (.string ⟨#[]⟩)).setAt 2 (.int .i64 0)).setAt 3 (.int .i64 0))
  have s0 := s4.cell 0 (v := .int .i64 0) (by simp)
  have s1 := s4.cell 1 (v := .string ⟨#[]⟩) (by simp)
  have s2 := s4.cell 2 (v := .int .i64 0) (by simp)
  have s3 := s4.cell 3 (v := .int .i64 0) (by simp)
  go_wp2
  exact bodyPost_ret (v := .tuple #[.agg #[.int .i64 0, .string ⟨#[]⟩, .int .i64 0, .int .i64 0], .int .i64 1]) (by simp [results, Tryz.results13, go_sem, s0, s1, s2, s3]) rfl (HP.out stZ 1 _ hBr (H1.out (fun h => by rw [hvs] at h; cases h.2)))
 have H2 := Lib.hid (H2.out ⟨hvv, hvs⟩)
 have H0 := Lib.hid (H0.out ⟨hvv, hvs⟩)
 have HE := Lib.hid (HE.out ⟨hvv, hvs⟩)
 have hat := HA.out hvs
 clear HV HS H1 hvv hvs hb1 hb2 hB2 hB3 HA
 have h0 := blk_cl b0 0 _ rfl
 have hl := b0.lt
 have i0 := blk_cl b1 0 _ rfl
 have i1 := blk_cl b1 1 _ rfl
 have i2 := blk_cl b1 2 _ rfl
 have i3 := blk_cl b1 3 _ rfl
 have il := b1.lt
 by_cases hd1 : d < -4000000
 ·skip
  have z0 := blk_cl bz 0 _ rfl
  have z1 := blk_cl bz 1 _ rfl
  have z2 := blk_cl bz 2 _ rfl
  have z3 := blk_cl bz 3 _ rfl
  have zl := bz.lt
  have zf := fun i => bz.frozen i
  have hBr : Below w.heap.size w ((((w2.setCell ⟨w.heap.size + 1 + 1, 0, none⟩ (.int .i64 0)).setCell ⟨w.heap.size + 1 + 1, 1, none⟩ (.string ⟨#[]⟩)).setCell ⟨w.heap.size + 1 + 1, 2, none⟩ (.int .i64 0)).setCell ⟨w.heap.size + 1 + 1, 3, none⟩ (.int .i64 0)) := ((((hB4.setCell (p := ⟨w.heap.size + 1 + 1, 0, none⟩) hRL _).setCell (p := ⟨w.heap.size + 1 + 1, 1, none⟩) hRL _).setCell (p := ⟨w.heap.size + 1 + 1, 2, none⟩) hRL _).setCell (p := ⟨w.heap.size + 1 + 1, 3, none⟩) hRL _)
  have s4 := ((((bz.setAt 0 (.int .i64 0)).setAt 1 (.string ⟨#[]⟩)).setAt 2 (.int .i64 0)).setAt 3 (.int .i64 0))
  have s0 := s4.cell 0 (v := .int .i64 0) (by simp)
  have s1 := s4.cell 1 (v := .string ⟨#[]⟩) (by simp)
  have s2 := s4.cell 2 (v := .int .i64 0) (by simp)
  have s3 := s4.cell 3 (v := .int .i64 0) (by simp)
  go_wp2
  exact bodyPost_ret (v := .tuple #[.agg #[.int .i64 0, .string ⟨#[]⟩, .int .i64 0, .int .i64 0], .int .i64 2]) (by simp [results, Tryz.results13, go_sem, s0, s1, s2, s3]) rfl (HP.out stZ 2 _ hBr (H2.out (fun h => by omega)))
 by_cases hd2 : 4000000 < d
 ·skip
  have z0 := blk_cl bz 0 _ rfl
  have z1 := blk_cl bz 1 _ rfl
  have z2 := blk_cl bz 2 _ rfl
  have z3 := blk_cl bz 3 _ rfl
  have zl := bz.lt
  have zf := fun i => bz.frozen i
  have hBr : Below w.heap.size w ((((w2.setCell ⟨w.heap.size + 1 + 1, 0, none⟩ (.int .i64 0)).setCell ⟨w.heap.size + 1 + 1, 1, none⟩ (.string ⟨#[]⟩)).setCell ⟨w.heap.size + 1 + 1, 2, none⟩ (.int .i64 0)).setCell ⟨w.heap.size + 1 + 1, 3, none⟩ (.int .i64 0)) := ((((hB4.setCell (p := ⟨w.heap.size + 1 + 1, 0, none⟩) hRL _).setCell (p := ⟨w.heap.size + 1 + 1, 1, none⟩) hRL _).setCell (p := ⟨w.heap.size + 1 + 1, 2, none⟩) hRL _).setCell (p := ⟨w.heap.size + 1 + 1, 3, none⟩) hRL _)
  have s4 := ((((bz.setAt 0 (.int .i64 0)).setAt 1 (.string ⟨#[]⟩)).setAt 2 (.int .i64 0)).setAt 3 (.int .i64 0))
  have s0 := s4.cell 0 (v := .int .i64 0) (by simp)
  have s1 := s4.cell 1 (v := .string ⟨#[]⟩) (by simp)
  have s2 := s4.cell 2 (v := .int .i64 0) (by simp)
  have s3 := s4.cell 3 (v := .int .i64 0) (by simp)
  go_wp2
  exact bodyPost_ret (v := .tuple #[.agg #[.int .i64 0, .string ⟨#[]⟩, .int .i64 0, .int .i64 0], .int .i64 2]) (by simp [results, Tryz.results13, go_sem, s0, s1, s2, s3]) rfl (HP.out stZ 2 _ hBr (H2.out (fun h => by omega)))
 have bm := Blk.new w2 #[.int .i64 (sa + 86400 * d), .string sz, .int .i64 sg, .int .i64 sf] 28
 have hB5 := hB4.alloc hB4.size (.cells #[.int .i64 (sa + 86400 * d), .string sz, .int .i64 sg, .int .i64 sf] 28)
 have b0 := b0.alloc (.cells #[.int .i64 (sa + 86400 * d), .string sz, .int .i64 sg, .int .i64 sf] 28)
 have b1 := b1.alloc (.cells #[.int .i64 (sa + 86400 * d), .string sz, .int .i64 sg, .int .i64 sf] 28)
 have bz := bz.alloc (.cells #[.int .i64 (sa + 86400 * d), .string sz, .int .i64 sg, .int .i64 sf] 28)
 have hwb := hB4.size
 go_wp2_with fail
 clear h0 hl i0 i1 i2 i3 il
 generalize w2.alloc (.cells #[.int .i64 (sa + 86400 * d), .string sz, .int .i64 sg, .int .i64 sf] 28) = w3 at *
 obtain ⟨B, hBB⟩ : ∃ B, w2.heap.size = B := ⟨_, rfl⟩
 rw [hBB] at bm ⊢
 clear hB4 hwb hBB
 refine (HI.out w3).mono ?_
 rintro e w4 ⟨rfl, rfl⟩
 cases vi
 ·skip
  have z0 := blk_cl bz 0 _ rfl
  have z1 := blk_cl bz 1 _ rfl
  have z2 := blk_cl bz 2 _ rfl
  have z3 := blk_cl bz 3 _ rfl
  have zl := bz.lt
  have zf := fun i => bz.frozen i
  have i0 := blk_cl b1 0 _ rfl
  have i1 := blk_cl b1 1 _ rfl
  have i2 := blk_cl b1 2 _ rfl
  have i3 := blk_cl b1 3 _ rfl
  have il := b1.lt
  have hBr : Below w.heap.size w ((((w3.setCell ⟨w.heap.size + 1 + 1, 0, none⟩ (.int .i64 0)).setCell ⟨w.heap.size + 1 + 1, 1, none⟩ (.string ⟨#[]⟩)).setCell ⟨w.heap.size + 1 + 1, 2, none⟩ (.int .i64 0)).setCell ⟨w.heap.size + 1 + 1, 3, none⟩ (.int .i64 0)) := ((((hB5.setCell (p := ⟨w.heap.size + 1 + 1, 0, none⟩) hRL _).setCell (p := ⟨w.heap.size + 1 + 1, 1, none⟩) hRL _).setCell (p := ⟨w.heap.size + 1 + 1, 2, none⟩) hRL _).setCell (p := ⟨w.heap.size + 1 + 1, 3, none⟩) hRL _)
  have s4 := ((((bz.setAt 0 (.int .i64 0)).setAt 1 (.string ⟨#[]⟩)).setAt 2 (.int .i64 0)).setAt 3 (.int .i64 0))
  have s0 := s4.cell 0 (v := .int .i64 0) (by simp)
  have s1 := s4.cell 1 (v := .string ⟨#[]⟩) (by simp)
  have s2 := s4.cell 2 (v := .int .i64 0) (by simp)
  have s3 := s4.cell 3 (v := .int .i64 0) (by simp)
  go_wp2
  exact bodyPost_ret (v := .tuple #[.agg #[.int .i64 0, .string ⟨#[]⟩, .int .i64 0, .int .i64 0], .int .i64 2]) (by simp [results, Tryz.results13, go_sem, s0, s1, s2, s3]) rfl (HP.out stZ 2 _ hBr (H2.out (fun h => by have := h.2; rw [hvi] at this; cases this)))
 have hin := (⟨⟨by omega, by omega⟩, hvi⟩ : (-4000000 ≤ d ∧ d ≤ 4000000) ∧ _)
 have HE := Lib.hid (HE.out hin)
 have HOK := Lib.hid (fun (h : e1 = 0) => H0.out hin x (by rw [h]))
 clear H0 H2 hin hvi HI
 have h0 := blk_cl b0 0 _ rfl
 have hl := b0.lt
 have k0 := blk_cl bm 0 _ rfl
 have k1 := blk_cl bm 1 _ rfl
 have k2 := blk_cl bm 2 _ rfl
 have k3 := blk_cl bm 3 _ rfl
 have kl := bm.lt
 go_wp2_with fail
 clear h0 hl k0 k1 k2 k3 kl
 refine (HR.out w3 hB5).mono ?_
 rintro e w5 ⟨rfl, hb5⟩
 have hB6 := hB5.trans (hb5.mono hB5.size)
 have b1 := b1.below hb5 b1.lt
 have bz := bz.below hb5 bz.lt
 have bm := bm.below hb5 bm.lt
 by_cases he1 : e1 = 0
 case neg =>
  have d1 : (e1 != 0) = true := bne_iff_ne.2 he1
  have z0 := blk_cl bz 0 _ rfl
  have z1 := blk_cl bz 1 _ rfl
  have z2 := blk_cl bz 2 _ rfl
  have z3 := blk_cl bz 3 _ rfl
  have zl := bz.lt
  have zf := fun i => bz.frozen i
  have hBr : Below w.heap.size w ((((w5.setCell ⟨w.heap.size + 1 + 1, 0, none⟩ (.int .i64 0)).setCell ⟨w.heap.size + 1 + 1, 1, none⟩ (.string ⟨#[]⟩)).setCell ⟨w.heap.size + 1 + 1, 2, none⟩ (.int .i64 0)).setCell ⟨w.heap.size + 1 + 1, 3, none⟩ (.int .i64 0)) := ((((hB6.setCell (p := ⟨w.heap.size + 1 + 1, 0, none⟩) hRL _).setCell (p := ⟨w.heap.size + 1 + 1, 1, none⟩) hRL _).setCell (p := ⟨w.heap.size + 1 + 1, 2, none⟩) hRL _).setCell (p := ⟨w.heap.size + 1 + 1, 3, none⟩) hRL _)
  have s4 := ((((bz.setAt 0 (.int .i64 0)).setAt 1 (.string ⟨#[]⟩)).setAt 2 (.int .i64 0)).setAt 3 (.int .i64 0))
  have s0 := s4.cell 0 (v := .int .i64 0) (by simp)
  have s1 := s4.cell 1 (v := .string ⟨#[]⟩) (by simp)
  have s2 := s4.cell 2 (v := .int .i64 0) (by simp)
  have s3 := s4.cell 3 (v := .int .i64 0) (by simp)
  go_wp2
  exact bodyPost_ret (v := .tuple #[.agg #[.int .i64 0, .string ⟨#[]⟩, .int .i64 0, .int .i64 0], .int .i64 e1]) (by simp [results, Tryz.results13, go_sem, s0, s1, s2, s3]) rfl (HP.out stZ e1 _ hBr (HE.out he1))
 have HOK2 := Lib.hid (HOK.out he1)
 clear HOK
 subst he1
 have i0 := blk_cl b1 0 _ rfl
 have i1 := blk_cl b1 1 _ rfl
 have i2 := blk_cl b1 2 _ rfl
 have i3 := blk_cl b1 3 _ rfl
 have il := b1.lt
 have k0 := blk_cl bm 0 _ rfl
 have k1 := blk_cl bm 1 _ rfl
 have k2 := blk_cl bm 2 _ rfl
 have k3 := blk_cl bm 3 _ rfl
 have kl := bm.lt
 have z0 := blk_cl bz 0 _ rfl
 have z1 := blk_cl bz 1 _ rfl
 have z2 := blk_cl bz 2 _ rfl
 have z3 := blk_cl bz 3 _ rfl
 have zl := bz.lt
 have zf := fun i => bz.frozen i
 have hBr : Below w.heap.size w ((((w5.setCell ⟨w.heap.size + 1 + 1, 0, none⟩ (.int .i64 (sa + 86400 * d))).setCell ⟨w.heap.size + 1 + 1, 1, none⟩ (.string sz)).setCell ⟨w.heap.size + 1 + 1, 2, none⟩ (.int .i64 sg)).setCell ⟨w.heap.size + 1 + 1, 3, none⟩ (.int .i64 sf)) := ((((hB6.setCell (p := ⟨w.heap.size + 1 + 1, 0, none⟩) hRL _).setCell (p := ⟨w.heap.size + 1 + 1, 1, none⟩) hRL _).setCell (p := ⟨w.heap.size + 1 + 1, 2, none⟩) hRL _).setCell (p := ⟨w.heap.size + 1 + 1, 3, none⟩) hRL _)
 have s4 := ((((bz.setAt 0 (.int .i64 (sa + 86400 * d))).setAt 1 (.string sz)).setAt 2 (.int .i64 sg)).setAt 3 (.int .i64 sf))
 have s0 := s4.cell 0 (v := .int .i64 (sa + 86400 * d)) (by simp)
 have s1 := s4.cell 1 (v := .string sz) (by simp)
 have s2 := s4.cell 2 (v := .int .i64 sg) (by simp)
 have s3 := s4.cell 3 (v := .int .i64 sf) (by simp)
 go_wp2
 exact bodyPost_ret (v := .tuple #[.agg #[.int .i64 (sa + 86400 * d), .string sz, .int .i64 sg, .int .i64 sf], .int .i64 0]) (by simp [results, Tryz.results13, go_sem, s0, s1, s2, s3]) rfl (HP.out ⟨sa + 86400 * d, sz, sg, sf⟩ 0 _ hBr HOK2.out)
end Go.Proofs.YtdafcipilknecaaGreatDoor
/- Plain facts for the laws of stamps: what stamp.Resolve says of a local time. -/
namespace Go.Proofs.YtdafcipilknecaaGreatDoor
set_option linter.unusedSimpArgs false
set_option linter.unusedVariables false
open Go.ChangeShapes Go.WideShapes Go.ChangeAt Go.RowKit
theorem res_in {z : Zn} {l g f : Int} (h : (z.resV l g f).2 = 0) (hne : z.insts l ≠ []) : z.valid = true ∧ inTB l = true ∧ (z.resV l g f).1 ∈ z.insts l ∧ z.ofV (z.resV l g f).1 = (l, 0) := by
 unfold Zn.resV at h ⊢
 by_cases h1 : z.valid = false ∨ polB g f = false
 ·rw [if_pos h1] at h; exact absurd h (by decide)
 rw [if_neg h1] at h ⊢
 by_cases h2 : inTB l = false
 ·rw [if_pos h2] at h; exact absurd h (by decide)
 rw [if_neg h2] at h ⊢
 have hv : z.valid = true := by cases hz : z.valid <;> simp_all
 have hl : inTB l = true := by cases hz : inTB l <;> simp_all
 have hlen : 0 < (z.insts l).length := List.length_pos_iff.2 hne
 have hm : (z.resF l g f).1 ∈ z.insts l := by
  unfold Zn.resF at h ⊢
  by_cases h3 : (z.insts l).length = 1
  ·rw [if_pos h3]
   show (z.insts l)[0]! ∈ z.insts l
   rw [getElem!_pos (z.insts l) 0 hlen]
   exact List.getElem_mem hlen
  ·rw [if_neg h3] at h ⊢
   rw [if_pos (by omega)] at h ⊢
   by_cases h4 : f = 1
   ·rw [if_pos h4] at h; exact absurd h (by decide)
   rw [if_neg h4] at h ⊢
   by_cases h5 : f = 2
   ·rw [if_pos h5]
    show (z.insts l)[0]! ∈ z.insts l
    rw [getElem!_pos (z.insts l) 0 hlen]
    exact List.getElem_mem hlen
   ·rw [if_neg h5]
    show (z.insts l)[(z.insts l).length - 1]! ∈ z.insts l
    have hlt : (z.insts l).length - 1 < (z.insts l).length := by omega
    rw [getElem!_pos (z.insts l) ((z.insts l).length - 1) hlt]
    exact List.getElem_mem hlt
 refine ⟨hv, hl, hm, ?_⟩
 have hi := (mem_insts hv).1 hm
 have ht : inTB (z.resF l g f).1 = true := decide_eq_true hi.1
 unfold Zn.ofV
 rw [if_neg (by rw [hv]; decide), if_neg (by rw [ht]; decide), hi.2, if_neg (by rw [hl]; decide)]
theorem inT_TB (l : Int) : inT l = inTB l := by
 unfold inT inTB
 by_cases h1 : -62135596800 ≤ l <;> by_cases h2 : l < 253402300800 <;> simp [h1, h2]
end Go.Proofs.YtdafcipilknecaaGreatDoor
/- Plain facts for the law StampWalks; local.Instants and local.Of at a zone of a history. -/
namespace Go.Proofs.YtdafcipilknecaaGreatDoor
set_option linter.unusedSimpArgs false
set_option linter.unusedVariables false
open Go.ChangeShapes Go.WideShapes Go.ChangeAt Go.RowKit
theorem Ins_his (L : List VV) (vH : Value) (a zn : ByteArray) (t : Int) (w : World) (hm : HasMax w) (hg : GoodH w vH L) (hk : OkH L) (x : ZV) (h1 : (findF L a zn).1 = some x) :
  Calls Tryz.prog 15 #[x.z.v x.vT x.vR, .int .i64 t] w fun e w' => ∃ v, e = .returned (.tuple #[v, .int .i64 (x.z.insV t).2]) ∧ w'.ownsRow w.heap.size 3 1 v (x.z.insV t).1.length ((x.z.insV t).1.map encI) ∧ Below w.heap.size w w' := by
 obtain ⟨_, v1, hv1, hx⟩ := findF_mem h1
 have ox := (hk.g v1 hv1).g x hx
 have gx := (hg.g v1 hv1).g x hx
 exact Instants_any x.z x.vT x.vR t w hm gx.1 gx.2 ox.2.2 ox.1 ox.2.1
theorem Of_his (L : List VV) (vH : Value) (a zn : ByteArray) (t : Int) (w : World) (hm : HasMax w) (hg : GoodH w vH L) (hk : OkH L) (x : ZV) (h1 : (findF L a zn).1 = some x) :
  Calls Tryz.prog 16 #[x.z.v x.vT x.vR, .int .i64 t] w fun e w' => e = .returned (.tuple #[.int .i64 (x.z.ofV t).1, .int .i64 (x.z.ofV t).2]) ∧ Below w.heap.size w w' := by
 obtain ⟨_, v1, hv1, hx⟩ := findF_mem h1
 have ox := (hk.g v1 hv1).g x hx
 have gx := (hg.g v1 hv1).g x hx
 exact Of_any x.z x.vT x.vR t w hm gx.1 gx.2 ox.2.2 (.inl ox.1)
theorem mv_back (s : Stm) (d : Int) : (s.mv d).mv (-d) = s := by
 obtain ⟨a, z, g, f⟩ := s
 unfold Stm.mv
 dsimp only
 congr 1
 omega
theorem mv_valid {s : Stm} {d : Int} (h : stmB s = true) (hi : insT (s.mv d).at_ = true) : stmB (s.mv d) = true := by
 unfold stmB at h ⊢
 rw [Bool.and_eq_true] at h ⊢
 exact ⟨hi, h.2⟩
theorem ins_at {s : Stm} (h : stmB s = true) : insT s.at_ = true := by
 unfold stmB at h
 rw [Bool.and_eq_true] at h
 exact h.1
theorem mov_cases (L : List VV) (vn : ByteArray) (s : Stm) (d : Int) (he : emptyB s.zn = false) : (∃ e1, movF L vn s d = (stZ, e1) ∧ e1 ≠ 0) ∨
  ∃ x0 r y e2, movF L vn s d = (s.mv d, 0) ∧ (findF L vn s.zn).1 = some x0 ∧ (findF L vn s.zn).2 = 0 ∧ ((-4000000 ≤ d ∧ d ≤ 4000000) ∧ (-62135596800 ≤ s.at_ ∧ s.at_ < 253402300800)) ∧ rsvF L vn s = (y, e2) ∧ rsvF L vn (s.mv d) = (r, 0) ∧
   movF L vn (s.mv d) (-d) = (if e2 = 0 then s else stZ, e2) ∧ x0.z.insV (s.at_ + 86400 * d) = (x0.z.insts (s.at_ + 86400 * d), 0) ∧ (x0.z.insts (s.at_ + 86400 * d) ≠ [] → x0.z.ofV r = (s.at_ + 86400 * d, 0) ∧ r ∈ x0.z.insts (s.at_ + 86400 * d)) ∧ (OkH L → (x0.z.insts (s.at_ + 86400 * d)).length ≤ 1000000) := by
 by_cases h1 : validH L = true ∧ stmB s = true
 ·by_cases h2 : (-4000000 ≤ d ∧ d ≤ 4000000) ∧ insT (s.mv d).at_ = true
  ·obtain ⟨⟨r, e⟩, hr⟩ : ∃ r, rsv1 L vn (s.mv d) = r := ⟨_, rfl⟩
   by_cases h3 : e = 0
   ·subst h3
    have hv2 := mv_valid h1.2 h2.2
    obtain ⟨⟨y, e2⟩, hy⟩ : ∃ r, rsv1 L vn s = r := ⟨_, rfl⟩
    have hr0 := hr
    unfold rsv1 at hr
    rw [if_neg (by show ¬ emptyB s.zn = true; rw [he]; decide)] at hr
    have hzn : (s.mv d).zn = s.zn := rfl
    rw [hzn] at hr
    cases hf : (findF L vn s.zn).1 with
    | none =>
     rw [hf] at hr
     have := findF_err hf
     injection hr with _ hr
     omega
    | some x0 =>
     rw [hf] at hr
     have hr : x0.z.resV (s.at_ + 86400 * d) s.gap s.fold = (r, 0) := hr
     obtain ⟨hf2, v1, hv1, hx⟩ := findF_mem hf
     have hvx := his_valid h1.1 hv1 hx
     have hi : inTB (s.at_ + 86400 * d) = true := by
      have : insT (s.at_ + 86400 * d) = true := h2.2
      unfold insT at this
      unfold inTB
      simp at this ⊢
      omega
     refine .inr ⟨x0, r, y, e2, mov_0 h1 h2 hr0, rfl, hf2, ⟨h2.1, stm_at h1.2⟩, ?_, ?_, ?_, ?_, ?_, fun hk => ?_⟩
     ·unfold rsvF; rw [if_pos h1, hy]
     ·unfold rsvF; rw [if_pos ⟨h1.1, hv2⟩, hr0]
     ·have hb := mv_back s d
      have h4 : (-4000000 ≤ -d ∧ -d ≤ 4000000) ∧ insT ((s.mv d).mv (-d)).at_ = true := ⟨by omega, by rw [hb]; exact ins_at h1.2⟩
      have hy' : rsv1 L vn ((s.mv d).mv (-d)) = (y, e2) := by rw [hb]; exact hy
      by_cases h5 : e2 = 0
      ·subst h5
       rw [mov_0 ⟨h1.1, hv2⟩ h4 hy', hb, if_pos rfl]
      ·rw [mov_e ⟨h1.1, hv2⟩ h4 hy' h5, if_neg h5]
     ·unfold Zn.insV
      rw [if_neg (by rw [hvx]; decide), if_neg (by rw [inT_TB, hi]; decide)]
     ·intro hne
      have h6 : (x0.z.resV (s.at_ + 86400 * d) s.gap s.fold).2 = 0 := by rw [hr]
      have := res_in h6 hne
      rw [hr] at this
      exact ⟨this.2.2.2, this.2.2.1⟩
     ·have hM := mild_wide hvx ((hk.g v1 hv1).g x0 hx).2.1 (a := s.at_ + 86400 * d) (b := s.at_ + 86400 * d + 1) (by omega)
      have h7 := pieces_len hM
      have h8 : (x0.z.insts (s.at_ + 86400 * d)).length ≤ (x0.z.pieces (wideA (s.at_ + 86400 * d)) (wideB (s.at_ + 86400 * d + 1))).length := by
       unfold Zn.insts instF
       exact List.length_filterMap_le _ _
      omega
   ·exact .inl ⟨e, mov_e h1 h2 hr h3, h3⟩
  ·exact .inl ⟨2, mov_2 h1 h2, by decide⟩
 ·exact .inl ⟨1, mov_1 h1, by decide⟩
end Go.Proofs.YtdafcipilknecaaGreatDoor
/- Two stamps that are one compare as equal. -/
namespace Go.Proofs.YtdafcipilknecaaGreatDoor
set_option linter.unusedSimpArgs false
set_option linter.unusedVariables false
open Go.ChangeShapes Go.WideShapes Go.ChangeAt Go.RowKit
theorem eqPo_one (d : Nat) (a b : Int) (w : World) : (Op.equalIn (d + 1 + 1) 26 (.agg #[.int .i64 a, .int .i64 b]) (.agg #[.int .i64 a, .int .i64 b])).run Tryz.prog w = .ok true w := by
 have u3 := Tryz.underlying3
 have hS : Tryz.prog.underlying 26 = some (.struct (Tryz.prog.fieldsOf 26)) := by kernel_rfl
 have hp : Tryz.prog.stoodInHeld 26 = false := by kernel_rfl
 have a3 : ∀ w, (isAgg 3).run Tryz.prog w = .ok false w := fun w => by kernel_rfl
 have z3 : ∀ w, (Go.sizeOf 3).run Tryz.prog w = .ok 1 w := fun w => by kernel_rfl
 rw [run_equalIn_agg w (d + 1) 26 _ _ hS hp]
 simp only [Program.fieldsOf, Tryz.underlying26]
 go_simp
theorem eqSt_one (d : Nat) (t a b : Int) (z : ByteArray) (w : World) : (Op.equalIn (d + 1 + 1 + 1) 28 (.agg #[.int .i64 t, .string z, .int .i64 a, .int .i64 b]) (.agg #[.int .i64 t, .string z, .int .i64 a, .int .i64 b])).run Tryz.prog w = .ok true w := by
 have u3 := Tryz.underlying3
 have u9 := Tryz.underlying9
 have hS : Tryz.prog.underlying 28 = some (.struct (Tryz.prog.fieldsOf 28)) := by kernel_rfl
 have hp : Tryz.prog.stoodInHeld 28 = false := by kernel_rfl
 have a3 : ∀ w, (isAgg 3).run Tryz.prog w = .ok false w := fun w => by kernel_rfl
 have z3 : ∀ w, (Go.sizeOf 3).run Tryz.prog w = .ok 1 w := fun w => by kernel_rfl
 have a9 : ∀ w, (isAgg 9).run Tryz.prog w = .ok false w := fun w => by kernel_rfl
 have z9 : ∀ w, (Go.sizeOf 9).run Tryz.prog w = .ok 1 w := fun w => by kernel_rfl
 have aP : ∀ w, (isAgg 26).run Tryz.prog w = .ok true w := fun w => by kernel_rfl
 have zP : ∀ w, (Go.sizeOf 26).run Tryz.prog w = .ok 2 w := fun w => by kernel_rfl
 rw [run_equalIn_agg w (d + 1 + 1) 28 _ _ hS hp]
 simp only [Program.fieldsOf, Tryz.underlying28]
 have hE := fun w => eqPo_one d a b w
 clear hS hp
 go_simp
theorem eqlSt (t a b : Int) (z : ByteArray) (w : World) : (binOp .eql 28 (.agg #[.int .i64 t, .string z, .int .i64 a, .int .i64 b]) (.agg #[.int .i64 t, .string z, .int .i64 a, .int .i64 b])).run Tryz.prog w = .ok (.bool true) w := by
 obtain ⟨D, hD⟩ : ∃ D, 10000 = D + 1 + 1 + 1 := ⟨9997, rfl⟩
 rw [run_eql_struct, hD, eqSt_one]
 rfl
theorem neqSt (t a b : Int) (z : ByteArray) (w : World) : (binOp .neq 28 (.agg #[.int .i64 t, .string z, .int .i64 a, .int .i64 b]) (.agg #[.int .i64 t, .string z, .int .i64 a, .int .i64 b])).run Tryz.prog w = .ok (.bool false) w := by
 obtain ⟨D, hD⟩ : ∃ D, 10000 = D + 1 + 1 + 1 := ⟨9997, rfl⟩
 rw [run_neq_struct, hD, eqSt_one]
 rfl
theorem neqPo (a b : Int) (w : World) : (binOp .neq 26 (.agg #[.int .i64 a, .int .i64 b]) (.agg #[.int .i64 a, .int .i64 b])).run Tryz.prog w = .ok (.bool false) w := by
 obtain ⟨D, hD⟩ : ∃ D, 10000 = D + 1 + 1 := ⟨9998, rfl⟩
 rw [run_neq_struct, hD, eqPo_one]
 rfl
theorem gdSt (op : BinOp) (x y : Operand) (xs ys : Array Value) (w : World) : (eqGuard op 28 x y (.agg xs) (.agg ys)).run Tryz.prog w = .ok () w := run_eqGuard_agg w op 28 x y xs ys (by kernel_rfl)
theorem gdPo (op : BinOp) (x y : Operand) (xs ys : Array Value) (w : World) : (eqGuard op 26 x y (.agg xs) (.agg ys)).run Tryz.prog w = .ok () w := run_eqGuard_agg w op 26 x y xs ys (by kernel_rfl)
end Go.Proofs.YtdafcipilknecaaGreatDoor
/- slices.Contains at a row of ints. -/
namespace Go.Proofs.YtdafcipilknecaaGreatDoor
set_option linter.unusedSimpArgs false
set_option linter.unusedVariables false
open Go.ChangeShapes Go.WideShapes Go.ChangeAt Go.RowKit
theorem contains_any {W : World} {base : Nat} {v : Value} {IL : List Int} (x : Int) (h : W.ownsRow base 3 1 v IL.length (IL.map encI)) (hn : IL.length ≤ 1000000) :
  Calls Tryz.prog 17 #[v, .int .i64 x] W fun e w' => e = .returned (.bool (IL.contains x)) ∧ W = w' := by
 obtain ⟨A, c, rfl⟩ := own_formN h
 by_cases h0 : 0 < IL.length
 ·obtain ⟨g, off, rfl, _, _, hc⟩ := int_row h h0
  have := Tryz.slices_Contains_int g off IL.length c IL x W (Nat.le_refl _) (by omega) (fun j hj => by rw [hc j hj, List.getD_eq_getElem?_getD, getElem!_def]; cases hq : IL[j]? <;> rfl)
  rw [List.take_length] at this
  exact this.mono fun e w' ⟨h1, h2⟩ => ⟨h1, h2.symm⟩
 ·have : IL = [] := List.eq_nil_of_length_eq_zero (by omega)
  subst this
  exact (Tryz.slices_Contains_int_empty A c x W).mono fun e w' ⟨h1, h2⟩ => ⟨h1, h2.symm⟩
end Go.Proofs.YtdafcipilknecaaGreatDoor

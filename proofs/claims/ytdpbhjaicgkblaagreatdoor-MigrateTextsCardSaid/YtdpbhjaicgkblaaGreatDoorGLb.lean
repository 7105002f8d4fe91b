/- Joined by merge.py: LocW7, LocW8, LocW9, Rnd. -/
import Derived.Test.YtdpbhjaicgkblaaGreatDoorGLa
import Derived.RangeFuncNested
import Derived.RangeFuncBound
import Derived.RangeFuncCalls
import Derived.RangeFuncLeaves
import Derived.RangeFuncBox
import Derived.Shelf.Abstract
import Derived.Shelf.RegionOpen
import Derived.WalkKit
import Derived.OwnWalkIn
import Derived.TacticsInMore
import Derived.LoopNIn
import Derived.LoopIn
import Derived.Outline
import Derived.Test.YtdpbhjaicgkblaaGreatDoorGBase
import Derived.Deep.RegionHeld3
/- local.skips. Printed by gen_locw7.py. -/
namespace Go.Proofs.YtdpbhjaicgkblaaGreatDoor
set_option linter.unusedSimpArgs false
set_option linter.unusedVariables false
open Go.RowKit Go.Shelf Go.ChangeShapes Go.WideShapes Go.ChangeAt
attribute [local go_sem] Oper.semAt_some
def Skip.cells (x : Skip) : List Value := [.int .i64 x.at_, .int .i64 x.bef, .int .i64 x.aft]
theorem skip_len (x : Skip) : (Skip.cells x).length = 3 := rfl
def stS : Int → Bool → List Piece → Int × Bool
 | b, f, [] => (b, f)
 | _, _, p :: ps => stS p.off false ps
theorem stS_snoc : ∀ (b : Int) (f : Bool) (ps : List Piece) (p : Piece), stS b f (ps ++ [p]) = (p.off, false)
 | b, f, [], p => rfl
 | b, f, q :: ps, p => stS_snoc q.off false ps p
theorem skipsF_snoc : ∀ (b : Int) (f : Bool) (ps : List Piece) (p : Piece), skipsF b f (ps ++ [p]) = skipsF b f ps ++ (if (stS b f ps).2 = false ∧ (stS b f ps).1 < p.off then [⟨p.fr, (stS b f ps).1, p.off⟩] else [])
 | b, f, [], p => by
  rw [List.nil_append, skipsF, skipsF, stS]
  simp [skipsF]
 | b, f, q :: ps, p => by
  rw [List.cons_append, skipsF, skipsF, skipsF_snoc q.off false ps p, stS]
  split <;> simp
theorem skipsF_len : ∀ (b : Int) (f : Bool) (ps : List Piece), (skipsF b f ps).length ≤ ps.length
 | b, f, [] => by simp [skipsF]
 | b, f, q :: ps => by
  rw [skipsF]
  have := skipsF_len q.off false ps
  split <;> simp <;> omega
theorem appended_other {W WA w1 : World} {Bo q base : Nat} {t' e : TypeId} {size : Nat} {v v' : Value} {k : Nat} {xs : List Value} {cs : Array Value}
  (hq : Blk W q cs t') (hrow : W.ownsRow base e size v k xs) (hte : t' ≠ e) (hne : q ≠ Bo) (hA : Below W.heap.size W WA) (hgrow : WA.grownBy w1 v.ownBlock) : Blk (w1.setCell ⟨Bo, 0, none⟩ v') q cs t' :=
 ((hq.below hA hq.lt).kept hgrow (blk_row_ne hq hte hrow).symm).other hne v'
def SkI (Bo Bb Bf base : Nat) (pre : List Piece) (W : World) : Prop := BoxRow W Bo 184 186 3 base (skipsF 0 true pre).length ((skipsF 0 true pre).flatMap Skip.cells) ∧ Blk W Bb #[.int .i64 (stS 0 true pre).1] 3 ∧ Blk W Bf #[.bool (stS 0 true pre).2] 4
theorem skI_own (D Bo Bb Bf base : Nat) : OwnT 61 D (SkI Bo Bb Bf base) := OwnT.and (boxRow_ownT _ _ (by decide) (by decide)) (OwnT.and (blk_ownT _ (by decide)) (blk_ownT _ (by decide)))
theorem info_skip : (Tryz.prog.info? 186).map (fun i => (i.zero, i.size, i.bytes)) = some (some (.agg #[.int .i64 0, .int .i64 0, .int .i64 0]), 3, 24) := by kernel_rfl
set_option maxRecDepth 100000 in
set_option maxHeartbeats 4000000 in
theorem skips_any (z : Zn) (vT vR : Value) (a b : Int) (w : World) (hm : HasMax w) (hT : Rd Trn.cells 4 w vT z.table) (hR : Rd Rule.cells 11 w vR z.tail) (hfs : z.form.size < 4294967281) (hll : z.tail.length ≤ 12) (hM : Mild z a b) :
  Calls Tryz.prog 123 #[z.v vT vR, .agg #[.int .i64 a, .int .i64 b]] w fun e w' => ∃ v, e = .returned v ∧ w'.ownsRow w.heap.size 186 3 v (z.skips a b).length ((z.skips a b).flatMap Skip.cells) ∧ Below w.heap.size w w' := by
 have HST := Lib.hid (fun Bi Bz W (hb : Below w.heap.size w W) hz hi => pieces_stops 4 (by omega) Bi Bz z vT vR a b W hM hll hfs (hm.on hb) (hT.on hb) (hR.on hb) hz hi)
 have HOK := Lib.hid (show z.skips a b = skipsF 0 true (z.pieces a b) from rfl)
 have HLN := Lib.hid (pieces_len hM)
 obtain ⟨AT, cT, rfl⟩ := rd_vf hT
 obtain ⟨AR, cR, rfl⟩ := rd_vf hR
 have HPC := Lib.hid (fun W => pieces_any z AT AR z.table.length z.tail.length cT cR a b W)
 unfold PcEnd at HPC
 clear hT hR hm hM
 generalize z.skips a b = SL at *
 generalize hPP : z.pieces a b = PL at *
 unfold Zn.v at HPC ⊢
 refine (callsIn_wide (n := 5)).1 ?_
 refine callsIn_of_wp_marks Tryz.func123 rfl trivial ?_ rfl
 simp only [Tryz.ntmps123, List.size_toArray, List.length_cons, List.length_nil, Nat.reduceAdd, Nat.reduceSub, Array.replicate_succ, Array.replicate_zero, List.push_toArray, List.append_toArray, List.nil_append, List.cons_append]
 have b0 := Blk.new w #[.string z.nm, .int .i64 z.first.off, .int .i64 z.first.sv, .string z.first.nm, .slice AT z.table.length cT, .slice AR z.tail.length cR, .int .i64 z.off, .string z.form, .int .i64 z.year] 65
 have b1 := Blk.new (w.alloc (.cells #[.string z.nm, .int .i64 z.first.off, .int .i64 z.first.sv, .string z.first.nm, .slice AT z.table.length cT, .slice AR z.tail.length cR, .int .i64 z.off, .string z.form, .int .i64 z.year] 65)) #[.int .i64 a, .int .i64 b] 189
 have b2 := Blk.new ((w.alloc (.cells #[.string z.nm, .int .i64 z.first.off, .int .i64 z.first.sv, .string z.first.nm, .slice AT z.table.length cT, .slice AR z.tail.length cR, .int .i64 z.off, .string z.form, .int .i64 z.year] 65)).alloc (.cells #[.int .i64 a, .int .i64 b] 189)) #[.slice none 0 0] 184
 have b3 := Blk.new (((w.alloc (.cells #[.string z.nm, .int .i64 z.first.off, .int .i64 z.first.sv, .string z.first.nm, .slice AT z.table.length cT, .slice AR z.tail.length cR, .int .i64 z.off, .string z.form, .int .i64 z.year] 65)).alloc (.cells #[.int .i64 a, .int .i64 b] 189)).alloc (.cells #[.slice none 0 0] 184)) #[.int .i64 0] 3
 have b4 := Blk.new ((((w.alloc (.cells #[.string z.nm, .int .i64 z.first.off, .int .i64 z.first.sv, .string z.first.nm, .slice AT z.table.length cT, .slice AR z.tail.length cR, .int .i64 z.off, .string z.form, .int .i64 z.year] 65)).alloc (.cells #[.int .i64 a, .int .i64 b] 189)).alloc (.cells #[.slice none 0 0] 184)).alloc (.cells #[.int .i64 0] 3)) #[.bool true] 4
 have hB2 : Below w.heap.size w (((((w.alloc (.cells #[.string z.nm, .int .i64 z.first.off, .int .i64 z.first.sv, .string z.first.nm, .slice AT z.table.length cT, .slice AR z.tail.length cR, .int .i64 z.off, .string z.form, .int .i64 z.year] 65)).alloc (.cells #[.int .i64 a, .int .i64 b] 189)).alloc (.cells #[.slice none 0 0] 184)).alloc (.cells #[.int .i64 0] 3)).alloc (.cells #[.bool true] 4)) := (((((Below.refl _ _).alloc (Nat.le_refl _) _).alloc (by simp) _).alloc (by simp; omega) _).alloc (by simp; omega) _).alloc (by simp; omega) _
 have hsz2 : w.heap.size + 1 + 1 + 1 + 1 < (((((w.alloc (.cells #[.string z.nm, .int .i64 z.first.off, .int .i64 z.first.sv, .string z.first.nm, .slice AT z.table.length cT, .slice AR z.tail.length cR, .int .i64 z.off, .string z.form, .int .i64 z.year] 65)).alloc (.cells #[.int .i64 a, .int .i64 b] 189)).alloc (.cells #[.slice none 0 0] 184)).alloc (.cells #[.int .i64 0] 3)).alloc (.cells #[.bool true] 4)).heap.size := by simp
 simp only [World.size_alloc] at b1 b2 b3 b4
 have b0 := (((b0.alloc (.cells #[.int .i64 a, .int .i64 b] 189)).alloc (.cells #[.slice none 0 0] 184)).alloc (.cells #[.int .i64 0] 3)).alloc (.cells #[.bool true] 4)
 have b1 := ((b1.alloc (.cells #[.slice none 0 0] 184)).alloc (.cells #[.int .i64 0] 3)).alloc (.cells #[.bool true] 4)
 have b2 := (b2.alloc (.cells #[.int .i64 0] 3)).alloc (.cells #[.bool true] 4)
 have b3 := b3.alloc (.cells #[.bool true] 4)
 gi_wp2_with fail
 generalize (((((w.alloc (.cells #[.string z.nm, .int .i64 z.first.off, .int .i64 z.first.sv, .string z.first.nm, .slice AT z.table.length cT, .slice AR z.tail.length cR, .int .i64 z.off, .string z.form, .int .i64 z.year] 65)).alloc (.cells #[.int .i64 a, .int .i64 b] 189)).alloc (.cells #[.slice none 0 0] 184)).alloc (.cells #[.int .i64 0] 3)).alloc (.cells #[.bool true] 4)) = W2 at *
 have z0 := b0.cl 0 _ rfl
 have z1 := b0.cl 1 _ rfl
 have z2 := b0.cl 2 _ rfl
 have z3 := b0.cl 3 _ rfl
 have z4 := b0.cl 4 _ rfl
 have z5 := b0.cl 5 _ rfl
 have z6 := b0.cl 6 _ rfl
 have z7 := b0.cl 7 _ rfl
 have z8 := b0.cl 8 _ rfl
 have i0 := b1.cl 0 _ rfl
 have i1 := b1.cl 1 _ rfl
 have hsz0 : w.heap.size < W2.heap.size := by omega
 gi_wp2_with (refine ⟨trivial, ?_⟩; gi_at_call 138; refine (callsIn_wide.2 (HPC.out W2)).mono ?_; rintro e w8 ⟨Bi, Bz, rfl, hzB, hiB, hBi0, K8⟩)
 have hB8 : Below w.heap.size w w8 := hB2.trans (K8.mono (Nat.le_of_lt hsz0))
 have c2 := b2.below K8 b2.lt
 have c3 := b3.below K8 b3.lt
 have c4 := b4.below K8 b4.lt
 have hs8 := K8.size
 have hBi1 := hiB.lt
 have hBi2 : w.heap.size + 1 + 1 + 1 + 1 < Bi := by omega
 have HSS := Lib.hid (HST.out Bi Bz w8 hB8 hzB hiB)
 clear z0 z1 z2 z3 z4 z5 z6 z7 z8 i0 i1 b0 b1 b2 b3 b4 HPC HST K8 hB2
 obtain ⟨i0, hi0, hz0, hz1, hz2⟩ := info_parts info_skip
 refine wpIn_range_T (T := 61) rfl (by omega) (gf := 154) (lb := #[.pointer (some ⟨Bi, 0, none⟩), .pointer (some ⟨Bz, 0, none⟩)]) rfl trivial (enters_of Tryz.func154 (by kernel_rfl) rfl)
  HSS.out (fun h k => h.trans k) (fun W l o o' _ h hc => kpP_b W l o o' h hc) (Below.refl _ _) (fun _ => rfl)
  (fun pre W => SkI (w.heap.size + 1 + 1) (w.heap.size + 1 + 1 + 1) (w.heap.size + 1 + 1 + 1 + 1) w8.heap.size pre W ∧ Below w.heap.size w W ∧ w8.heap.size ≤ W.heap.size)
  (fun _ _ _ => False)
  (OwnT.and (skI_own _ _ _ _ _) (OwnT.and (ownT_below (by omega) (by omega)) (ownT_size _ _ _)))
  (fun _ => fun _ _ _ _ h _ _ => h)
  ⟨⟨⟨_, c2, World.ownsRow_nil _ _ _ _⟩, c3, c4⟩, hB8, Nat.le_refl _⟩
  (fun x a' W => ∃ Bx, w.heap.size + 1 + 1 + 1 + 1 < Bx ∧ Blk W Bx #[.int .i64 x.fr, .int .i64 x.to] 189 ∧ a' = { tmps := #[.agg #[.string z.nm, .int .i64 z.first.off, .int .i64 z.first.sv, .string z.first.nm, .slice AT z.table.length cT, .slice AR z.tail.length cR, .int .i64 z.off, .string z.form, .int .i64 z.year], .agg #[.int .i64 a, .int .i64 b], .pointer (some ⟨w.heap.size, 0, none⟩), .pointer (some ⟨w.heap.size + 1, 0, none⟩), .slice none 0 0, .pointer (some ⟨w.heap.size + 1 + 1, 0, none⟩), .pointer (some ⟨w.heap.size + 1 + 1 + 1, 0, none⟩), .pointer (some ⟨w.heap.size + 1 + 1 + 1 + 1, 0, none⟩), .pointer (some ⟨Bx, 0, none⟩), .int .i64 x.off, .agg #[.string z.nm, .int .i64 z.first.off, .int .i64 z.first.sv, .string z.first.nm, .slice AT z.table.length cT, .slice AR z.tail.length cR, .int .i64 z.off, .string z.form, .int .i64 z.year], .agg #[.int .i64 a, .int .i64 b], .func (.func 154) #[] #[.pointer (some ⟨Bi, 0, none⟩), .pointer (some ⟨Bz, 0, none⟩)], .agg #[.int .i64 x.fr, .int .i64 x.to], .int .i64 x.off, undef, undef, undef, undef, undef, undef, undef, undef, undef, undef, undef, undef, undef, undef, undef, undef, undef], defers := [] })
  (fun x a' => ownT_ex fun Bx => OwnT.and (ownT_pure _ _ _) (OwnT.and (blk_ownT _ (by decide)) (ownT_pure _ _ _))) ?assign ?body ?done ?stop
 case assign =>
  rintro l1 pre x W K ⟨hi, hb, hW8⟩ hK
  unfold encP
  gi_wp2
  exact hK _ _ ((KeepsOthers.alloc _ _).from _) ((KpP.refl _ _).alloc _) ⟨skI_own 0 _ _ _ _ pre W _ none hi (World.grownBy_alloc W _ none) (fun r e => by cases e), hb.alloc hb.size _, (by simp; omega)⟩ ⟨W.heap.size, (by omega), Blk.new W _ _, rfl⟩
 case body =>
  rintro l1 pre x a' W ⟨⟨⟨v, hv, hr⟩, hbb, hbf⟩, hb, hW8⟩ ⟨Bx, hBx, bX, rfl⟩ hlt
  obtain ⟨A, c, rfl⟩ := own_formN hr
  have x0 := bX.cl 0 _ rfl
  have x1 := bX.cl 1 _ rfl
  have v0 := hv.cl 0 _ rfl
  have vf := hv.frozen 0
  have bb0 := hbb.cl 0 _ rfl
  have bbf := hbb.frozen 0
  have bf0 := hbf.cl 0 _ rfl
  have bff := hbf.frozen 0
  have hln := skipsF_len 0 true pre
  have hL := HLN.out
  have HSN := Lib.hid (skipsF_snoc 0 true pre x)
  have HSS := Lib.hid (stS_snoc 0 true pre x)
  have hend : ∀ W9 : World, Blk W9 (w.heap.size + 1 + 1 + 1) #[.int .i64 (stS 0 true pre).1] 3 → Blk W9 (w.heap.size + 1 + 1 + 1 + 1) #[.bool (stS 0 true pre).2] 4 → KeepsOthers W W9 → KpP Bi W W9 → Below (w.heap.size + 1 + 1) W W9 →
    (∀ u, W9.ownsRow w8.heap.size 186 3 u (skipsF 0 true (pre ++ [x])).length ((skipsF 0 true (pre ++ [x])).flatMap Skip.cells) → Blk W9 (w.heap.size + 1 + 1) #[u] 184 →
     KeepsFrom w8.heap.size W ((W9.setCell ⟨w.heap.size + 1 + 1 + 1, 0, none⟩ (.int .i64 x.off)).setCell ⟨w.heap.size + 1 + 1 + 1 + 1, 0, none⟩ (.bool false)) ∧ KpP Bi W ((W9.setCell ⟨w.heap.size + 1 + 1 + 1, 0, none⟩ (.int .i64 x.off)).setCell ⟨w.heap.size + 1 + 1 + 1 + 1, 0, none⟩ (.bool false)) ∧
     (SkI (w.heap.size + 1 + 1) (w.heap.size + 1 + 1 + 1) (w.heap.size + 1 + 1 + 1 + 1) w8.heap.size (pre ++ [x]) ((W9.setCell ⟨w.heap.size + 1 + 1 + 1, 0, none⟩ (.int .i64 x.off)).setCell ⟨w.heap.size + 1 + 1 + 1 + 1, 0, none⟩ (.bool false)) ∧ Below w.heap.size w ((W9.setCell ⟨w.heap.size + 1 + 1 + 1, 0, none⟩ (.int .i64 x.off)).setCell ⟨w.heap.size + 1 + 1 + 1 + 1, 0, none⟩ (.bool false)) ∧ w8.heap.size ≤ ((W9.setCell ⟨w.heap.size + 1 + 1 + 1, 0, none⟩ (.int .i64 x.off)).setCell ⟨w.heap.size + 1 + 1 + 1 + 1, 0, none⟩ (.bool false)).heap.size)) := by
   intro W9 h3 h4 hk hp hbl u hu h2
   have g3 : Blk (W9.setCell ⟨w.heap.size + 1 + 1 + 1, 0, none⟩ (.int .i64 x.off)) (w.heap.size + 1 + 1 + 1) #[.int .i64 x.off] 3 := Boxed.set _ h3
   have g4 := h4.other (B' := w.heap.size + 1 + 1 + 1) (i := 0) (by omega) (.int .i64 x.off)
   have g2 := h2.other (B' := w.heap.size + 1 + 1 + 1) (i := 0) (by omega) (.int .i64 x.off)
   have k3 := g3.other (B' := w.heap.size + 1 + 1 + 1 + 1) (i := 0) (by omega) (.bool false)
   have k4 : Blk ((W9.setCell ⟨w.heap.size + 1 + 1 + 1, 0, none⟩ (.int .i64 x.off)).setCell ⟨w.heap.size + 1 + 1 + 1 + 1, 0, none⟩ (.bool false)) (w.heap.size + 1 + 1 + 1 + 1) #[.bool false] 4 := Boxed.set _ g4
   have k2 := g2.other (B' := w.heap.size + 1 + 1 + 1 + 1) (i := 0) (by omega) (.bool false)
   have o1 := hu.kept (grownBy_setCell' W9 (w.heap.size + 1 + 1 + 1) (.int .i64 x.off)) (.inr (blk_row_ne h3 (by decide) hu))
   have o2 := o1.kept (grownBy_setCell' _ (w.heap.size + 1 + 1 + 1 + 1) (.bool false)) (.inr (blk_row_ne g4 (by decide) o1))
   have hbl2 := (hbl.setCell (p := ⟨w.heap.size + 1 + 1 + 1, 0, none⟩) (show w.heap.size + 1 + 1 ≤ w.heap.size + 1 + 1 + 1 by omega) (.int .i64 x.off)).setCell (p := ⟨w.heap.size + 1 + 1 + 1 + 1, 0, none⟩) (show w.heap.size + 1 + 1 ≤ w.heap.size + 1 + 1 + 1 + 1 by omega) (.bool false)
   refine ⟨((hk.trans (KeepsOthers.setCell _ _ _)).trans (KeepsOthers.setCell _ _ _)).from _, (hp.set h3 (by omega) (by decide) (by decide) 0 _).set g4 (by omega) (by decide) (by decide) 0 _, ⟨⟨u, k2, o2⟩, ?_, ?_⟩, hb.trans (hbl2.mono (by omega)), Nat.le_trans hW8 hbl2.size⟩
   ·rw [HSS.out]; exact k3
   ·rw [HSS.out]; exact k4
  have HEND := Lib.hid hend
  clear hend
  cases hf : (stS 0 true pre).2
  ·rw [hf] at bf0 HSN
   generalize hbo : (stS 0 true pre).1 = bo at *
   by_cases hc : bo < x.off
   ·have dc : decide (bo < x.off) = true := decide_eq_true hc
    gi_wp2_with (gi_at_builtin; go_loud (refine wpListIn_append_own _ rfl _ _ 184 rfl w8.heap.size 186 i0 _ 3 24 Tryz.underlying184 hi0 hz0 hz1 hz2 rfl (by decide) _ _ _ rfl (own_on hr ((Below.refl W.heap.size W).alloc (Nat.le_refl _) (.cells #[.int .i64 x.fr, .int .i64 bo, .int .i64 x.off] 186))) ⟨W.heap.size, 0, none⟩ 1 1 [.int .i64 x.fr, .int .i64 bo, .int .i64 x.off] rfl rfl (new_row W _ [.int .i64 x.fr, .int .i64 bo, .int .i64 x.off]) (by simp [Value.oneCell']) (by simp only [maxLen]; omega) (by omega) (by simp; omega) ?_; intro v' w1 hown' hgrow _; obtain ⟨hv1, hv2, hr2, hk2, hp2, hb2⟩ := appended hv hr (by decide) (by decide) (by decide) (by decide) (by decide) (by omega) hBi1 (Nat.le_refl _) (by omega) (by omega) ((Below.refl W.heap.size W).alloc (Nat.le_refl _) _) hown' hgrow; have q3 := appended_other (v' := v') hbb hr (by decide) (show w.heap.size + 1 + 1 + 1 ≠ w.heap.size + 1 + 1 by omega) ((Below.refl W.heap.size W).alloc (Nat.le_refl _) _) hgrow; have q4 := appended_other (v' := v') hbf hr (by decide) (show w.heap.size + 1 + 1 + 1 + 1 ≠ w.heap.size + 1 + 1 by omega) ((Below.refl W.heap.size W).alloc (Nat.le_refl _) _) hgrow; obtain ⟨g', cap', rfl⟩ := ownsRow_succ hown'; have hc1 := hv1.cl 0 _ rfl; have hf1 := hv1.frozen 0; have q30 := q3.cl 0 _ rfl; have q3f := q3.frozen 0; have q40 := q4.cl 0 _ rfl; have q4f := q4.frozen 0))
    refine HEND.out _ q3 q4 hk2 hp2 hb2 _ ?_ hv2
    rw [HSN.out, if_pos (by simpa using hc), List.length_append, List.flatMap_append]
    exact hr2
   ·have dc : decide (bo < x.off) = false := decide_eq_false hc
    gi_wp2
    refine HEND.out _ hbb hbf (KeepsOthers.refl _) (KpP.refl _ _) (Below.refl _ _) _ ?_ hv
    rw [HSN.out, if_neg (by simp; omega), List.append_nil]
    exact hr
  ·rw [hf] at bf0 HSN
   gi_wp2
   refine HEND.out _ hbb hbf (KeepsOthers.refl _) (KpP.refl _ _) (Below.refl _ _) _ ?_ hv
   rw [HSN.out, if_neg (by simp), List.append_nil]
   exact hr
 case done =>
  rintro D ys W hD hys ⟨⟨⟨v, hv, hr⟩, _⟩, hb, _⟩ hK
  subst hys
  obtain ⟨A, c, rfl⟩ := own_formN hr
  have v0 := hv.cl 0 _ rfl
  have HR := Lib.hid (own_base (ownsRow_putObj hr (.deferred none) hK rfl) (show w.heap.size ≤ w8.heap.size by omega))
  rw [← HOK.out] at HR v0
  gi_wp2
  refine ⟨by simp, .inl ⟨_, _, rfl, run_takeDeferred hK, ?_⟩⟩
  refine ⟨_, results_tmp rfl _ _ _, ?_⟩
  exact ⟨.slice A SL.length c, rfl, HR.out, hb.trans (belowK_b (w := w8) (by omega) W D _ _ hD hK rfl rfl)⟩
 case stop =>
  rintro D c pre W hD _ h hK
  exact h.elim
end Go.Proofs.YtdpbhjaicgkblaaGreatDoor
/- slices.Backward over skips. Printed by gen_locw8.py from XZoneW12. -/
namespace Go.Proofs.YtdpbhjaicgkblaaGreatDoor
set_option linter.unusedSimpArgs false
set_option linter.unusedVariables false
open Go.RowKit Go.Shelf
attribute [local go_sem] Oper.semAt_some
def bseqS (zs : List Skip) (k : Nat) : List (Int × Skip) := (List.range k).map fun j => (((zs.length - 1 - j : Nat) : Int), zs[zs.length - 1 - j]!)
theorem bseqS_succ (zs : List Skip) (k : Nat) : bseqS zs (k + 1) = bseqS zs k ++ [(((zs.length - 1 - k : Nat) : Int), zs[zs.length - 1 - k]!)] := by simp [bseqS, List.range_succ]
theorem bseqS_len (zs : List Skip) (k : Nat) : (bseqS zs k).length = k := by simp [bseqS]
def encS (x : Int × Skip) : Array Value := #[.int .i64 x.1, .agg #[.int .i64 x.2.at_, .int .i64 x.2.bef, .int .i64 x.2.aft]]
set_option maxRecDepth 100000 in
set_option maxHeartbeats 2000000 in
theorem bk1_in (F : Fence) (n : Nat) (hf : F.fn 139) (hro : F.round = none) (hn : 1 ≤ n) (l Bs n₀ b off cap : Nat) (zs : List Skip) (hlen : zs.length ≤ 1000000) (hb : b < n₀) (J Jx : List (Int × Skip) → World → Prop)
  (hY : ∀ pre x W, J pre W → pre.length < zs.length → YieldAt F (n - 1) Tryz.prog l (encS x) W fun e W' =>
   (e = .returned (.bool true) ∧ J (pre ++ [x]) W' ∧ Below n₀ W W') ∨ (e = .returned (.bool false) ∧ Jx (pre ++ [x]) W'))
  (W : World) (hBs : W.cell? ⟨Bs, 0, none⟩ = some (.slice (some ⟨b, off, none⟩) zs.length cap)) (hBn : Bs < n₀) (hc : ∀ j, j < zs.length → ∀ i u, (Skip.cells zs[j]!)[i]? = some u → W.cell? ⟨b, off + j * 3 + i, none⟩ = some u) (h0 : J [] W) :
  CallsIn F n Tryz.prog 139 #[.func (.yield l) #[] #[], .pointer (some ⟨Bs, 0, none⟩)] W fun e W' => (∃ v, e = .returned v) ∧
   ((∃ ys, ys = bseqS zs zs.length ∧ J ys W') ∨ (∃ pre, (∃ k, k ≤ zs.length ∧ pre = bseqS zs k) ∧ Jx pre W')) := by
 refine callsIn_of_wp Tryz.func139 rfl hf ?_ hro
 simp only [Tryz.ntmps139, List.size_toArray, List.length_cons, List.length_nil, Nat.reduceAdd, Nat.reduceSub, Array.replicate_succ, Array.replicate_zero, List.push_toArray, List.append_toArray, List.nil_append, List.cons_append]
 gi_wp2
 gi_loopw [3] (fun i wr => ∃ k : Nat, k ≤ zs.length ∧ i = .int .i64 ((zs.length : Int) - 1 - k) ∧ J (bseqS zs k) wr ∧ Below n₀ W wr) (fun i _ => (intOf i + 1).toNat)
 case atStart => exact ⟨0, Nat.zero_le _, by simp, h0, Below.refl _ _⟩
 case round =>
  obtain ⟨k, hk, rfl, hJs, hnx⟩ := hrel
  have hBx := (hnx.cell (p := ⟨Bs, 0, none⟩) hBn).trans hBs
  by_cases hlt : k < zs.length
  ·obtain ⟨m, hm⟩ : ∃ m, zs.length = m + 1 + k := ⟨zs.length - 1 - k, by omega⟩
   have em : (zs.length : Int) - 1 - k = (m : Int) := by omega
   have em2 : zs.length - 1 - k = m := by omega
   rw [em]
   have hsucc := bseqS_succ zs k
   rw [em2] at hsucc
   have HS := Lib.hid hsucc
   have hcm := fun i u h => (hnx.cell (p := ⟨b, off + m * 3 + i, none⟩) hb).trans (hc m (by omega) i u h)
   have e0 := hcm 0 _ rfl
   have e1 := hcm 1 _ rfl
   have e2 := hcm 2 _ rfl
   rw [Nat.add_zero] at e0
   have hml : m < zs.length := by omega
   have HM := Lib.hid hm
   obtain ⟨fn, tmps, assign, body, hy, hR⟩ := hY _ ((m : Int), zs[m]!) wr hJs (by rw [bseqS_len]; exact hlt)
   clear hcm hsucc em em2 hm hc hBs
   unfold encS at hy
   dsimp only at hy
   generalize zs[m]! = x at *
   gi_wp2
   refine hR.mono ?_
   rintro e W3 (⟨rfl, hJ3, hk3⟩ | ⟨rfl, hJx3⟩)
   ·gi_wp2
    go_roundw
    case rel => exact ⟨k + 1, by omega, by have := HM.out; congr 1; omega, by rw [HS.out]; exact hJ3, hnx.trans hk3⟩
    case measure => simp [intOf]
   ·gi_wp2
    refine bodyPost_ret (results_none rfl _ _ _) rfl ?_
    exact ⟨⟨_, rfl⟩, .inr ⟨_, ⟨k + 1, by omega, HS.out.symm⟩, hJx3⟩⟩
  ·have hke : k = zs.length := by omega
   subst hke
   rw [show (zs.length : Int) - 1 - zs.length = -1 by omega]
   gi_wp2
   go_end0
   exact ⟨⟨_, rfl⟩, .inl ⟨_, rfl, hJs⟩⟩
set_option maxRecDepth 100000 in
set_option maxHeartbeats 1000000 in
theorem bk1_nil_in (F : Fence) (n : Nat) (hf : F.fn 139) (hro : F.round = none) (l Bs : Nat) (A : Option Addr) (cap : Nat) (J : List (Int × Skip) → World → Prop) (W : World) (hBs : W.cell? ⟨Bs, 0, none⟩ = some (.slice A 0 cap)) (h0 : J [] W) :
  CallsIn F n Tryz.prog 139 #[.func (.yield l) #[] #[], .pointer (some ⟨Bs, 0, none⟩)] W fun e W' => (∃ v, e = .returned v) ∧ J [] W' := by
 refine callsIn_of_wp Tryz.func139 rfl hf ?_ hro
 simp only [Tryz.ntmps139, List.size_toArray, List.length_cons, List.length_nil, Nat.reduceAdd, Nat.reduceSub, Array.replicate_succ, Array.replicate_zero, List.push_toArray, List.append_toArray, List.nil_append, List.cons_append]
 gi_wp2
 gi_loopw [3] (fun i wr => i = .int .i64 (-1) ∧ J [] wr) (fun _ _ => 0)
 case atStart => exact ⟨rfl, h0⟩
 case round =>
  obtain ⟨rfl, hJs⟩ := hrel
  gi_wp2
  go_end0
  exact ⟨⟨_, rfl⟩, hJs⟩
set_option maxHeartbeats 1000000 in
theorem bk_in (F : Fence) (n : Nat) (h5 : F.fn 122) (hro : F.round = none) (a : Option Addr) (len cap : Nat) (w : World) :
  CallsIn F n Tryz.prog 122 #[.slice a len cap] w fun e w' => e = .returned (.func (.func 139) #[] #[.pointer (some ⟨w.heap.size, 0, none⟩)]) ∧ w' = w.alloc (.cells #[.slice a len cap] 184) := by
 refine callsIn_of_wp Tryz.func122 rfl h5 ?_ hro
 simp only [Tryz.ntmps122, List.size_toArray, List.length_cons, List.length_nil, Nat.reduceAdd, Nat.reduceSub, Array.replicate_succ, Array.replicate_zero, List.push_toArray, List.append_toArray, List.nil_append, List.cons_append]
 gi_wp2
 go_ret
 exact ⟨rfl, rfl⟩
theorem bk_stops (F : Fence) (n : Nat) (hf : F.fn 139) (hro : F.round = none) (hn : 1 ≤ n) (Bs n₀ : Nat) (sv : Value) (zs : List Skip) (hlen : zs.length ≤ 1000000) (w : World) (hBs : Bs < n₀) (hn₀ : n₀ ≤ w.heap.size)
  (hc : w.cell? ⟨Bs, 0, none⟩ = some sv) (hI : ∃ wI, Rd Skip.cells 3 wI sv zs ∧ Below wI.heap.size wI w ∧ wI.heap.size ≤ n₀) :
  SeqStopsK F n Tryz.prog 139 #[.pointer (some ⟨Bs, 0, none⟩)] encS (Below n₀) (fun ys => ys = bseqS zs zs.length) (fun pre => ∃ k, k ≤ zs.length ∧ pre = bseqS zs k) zs.length w := fun l J Jx W hW _ _ hY h0 => by
 have hc' := (hW.cell (p := ⟨Bs, 0, none⟩) (by show Bs < _; omega)).trans hc
 obtain ⟨wI, hI, hbI, hsI⟩ := hI
 rcases hI with ⟨h0', A, c, rfl⟩ | ⟨g, off, c, rfl, hg, hcs⟩
 ·subst h0'
  exact (bk1_nil_in F n hf hro l Bs A c J W hc' h0).mono fun e W' ⟨he, hj⟩ => ⟨he, .inl ⟨_, rfl, hj⟩⟩
 ·exact bk1_in F n hf hro hn l Bs n₀ g off c zs hlen (by omega) J Jx hY W hc' hBs (fun j hj i u hu => (hW.cell (p := ⟨g, off + j * 3 + i, none⟩) (by show g < _; omega)).trans ((hbI.cell (p := ⟨g, off + j * 3 + i, none⟩) hg).trans (hcs j hj i u hu))) h0
end Go.Proofs.YtdpbhjaicgkblaaGreatDoor
/- local.Valid, local.gaps and what it hands back. -/
namespace Go.Proofs.YtdpbhjaicgkblaaGreatDoor
set_option linter.unusedSimpArgs false
set_option linter.unusedVariables false
open Go.ChangeShapes Go.WideShapes Go.ChangeAt Go.RowKit
set_option maxHeartbeats 2000000 in
theorem pol_any (g f : Int) (w : World) : Calls Tryz.prog 63 #[.agg #[.int .i64 g, .int .i64 f]] w fun e w' => e = .returned (.bool (polB g f)) ∧ Below w.heap.size w w' := by
 have hB1 : Below w.heap.size w (w.alloc (.cells #[.int .i64 g, .int .i64 f] 36)) := (Below.refl _ _).alloc (Nat.le_refl _) _
 have e : polB g f = (decide (1 ≤ g) && (decide (g ≤ 4) && (decide (1 ≤ f) && decide (f ≤ 3)))) := by
  unfold polB
  simp only [Bool.decide_and]
 rw [e]
 clear e
 by_cases c1 : 1 ≤ g
 ·by_cases c2 : g ≤ 4
  ·by_cases c3 : 1 ≤ f
   ·by_cases c4 : f ≤ 3
    ·rw [decide_eq_true c1, decide_eq_true c2, decide_eq_true c3, decide_eq_true c4]
     go_enter Tryz.func63, Tryz.ntmps63
     go_wp2
     go_ret
     exact ⟨rfl, hB1⟩
    ·rw [decide_eq_true c1, decide_eq_true c2, decide_eq_true c3, decide_eq_false c4]
     go_enter Tryz.func63, Tryz.ntmps63
     go_wp2
     go_ret
     exact ⟨rfl, hB1⟩
   ·rw [decide_eq_true c1, decide_eq_true c2, decide_eq_false c3]
    go_enter Tryz.func63, Tryz.ntmps63
    go_wp2
    go_ret
    exact ⟨rfl, hB1⟩
  ·rw [decide_eq_true c1, decide_eq_false c2]
   go_enter Tryz.func63, Tryz.ntmps63
   go_wp2
   go_ret
   exact ⟨rfl, hB1⟩
 ·rw [decide_eq_false c1]
  go_enter Tryz.func63, Tryz.ntmps63
  go_wp2
  go_ret
  exact ⟨rfl, hB1⟩
def fn0 (k : Nat) : Value := .func (.func k) #[] #[]
theorem gaps_any (w : World) : Calls Tryz.prog 125 #[] w fun e w' => e = .returned (.agg #[.nilFunc, fn0 140, fn0 141, fn0 142, fn0 143]) ∧ Below w.heap.size w w' := by
 unfold fn0
 go_enter Tryz.func125, Tryz.ntmps125
 go_wp2
 exact bodyPost_ret (v := .agg #[.nilFunc, .func (.func 140) #[] #[], .func (.func 141) #[] #[], .func (.func 142) #[] #[], .func (.func 143) #[] #[]]) (by simp [results, Tryz.results125, go_sem]) rfl ⟨rfl, by first | exact (Below.refl _ _).alloc (Nat.le_refl _) _ | exact gaps_below _ _ _ _ _ _⟩
theorem gap1_any (l : Int) (x : Skip) (w : World) : Calls Tryz.prog 140 #[.int .i64 l, .agg #[.int .i64 x.at_, .int .i64 x.bef, .int .i64 x.aft]] w fun e w' => e = .returned (.tuple #[.int .i64 0, .int .i64 11]) ∧ Below w.heap.size w w' := by
 have hB1 : Below w.heap.size w (w.alloc (.cells #[.int .i64 x.at_, .int .i64 x.bef, .int .i64 x.aft] 186)) := (Below.refl _ _).alloc (Nat.le_refl _) _
 go_enter Tryz.func140, Tryz.ntmps140
 go_wp2
 go_ret2
 first | exact ⟨rfl, Below.refl _ _⟩ | exact ⟨rfl, hB1⟩
theorem gap2_any (l : Int) (x : Skip) (w : World) : Calls Tryz.prog 141 #[.int .i64 l, .agg #[.int .i64 x.at_, .int .i64 x.bef, .int .i64 x.aft]] w fun e w' => e = .returned (.tuple #[.int .i64 (wrap64 (l - x.bef)), .int .i64 0]) ∧ Below w.heap.size w w' := by
 have hB1 : Below w.heap.size w (w.alloc (.cells #[.int .i64 x.at_, .int .i64 x.bef, .int .i64 x.aft] 186)) := (Below.refl _ _).alloc (Nat.le_refl _) _
 go_enter Tryz.func141, Tryz.ntmps141
 go_wp2
 go_ret2
 exact ⟨rfl, hB1⟩
theorem gap3_any (l : Int) (x : Skip) (w : World) : Calls Tryz.prog 142 #[.int .i64 l, .agg #[.int .i64 x.at_, .int .i64 x.bef, .int .i64 x.aft]] w fun e w' => e = .returned (.tuple #[.int .i64 (wrap64 (l - x.aft)), .int .i64 0]) ∧ Below w.heap.size w w' := by
 have hB1 : Below w.heap.size w (w.alloc (.cells #[.int .i64 x.at_, .int .i64 x.bef, .int .i64 x.aft] 186)) := (Below.refl _ _).alloc (Nat.le_refl _) _
 go_enter Tryz.func142, Tryz.ntmps142
 go_wp2
 go_ret2
 exact ⟨rfl, hB1⟩
theorem gap4_any (l : Int) (x : Skip) (w : World) : Calls Tryz.prog 143 #[.int .i64 l, .agg #[.int .i64 x.at_, .int .i64 x.bef, .int .i64 x.aft]] w fun e w' => e = .returned (.tuple #[.int .i64 x.at_, .int .i64 0]) ∧ Below w.heap.size w w' := by
 have hB1 : Below w.heap.size w (w.alloc (.cells #[.int .i64 x.at_, .int .i64 x.bef, .int .i64 x.aft] 186)) := (Below.refl _ _).alloc (Nat.le_refl _) _
 go_enter Tryz.func143, Tryz.ntmps143
 go_wp2
 go_ret2
 exact ⟨rfl, hB1⟩
end Go.Proofs.YtdpbhjaicgkblaaGreatDoor
/- A region that draws its order, in the round of a range over a function: by the laws for held facts. -/
namespace Go.Proofs.YtdpbhjaicgkblaaGreatDoor
set_option linter.unusedSimpArgs false
set_option linter.unusedVariables false
open Go.RowKit
theorem oper_round {P : Program} {o : Oper} {a : Act} {w : World} {next next' : Act → World → Prop} {Q : Exit → Act → World → Prop} {l n : Nat} (hd : ∀ c, o.op ≠ .defer c) (hn : ∀ a w, next a w → next' a w)
  (h : o.wp P a w next Q) : o.wpIn (Fence.wide.inRound l) n P a w next' Q := by
 refine ⟨fun _ _ => trivial, ?_⟩
 have e : o.semAt (Fence.wide.inRound l).round a.eval = execOp a.eval o := Oper.semAt_some l a.eval o hd
 have hdp : (Fence.wide.inRound l).depth.isSome = true → 1 ≤ n := fun h => by cases h
 rw [e]
 unfold Oper.wp at h
 generalize (execOp a.eval o).run P w = r at *
 cases r with
 | ok x w' =>
  cases x with
  | value v => exact hn _ _ h
  | skip => exact hn _ _ h
  | defer d => exact hn _ _ h
  | enter f args =>
   refine ⟨hdp, ?_⟩
   have h2 := callsIn_wide (n := n - 1).2 h
   exact CallsIn.inRound l (h2.mono fun e w'' he => by
    cases e with
    | returned v => exact hn _ _ he
    | panicked c => exact he
    | outgrown => exact he)
  | row row args => exact ⟨hdp, fun c cs _ => let ⟨v, w'', r, s⟩ := h c cs; ⟨v, w'', hn _ _ r, stepsIn_wide.2 s⟩⟩
  | _ => exact h.elim
 | halt x w' =>
  cases x with
  | panic v => exact h
  | _ => exact h.elim
theorem wpOps_round {P : Program} {ops : Array Oper} {Q : Exit → Act → World → Prop} {l n : Nat} (hd : ∀ (i : Nat) (o : Oper), ops[i]? = some o → ∀ c, o.op ≠ .defer c) (hno : ¬ LetsOut Q) :
  ∀ (L : List Nat) (a : Act) (w : World), wpOps P ops Q L a w → wpOpsIn (Fence.wide.inRound l) n P ops Q L a w
 | [], _, _, h => h
 | i :: rest, a, w, h => by
  unfold wpOps at h
  unfold wpOpsIn
  cases ho : ops[i]? with
  | none =>
   rw [ho] at h
   exact wpOps_round hd hno rest a w h
  | some o =>
   rw [ho] at h
   dsimp only at h ⊢
   split at h
   ·rename_i hw
    rw [if_pos hw]
    rcases h with h | ⟨_, h⟩
    ·exact oper_round (hd i o ho) (fun a w h => wpOps_round hd hno rest a w h) h
    ·exact absurd h hno
   ·rename_i hw
    rw [if_neg hw]
    exact ⟨fun _ _ => trivial, wpOps_round hd hno rest _ w h⟩
def noDefer (o : Oper) : Bool := match o.op with | .defer _ => false | _ => true
theorem noDefer_all {ops : Array Oper} (h : ops.all noDefer = true) : ∀ (i : Nat) (o : Oper), ops[i]? = some o → ∀ c, o.op ≠ .defer c := fun i o ho c e => by
 have h1 := Array.all_eq_true.1 h i (Array.getElem?_eq_some_iff.1 ho).1
 rw [(Array.getElem?_eq_some_iff.1 ho).2] at h1
 unfold noDefer at h1
 rw [e] at h1
 cases h1
theorem wpIn_region_round {P : Program} {id : Nat} {ops : Array Oper} {Q : Exit → Act → World → Prop} {S : World → Prop} {a : Act} {w : World} {l n : Nat} (hm : P.follows .mixedOrders = true) (hd : ops.all noDefer = true) (hno : ¬ LetsOut Q)
  (h : wpAnyH P .any ops Q S ops.size (Array.replicate ops.size false) a w.drew) : (Code.region id ops true).wpIn (Fence.wide.inRound l) n P Q a w :=
 wpIn_region_draw fun t => wpOps_round (noDefer_all hd) hno _ _ _ (by
  simp only [Region.schedule, hm, Bool.true_or, if_true]
  exact wpAny_sound ops.size t _ a _ (wpAny_of_held _ _ _ _ h))
end Go.Proofs.YtdpbhjaicgkblaaGreatDoor

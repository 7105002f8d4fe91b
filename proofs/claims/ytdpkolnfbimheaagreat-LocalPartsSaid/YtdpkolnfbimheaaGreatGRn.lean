/- Joined by merge.py: Intv, LocW11, RunsW. -/
import Derived.Test.YtdpkolnfbimheaaGreatGZk
import Derived.Test.YtdpkolnfbimheaaGreatJGapsQ
import Derived.Test.YtdpkolnfbimheaaGreatGLa
import Derived.Test.YtdpkolnfbimheaaGreatGLb
import Derived.Test.YtdpkolnfbimheaaGreatGZc
import Derived.BigQuiet
/- interval.Meet. Printed by gen_intv.py. -/
namespace Go.Proofs.YtdpkolnfbimheaaGreat
set_option linter.unusedSimpArgs false
set_option linter.unusedVariables false
open Go.ChangeShapes Go.WideShapes Go.ChangeAt Go.RowKit

theorem iv_ok (s : Spn) : ivB s.fr s.to = s.ok := by
  rw [Bool.eq_iff_iff, Spn.ok_iff]
  unfold ivB lineB
  simp only [Bool.and_eq_true, decide_eq_true_eq]
  omega
def encN (s : Spn) : List Value := [.int .i64 s.fr, .int .i64 s.to]
theorem encN_len (s : Spn) : (encN s).length = 2 := rfl
theorem encN_one (s : Spn) : ∀ v ∈ encN s, v.oneCell' = true := by intro v hv; simp [encN] at hv; rcases hv with rfl | rfl <;> rfl
def meetV (a b : Spn) : Spn × Bool := if meetB a b = true then (meetF a b, true) else (⟨0, 0⟩, false)
theorem meetV_no {a b : Spn} (h : meetB a b = false) : meetV a b = (⟨0, 0⟩, false) := by unfold meetV; rw [h]; rfl
theorem meetV_yes {a b : Spn} (h : meetB a b = true) : meetV a b = (meetF a b, true) := by unfold meetV; rw [h]; rfl
theorem set2 {W : World} {B : Nat} {u v : Value} {T : TypeId} (h : Blk W B #[u, v] T) (x y : Value) : ((W.setCell ⟨B, 0, none⟩ x).setCell ⟨B, 1, none⟩ y).cell? ⟨B, 0, none⟩ = some x ∧ ((W.setCell ⟨B, 0, none⟩ x).setCell ⟨B, 1, none⟩ y).cell? ⟨B, 1, none⟩ = some y := by
  have k0 := h.cl 0 _ rfl
  have k1 := h.cl 1 _ rfl
  have e1 := (setNe W ⟨B, 0, none⟩ ⟨B, 1, none⟩ x (by simp)).trans k1
  exact ⟨(setNe _ ⟨B, 1, none⟩ ⟨B, 0, none⟩ y (by simp)).trans (World.cell?_setCell_same' _ ⟨B, 0, none⟩ x (by rw [k0]; rfl)), World.cell?_setCell_same' _ ⟨B, 1, none⟩ y (by rw [e1]; rfl)⟩
def MeetEnd (s t : Spn) (w : World) (e : Ending) (w' : World) : Prop := e = .returned (.tuple #[.agg #[.int .i64 (meetV s t).1.fr, .int .i64 (meetV s t).1.to], .bool (meetV s t).2]) ∧ Below w.heap.size w w'
set_option maxRecDepth 100000 in
set_option maxHeartbeats 4000000 in
theorem Meet_any (s t : Spn) (w : World) : Calls Tryz.prog 74 #[.agg #[.int .i64 s.fr, .int .i64 s.to], .agg #[.int .i64 t.fr, .int .i64 t.to]] w (MeetEnd s t w) := by
  have HA := Lib.hid (fun W => iv_any s.fr s.to W)
  have HB := Lib.hid (fun W => iv_any t.fr t.to W)
  rw [iv_ok s] at HA
  rw [iv_ok t] at HB
  unfold MeetEnd
  have hm : meetB s t = (s.ok && (t.ok && decide ((meetF s t).fr < (meetF s t).to))) := rfl
  obtain ⟨a, b⟩ := s
  obtain ⟨c, d⟩ := t
  generalize Spn.ok ⟨a, b⟩ = oA at *
  generalize Spn.ok ⟨c, d⟩ = oB at *
  have b0 := Blk.new w #[.int .i64 a, .int .i64 b] 34
  have b1 := Blk.new (w.alloc (.cells #[.int .i64 a, .int .i64 b] 34)) #[.int .i64 c, .int .i64 d] 34
  have b2 := Blk.new ((w.alloc (.cells #[.int .i64 a, .int .i64 b] 34)).alloc (.cells #[.int .i64 c, .int .i64 d] 34)) #[.int .i64 0, .int .i64 0] 34
  have b3 := Blk.new (((w.alloc (.cells #[.int .i64 a, .int .i64 b] 34)).alloc (.cells #[.int .i64 c, .int .i64 d] 34)).alloc (.cells #[.int .i64 0, .int .i64 0] 34)) #[.int .i64 (max a c), .int .i64 (min b d)] 34
  simp only [World.size_alloc] at b1 b2 b3
  have b0 := ((b0.alloc (.cells #[.int .i64 c, .int .i64 d] 34)).alloc (.cells #[.int .i64 0, .int .i64 0] 34)).alloc (.cells #[.int .i64 (max a c), .int .i64 (min b d)] 34)
  have b1 := (b1.alloc (.cells #[.int .i64 0, .int .i64 0] 34)).alloc (.cells #[.int .i64 (max a c), .int .i64 (min b d)] 34)
  have b2 := b2.alloc (.cells #[.int .i64 (max a c), .int .i64 (min b d)] 34)
  have hB : Below w.heap.size w ((((w.alloc (.cells #[.int .i64 a, .int .i64 b] 34)).alloc (.cells #[.int .i64 c, .int .i64 d] 34)).alloc (.cells #[.int .i64 0, .int .i64 0] 34)).alloc (.cells #[.int .i64 (max a c), .int .i64 (min b d)] 34)) := ((((Below.refl _ _).alloc (Nat.le_refl _) _).alloc (by simp) _).alloc (by simp; omega) _).alloc (by simp; omega) _
  have hsz : w.heap.size ≤ ((((w.alloc (.cells #[.int .i64 a, .int .i64 b] 34)).alloc (.cells #[.int .i64 c, .int .i64 d] 34)).alloc (.cells #[.int .i64 0, .int .i64 0] 34)).alloc (.cells #[.int .i64 (max a c), .int .i64 (min b d)] 34)).heap.size := hB.size
  have HM := Lib.hid hm
  clear hm
  dsimp only at *
  cases oA
  · rw [meetV_no (HM.out.trans rfl)]
    clear HM HB
    go_enter Tryz.func74, Tryz.ntmps74
    go_wp2_with fail
    generalize ((((w.alloc (.cells #[.int .i64 a, .int .i64 b] 34)).alloc (.cells #[.int .i64 c, .int .i64 d] 34)).alloc (.cells #[.int .i64 0, .int .i64 0] 34)).alloc (.cells #[.int .i64 (max a c), .int .i64 (min b d)] 34)) = W4 at *
    go_wp2_with (go_at_call 75; refine (HA.out W4).mono ?_; rintro e w5 ⟨rfl, hb5⟩; clear HA; have q0 := b0.below hb5 b0.lt; have q1 := b1.below hb5 b1.lt; have q2 := b2.below hb5 b2.lt; have q3 := b3.below hb5 b3.lt; have q0l := q0.lt; have q1l := q1.lt; have q2l := q2.lt; have q3l := q3.lt; have q00 := q0.cl 0 _ rfl; have q01 := q0.cl 1 _ rfl; have q10 := q1.cl 0 _ rfl; have q11 := q1.cl 1 _ rfl; have q20 := q2.cl 0 _ rfl; have q21 := q2.cl 1 _ rfl; have q30 := q3.cl 0 _ rfl; have q31 := q3.cl 1 _ rfl; have qf0 := q2.frozen 0; have qf1 := q2.frozen 1)
    obtain ⟨s0, s1⟩ := set2 q2 (.int .i64 0) (.int .i64 0)
    have hB9 : Below w.heap.size w ((w5.setCell ⟨w.heap.size + 1 + 1, 0, none⟩ (.int .i64 0)).setCell ⟨w.heap.size + 1 + 1, 1, none⟩ (.int .i64 0)) := ((hB.trans (hb5.mono hsz)).setCell (p := ⟨w.heap.size + 1 + 1, 0, none⟩) (by show w.heap.size ≤ w.heap.size + 1 + 1; omega) _).setCell (p := ⟨w.heap.size + 1 + 1, 1, none⟩) (by show w.heap.size ≤ w.heap.size + 1 + 1; omega) _
    generalize (w5.setCell ⟨w.heap.size + 1 + 1, 0, none⟩ (.int .i64 0)).setCell ⟨w.heap.size + 1 + 1, 1, none⟩ (.int .i64 0) = W9 at *
    exact bodyPost_ret (v := .tuple #[.agg #[.int .i64 0, .int .i64 0], .bool false]) (by simp [results, Tryz.results74, go_sem, s0, s1]) rfl ⟨rfl, hB9⟩
  · cases oB
    · rw [meetV_no (HM.out.trans rfl)]
      clear HM
      go_enter Tryz.func74, Tryz.ntmps74
      go_wp2_with fail
      generalize ((((w.alloc (.cells #[.int .i64 a, .int .i64 b] 34)).alloc (.cells #[.int .i64 c, .int .i64 d] 34)).alloc (.cells #[.int .i64 0, .int .i64 0] 34)).alloc (.cells #[.int .i64 (max a c), .int .i64 (min b d)] 34)) = W4 at *
      go_wp2_with (first | (go_at_call 75; refine (HA.out W4).mono ?_; rintro e w5 ⟨rfl, hb5⟩; clear HA; have q0 := b0.below hb5 b0.lt; have q1 := b1.below hb5 b1.lt; have q2 := b2.below hb5 b2.lt; have q3 := b3.below hb5 b3.lt; have q0l := q0.lt; have q1l := q1.lt; have q2l := q2.lt; have q3l := q3.lt; have q00 := q0.cl 0 _ rfl; have q01 := q0.cl 1 _ rfl; have q10 := q1.cl 0 _ rfl; have q11 := q1.cl 1 _ rfl; have q20 := q2.cl 0 _ rfl; have q21 := q2.cl 1 _ rfl; have q30 := q3.cl 0 _ rfl; have q31 := q3.cl 1 _ rfl; have qf0 := q2.frozen 0; have qf1 := q2.frozen 1) | (go_at_call 75; refine (HB.out w5).mono ?_; rintro e w6 ⟨rfl, hb6⟩; clear HB; have hb6 := hb5.trans (hb6.mono hb5.size); have q0 := b0.below hb6 b0.lt; have q1 := b1.below hb6 b1.lt; have q2 := b2.below hb6 b2.lt; have q3 := b3.below hb6 b3.lt; have q0l := q0.lt; have q1l := q1.lt; have q2l := q2.lt; have q3l := q3.lt; have q00 := q0.cl 0 _ rfl; have q01 := q0.cl 1 _ rfl; have q10 := q1.cl 0 _ rfl; have q11 := q1.cl 1 _ rfl; have q20 := q2.cl 0 _ rfl; have q21 := q2.cl 1 _ rfl; have q30 := q3.cl 0 _ rfl; have q31 := q3.cl 1 _ rfl; have qf0 := q2.frozen 0; have qf1 := q2.frozen 1))
      obtain ⟨s0, s1⟩ := set2 q2 (.int .i64 0) (.int .i64 0)
      have hB9 : Below w.heap.size w ((w6.setCell ⟨w.heap.size + 1 + 1, 0, none⟩ (.int .i64 0)).setCell ⟨w.heap.size + 1 + 1, 1, none⟩ (.int .i64 0)) := ((hB.trans (hb6.mono hsz)).setCell (p := ⟨w.heap.size + 1 + 1, 0, none⟩) (by show w.heap.size ≤ w.heap.size + 1 + 1; omega) _).setCell (p := ⟨w.heap.size + 1 + 1, 1, none⟩) (by show w.heap.size ≤ w.heap.size + 1 + 1; omega) _
      generalize (w6.setCell ⟨w.heap.size + 1 + 1, 0, none⟩ (.int .i64 0)).setCell ⟨w.heap.size + 1 + 1, 1, none⟩ (.int .i64 0) = W9 at *
      exact bodyPost_ret (v := .tuple #[.agg #[.int .i64 0, .int .i64 0], .bool false]) (by simp [results, Tryz.results74, go_sem, s0, s1]) rfl ⟨rfl, hB9⟩
    · by_cases hlt : max a c < min b d
      · rw [meetV_yes (HM.out.trans (by rw [Bool.true_and, Bool.true_and]; exact decide_eq_true hlt))]
        have d1 : decide (min b d ≤ max a c) = false := decide_eq_false (by omega)
        clear HM
        go_enter Tryz.func74, Tryz.ntmps74
        go_wp2_with fail
        generalize ((((w.alloc (.cells #[.int .i64 a, .int .i64 b] 34)).alloc (.cells #[.int .i64 c, .int .i64 d] 34)).alloc (.cells #[.int .i64 0, .int .i64 0] 34)).alloc (.cells #[.int .i64 (max a c), .int .i64 (min b d)] 34)) = W4 at *
        go_wp2_with (first | (go_at_call 75; refine (HA.out W4).mono ?_; rintro e w5 ⟨rfl, hb5⟩; clear HA; have q0 := b0.below hb5 b0.lt; have q1 := b1.below hb5 b1.lt; have q2 := b2.below hb5 b2.lt; have q3 := b3.below hb5 b3.lt; have q0l := q0.lt; have q1l := q1.lt; have q2l := q2.lt; have q3l := q3.lt; have q00 := q0.cl 0 _ rfl; have q01 := q0.cl 1 _ rfl; have q10 := q1.cl 0 _ rfl; have q11 := q1.cl 1 _ rfl; have q20 := q2.cl 0 _ rfl; have q21 := q2.cl 1 _ rfl; have q30 := q3.cl 0 _ rfl; have q31 := q3.cl 1 _ rfl; have qf0 := q2.frozen 0; have qf1 := q2.frozen 1) | (go_at_call 75; refine (HB.out w5).mono ?_; rintro e w6 ⟨rfl, hb6⟩; clear HB; have hb6 := hb5.trans (hb6.mono hb5.size); have q0 := b0.below hb6 b0.lt; have q1 := b1.below hb6 b1.lt; have q2 := b2.below hb6 b2.lt; have q3 := b3.below hb6 b3.lt; have q0l := q0.lt; have q1l := q1.lt; have q2l := q2.lt; have q3l := q3.lt; have q00 := q0.cl 0 _ rfl; have q01 := q0.cl 1 _ rfl; have q10 := q1.cl 0 _ rfl; have q11 := q1.cl 1 _ rfl; have q20 := q2.cl 0 _ rfl; have q21 := q2.cl 1 _ rfl; have q30 := q3.cl 0 _ rfl; have q31 := q3.cl 1 _ rfl; have qf0 := q2.frozen 0; have qf1 := q2.frozen 1))
        obtain ⟨s0, s1⟩ := set2 q2 (.int .i64 (max a c)) (.int .i64 (min b d))
        have hB9 : Below w.heap.size w ((w6.setCell ⟨w.heap.size + 1 + 1, 0, none⟩ (.int .i64 (max a c))).setCell ⟨w.heap.size + 1 + 1, 1, none⟩ (.int .i64 (min b d))) := ((hB.trans (hb6.mono hsz)).setCell (p := ⟨w.heap.size + 1 + 1, 0, none⟩) (by show w.heap.size ≤ w.heap.size + 1 + 1; omega) _).setCell (p := ⟨w.heap.size + 1 + 1, 1, none⟩) (by show w.heap.size ≤ w.heap.size + 1 + 1; omega) _
        generalize (w6.setCell ⟨w.heap.size + 1 + 1, 0, none⟩ (.int .i64 (max a c))).setCell ⟨w.heap.size + 1 + 1, 1, none⟩ (.int .i64 (min b d)) = W9 at *
        exact bodyPost_ret (v := .tuple #[.agg #[.int .i64 (max a c), .int .i64 (min b d)], .bool true]) (by simp [results, Tryz.results74, go_sem, s0, s1]) rfl ⟨rfl, hB9⟩
      · rw [meetV_no (HM.out.trans (by rw [Bool.true_and, Bool.true_and]; exact decide_eq_false hlt))]
        have d1 : decide (min b d ≤ max a c) = true := decide_eq_true (by omega)
        clear HM
        go_enter Tryz.func74, Tryz.ntmps74
        go_wp2_with fail
        generalize ((((w.alloc (.cells #[.int .i64 a, .int .i64 b] 34)).alloc (.cells #[.int .i64 c, .int .i64 d] 34)).alloc (.cells #[.int .i64 0, .int .i64 0] 34)).alloc (.cells #[.int .i64 (max a c), .int .i64 (min b d)] 34)) = W4 at *
        go_wp2_with (first | (go_at_call 75; refine (HA.out W4).mono ?_; rintro e w5 ⟨rfl, hb5⟩; clear HA; have q0 := b0.below hb5 b0.lt; have q1 := b1.below hb5 b1.lt; have q2 := b2.below hb5 b2.lt; have q3 := b3.below hb5 b3.lt; have q0l := q0.lt; have q1l := q1.lt; have q2l := q2.lt; have q3l := q3.lt; have q00 := q0.cl 0 _ rfl; have q01 := q0.cl 1 _ rfl; have q10 := q1.cl 0 _ rfl; have q11 := q1.cl 1 _ rfl; have q20 := q2.cl 0 _ rfl; have q21 := q2.cl 1 _ rfl; have q30 := q3.cl 0 _ rfl; have q31 := q3.cl 1 _ rfl; have qf0 := q2.frozen 0; have qf1 := q2.frozen 1) | (go_at_call 75; refine (HB.out w5).mono ?_; rintro e w6 ⟨rfl, hb6⟩; clear HB; have hb6 := hb5.trans (hb6.mono hb5.size); have q0 := b0.below hb6 b0.lt; have q1 := b1.below hb6 b1.lt; have q2 := b2.below hb6 b2.lt; have q3 := b3.below hb6 b3.lt; have q0l := q0.lt; have q1l := q1.lt; have q2l := q2.lt; have q3l := q3.lt; have q00 := q0.cl 0 _ rfl; have q01 := q0.cl 1 _ rfl; have q10 := q1.cl 0 _ rfl; have q11 := q1.cl 1 _ rfl; have q20 := q2.cl 0 _ rfl; have q21 := q2.cl 1 _ rfl; have q30 := q3.cl 0 _ rfl; have q31 := q3.cl 1 _ rfl; have qf0 := q2.frozen 0; have qf1 := q2.frozen 1))
        obtain ⟨s0, s1⟩ := set2 q2 (.int .i64 0) (.int .i64 0)
        have hB9 : Below w.heap.size w ((w6.setCell ⟨w.heap.size + 1 + 1, 0, none⟩ (.int .i64 0)).setCell ⟨w.heap.size + 1 + 1, 1, none⟩ (.int .i64 0)) := ((hB.trans (hb6.mono hsz)).setCell (p := ⟨w.heap.size + 1 + 1, 0, none⟩) (by show w.heap.size ≤ w.heap.size + 1 + 1; omega) _).setCell (p := ⟨w.heap.size + 1 + 1, 1, none⟩) (by show w.heap.size ≤ w.heap.size + 1 + 1; omega) _
        generalize (w6.setCell ⟨w.heap.size + 1 + 1, 0, none⟩ (.int .i64 0)).setCell ⟨w.heap.size + 1 + 1, 1, none⟩ (.int .i64 0) = W9 at *
        exact bodyPost_ret (v := .tuple #[.agg #[.int .i64 0, .int .i64 0], .bool false]) (by simp [results, Tryz.results74, go_sem, s0, s1]) rfl ⟨rfl, hB9⟩

end Go.Proofs.YtdpkolnfbimheaaGreat

/- local.images. Printed by gen_locw11.py. -/
namespace Go.Proofs.YtdpkolnfbimheaaGreat
set_option linter.unusedSimpArgs false
set_option linter.unusedVariables false
open Go.RowKit Go.Shelf Go.ChangeShapes Go.WideShapes Go.ChangeAt
attribute [local go_sem] Oper.semAt_some

/-- forty years are mild -/
theorem mild40 {z : Zn} (hv : z.valid = true) (ht : z.table.length ≤ 300) (hl : z.tail.length ≤ 12) {a b : Int} (hb : b - a ≤ 1262500000) : Mild z (wideA a) (wideB b) := by
  refine ⟨hv, by unfold wideA; omega, by unfold wideB; omega, by unfold wideA wideB; omega, ?_⟩
  have := bet_count40 hv ht hl (a := wideA a) (b := wideB b) (by unfold wideA wideB; omega)
  omega

def imgW (p : Piece) : Spn := ⟨wrap64 (p.fr + p.off), wrap64 (p.to + p.off)⟩
def imW (ps : List Piece) : List Spn := ps.map imgW
theorem imW_len (ps : List Piece) : (imW ps).length ≤ ps.length := Nat.le_of_eq (List.length_map _)
theorem imW_snoc (ps : List Piece) (x : Piece) : imW (ps ++ [x]) = imW ps ++ [imgW x] := by unfold imW; simp
theorem imgW_F {ps : List Piece} {f b : Int} (h : Pcs ps f b) : imW ps = imgs ps := by
  unfold imgs imW
  refine List.map_congr_left fun p hp => ?_
  have h1 := (contig_bd h.ct).1 p hp
  have h2 := h.off p hp
  have := h.lo
  have := h.hi
  unfold imgW Piece.img
  rw [show wrap64 (p.fr + p.off) = p.fr + p.off by unfold wrap64; omega, show wrap64 (p.to + p.off) = p.to + p.off by unfold wrap64; omega]
/-- the loop of images -/
def ImI (Bo base : Nat) (pre : List Piece) (W : World) : Prop := BoxRow W Bo 46 34 2 base (imW pre).length ((imW pre).flatMap encN)
theorem imI_own (D Bo base : Nat) : OwnT 23 D (ImI Bo base) := boxRow_ownT _ _ (by decide) (by decide)
theorem info_span : (Tryz.prog.info? 34).map (fun i => (i.zero, i.size, i.bytes)) = some (some (.agg #[.int .i64 0, .int .i64 0]), 2, 16) := by kernel_rfl
set_option maxRecDepth 100000 in
set_option maxHeartbeats 4000000 in
theorem images_any (z : Zn) (vT vR : Value) (a b : Int) (w : World) (hm : HasMax w) (hT : Rd Trn.cells 4 w vT z.table) (hR : Rd Rule.cells 11 w vR z.tail) (hfs : z.form.size < 4294967281) (hll : z.tail.length ≤ 12) (hM : Mild z a b) (hP : Pcs (z.pieces a b) a b) :
    Calls Tryz.prog 71 #[z.v vT vR, .agg #[.int .i64 a, .int .i64 b]] w fun e w' => ∃ v, e = .returned v ∧ w'.ownsRow w.heap.size 34 2 v (imgs (z.pieces a b)).length ((imgs (z.pieces a b)).flatMap encN) ∧ Below w.heap.size w w' := by
  have HST := Lib.hid (fun Bi Bz W (hb : Below w.heap.size w W) hz hi => pieces_stops 4 (by omega) Bi Bz z vT vR a b W hM hll hfs (hm.on hb) (hT.on hb) (hR.on hb) hz hi)
  have HOK := Lib.hid (imgW_F hP)
  have HLN := Lib.hid (pieces_len hM)
  obtain ⟨AT, cT, rfl⟩ := rd_vf hT
  obtain ⟨AR, cR, rfl⟩ := rd_vf hR
  have HPC := Lib.hid (fun W => pieces_any z AT AR z.table.length z.tail.length cT cR a b W)
  unfold PcEnd at HPC
  clear hT hR hm hM hP
  unfold Zn.v at HPC ⊢
  refine (callsIn_wide (n := 5)).1 ?_
  refine callsIn_of_wp_marks Tryz.func71 rfl trivial ?_ rfl
  simp only [Tryz.ntmps71, List.size_toArray, List.length_cons, List.length_nil, Nat.reduceAdd, Nat.reduceSub, Array.replicate_succ, Array.replicate_zero, List.push_toArray, List.append_toArray, List.nil_append, List.cons_append]
  have b0 := Blk.new w #[.string z.nm, .int .i64 z.first.off, .int .i64 z.first.sv, .string z.first.nm, .slice AT z.table.length cT, .slice AR z.tail.length cR, .int .i64 z.off, .string z.form, .int .i64 z.year] 27
  have b1 := Blk.new (w.alloc (.cells #[.string z.nm, .int .i64 z.first.off, .int .i64 z.first.sv, .string z.first.nm, .slice AT z.table.length cT, .slice AR z.tail.length cR, .int .i64 z.off, .string z.form, .int .i64 z.year] 27)) #[.int .i64 a, .int .i64 b] 34
  have b2 := Blk.new ((w.alloc (.cells #[.string z.nm, .int .i64 z.first.off, .int .i64 z.first.sv, .string z.first.nm, .slice AT z.table.length cT, .slice AR z.tail.length cR, .int .i64 z.off, .string z.form, .int .i64 z.year] 27)).alloc (.cells #[.int .i64 a, .int .i64 b] 34)) #[.slice none 0 0] 46
  have hB2 : Below w.heap.size w (((w.alloc (.cells #[.string z.nm, .int .i64 z.first.off, .int .i64 z.first.sv, .string z.first.nm, .slice AT z.table.length cT, .slice AR z.tail.length cR, .int .i64 z.off, .string z.form, .int .i64 z.year] 27)).alloc (.cells #[.int .i64 a, .int .i64 b] 34)).alloc (.cells #[.slice none 0 0] 46)) := (((Below.refl _ _).alloc (Nat.le_refl _) _).alloc (by simp) _).alloc (by simp; omega) _
  have hsz2 : w.heap.size + 1 + 1 < (((w.alloc (.cells #[.string z.nm, .int .i64 z.first.off, .int .i64 z.first.sv, .string z.first.nm, .slice AT z.table.length cT, .slice AR z.tail.length cR, .int .i64 z.off, .string z.form, .int .i64 z.year] 27)).alloc (.cells #[.int .i64 a, .int .i64 b] 34)).alloc (.cells #[.slice none 0 0] 46)).heap.size := by simp
  simp only [World.size_alloc] at b1 b2
  have b0 := (b0.alloc (.cells #[.int .i64 a, .int .i64 b] 34)).alloc (.cells #[.slice none 0 0] 46)
  have b1 := b1.alloc (.cells #[.slice none 0 0] 46)
  gi_wp2_with fail
  generalize (((w.alloc (.cells #[.string z.nm, .int .i64 z.first.off, .int .i64 z.first.sv, .string z.first.nm, .slice AT z.table.length cT, .slice AR z.tail.length cR, .int .i64 z.off, .string z.form, .int .i64 z.year] 27)).alloc (.cells #[.int .i64 a, .int .i64 b] 34)).alloc (.cells #[.slice none 0 0] 46)) = W2 at *
  have z0 := b0.cl 0 _ rfl
  have z1 := b0.cl 1 _ rfl
  have z2 := b0.cl 2 _ rfl
  have z3 := b0.cl 3 _ rfl
  have z4 := b0.cl 4 _ rfl
  have z5 := b0.cl 5 _ rfl
  have z6 := b0.cl 6 _ rfl
  have z7 := b0.cl 7 _ rfl
  have z8 := b0.cl 8 _ rfl
  have i0 := b1.cl 0 _ rfl
  have i1 := b1.cl 1 _ rfl
  have hsz0 : w.heap.size < W2.heap.size := by omega
  gi_wp2_with (refine ⟨trivial, ?_⟩; gi_at_call 111; refine (callsIn_wide.2 (HPC.out W2)).mono ?_; rintro e w8 ⟨Bi, Bz, rfl, hzB, hiB, hBi0, K8⟩)
  have hB8 : Below w.heap.size w w8 := hB2.trans (K8.mono (Nat.le_of_lt hsz0))
  have c2 := b2.below K8 b2.lt
  have hs8 := K8.size
  have hBi1 := hiB.lt
  have hBi2 : w.heap.size + 1 + 1 < Bi := by omega
  have HSS := Lib.hid (HST.out Bi Bz w8 hB8 hzB hiB)
  clear z0 z1 z2 z3 z4 z5 z6 z7 z8 i0 i1 b0 b1 b2 HPC HST K8 hB2
  obtain ⟨i0, hi0, hz0, hz1, hz2⟩ := info_parts info_span
  refine wpIn_range_T (T := 23) rfl (by omega) (gf := 149) (lb := #[.pointer (some ⟨Bi, 0, none⟩), .pointer (some ⟨Bz, 0, none⟩)]) rfl trivial (enters_of Tryz.func149 (by kernel_rfl) rfl)
    HSS.out (fun h k => h.trans k) (fun W l o o' _ h hc => kpP_b W l o o' h hc) (Below.refl _ _) (fun _ => rfl)
    (fun pre W => ImI (w.heap.size + 1 + 1) w8.heap.size pre W ∧ Below w.heap.size w W ∧ w8.heap.size ≤ W.heap.size)
    (fun _ _ _ => False)
    (OwnT.and (imI_own _ _ _) (OwnT.and (ownT_below (by omega) (by omega)) (ownT_size _ _ _)))
    (fun _ => fun _ _ _ _ h _ _ => h)
    ⟨⟨_, c2, World.ownsRow_nil _ _ _ _⟩, hB8, Nat.le_refl _⟩
    (fun x a' W => ∃ Bx, w.heap.size + 1 + 1 < Bx ∧ Blk W Bx #[.int .i64 x.fr, .int .i64 x.to] 34 ∧ a' = { tmps := #[.agg #[.string z.nm, .int .i64 z.first.off, .int .i64 z.first.sv, .string z.first.nm, .slice AT z.table.length cT, .slice AR z.tail.length cR, .int .i64 z.off, .string z.form, .int .i64 z.year], .agg #[.int .i64 a, .int .i64 b], .pointer (some ⟨w.heap.size, 0, none⟩), .pointer (some ⟨w.heap.size + 1, 0, none⟩), .slice none 0 0, .pointer (some ⟨w.heap.size + 1 + 1, 0, none⟩), .pointer (some ⟨Bx, 0, none⟩), .int .i64 x.off, .agg #[.string z.nm, .int .i64 z.first.off, .int .i64 z.first.sv, .string z.first.nm, .slice AT z.table.length cT, .slice AR z.tail.length cR, .int .i64 z.off, .string z.form, .int .i64 z.year], .agg #[.int .i64 a, .int .i64 b], .func (.func 149) #[] #[.pointer (some ⟨Bi, 0, none⟩), .pointer (some ⟨Bz, 0, none⟩)], .agg #[.int .i64 x.fr, .int .i64 x.to], .int .i64 x.off, undef, undef, undef, undef, undef, undef, undef, undef, undef, undef, undef, undef, undef], defers := [] })
    (fun x a' => ownT_ex fun Bx => OwnT.and (ownT_pure _ _ _) (OwnT.and (blk_ownT _ (by decide)) (ownT_pure _ _ _))) ?assign ?body ?done ?stop
  case assign =>
    rintro l1 pre x W K ⟨hi, hb, hW8⟩ hK
    unfold encP
    gi_wp2
    exact hK _ _ ((KeepsOthers.alloc _ _).from _) ((KpP.refl _ _).alloc _) ⟨imI_own 0 _ _ pre W _ none hi (World.grownBy_alloc W _ none) (fun r e => by cases e), hb.alloc hb.size _, (by simp; omega)⟩ ⟨W.heap.size, (by omega), Blk.new W _ _, rfl⟩
  case body =>
    rintro l1 pre x a' W ⟨⟨v, hv, hr⟩, hb, hW8⟩ ⟨Bx, hBx, bX, rfl⟩ hlt
    obtain ⟨A, c, rfl⟩ := own_formN hr
    have x0 := bX.cl 0 _ rfl
    have x1 := bX.cl 1 _ rfl
    have v0 := hv.cl 0 _ rfl
    have vf := hv.frozen 0
    have hln := imW_len pre
    have hL := HLN.out
    have HSN := Lib.hid (imW_snoc pre x)
    gi_wp2_with (gi_at_builtin; go_loud (refine wpListIn_append_own _ rfl _ _ 46 rfl w8.heap.size 34 i0 _ 2 16 Tryz.underlying46 hi0 hz0 hz1 hz2 rfl (by decide) _ _ _ rfl (own_on hr ((Below.refl W.heap.size W).alloc (Nat.le_refl _) (.cells #[.int .i64 (wrap64 (x.fr + x.off)), .int .i64 (wrap64 (x.to + x.off))] 34))) ⟨W.heap.size, 0, none⟩ 1 1 [.int .i64 (wrap64 (x.fr + x.off)), .int .i64 (wrap64 (x.to + x.off))] rfl rfl (new_row W _ [.int .i64 (wrap64 (x.fr + x.off)), .int .i64 (wrap64 (x.to + x.off))]) (by simp [Value.oneCell']) (by simp only [maxLen]; omega) (by omega) (by simp; omega) ?_; intro v' w1 hown' hgrow _; obtain ⟨hv1, hv2, hr2, hk2, hp2, hb2⟩ := appended hv hr (by decide) (by decide) (by decide) (by decide) (by decide) (by omega) hBi1 (Nat.le_refl _) (by omega) (by omega) ((Below.refl W.heap.size W).alloc (Nat.le_refl _) _) hown' hgrow; obtain ⟨g', cap', rfl⟩ := ownsRow_succ hown'; have hc1 := hv1.cl 0 _ rfl; have hf1 := hv1.frozen 0))
    refine ⟨hk2.from _, hp2, ⟨_, hv2, ?_⟩, hb.trans (hb2.mono (by omega)), Nat.le_trans hW8 hb2.size⟩
    rw [HSN.out, List.length_append, List.flatMap_append]
    exact hr2
  case done =>
    rintro D ys W hD hys ⟨⟨v, hv, hr⟩, hb, _⟩ hK
    subst hys
    obtain ⟨A, c, rfl⟩ := own_formN hr
    have v0 := hv.cl 0 _ rfl
    have HR := Lib.hid (own_base (ownsRow_putObj hr (.deferred none) hK rfl) (show w.heap.size ≤ w8.heap.size by omega))
    rw [HOK.out] at HR v0
    gi_wp2
    refine ⟨by simp, .inl ⟨_, _, rfl, run_takeDeferred hK, ?_⟩⟩
    refine ⟨_, results_tmp rfl _ _ _, ?_⟩
    exact ⟨.slice A (imgs (z.pieces a b)).length c, rfl, HR.out, hb.trans (belowK_b (w := w8) (by omega) W D _ _ hD hK rfl rfl)⟩
  case stop =>
    rintro D c pre W hD _ h hK
    exact h.elim

end Go.Proofs.YtdpkolnfbimheaaGreat

/- runs.Valid, runs.search, runs.Has. -/
namespace Go.Proofs.YtdpkolnfbimheaaGreat
set_option linter.unusedSimpArgs false
set_option linter.unusedVariables false
open Go.ChangeShapes Go.WideShapes Go.ChangeAt Go.RowKit

/-- what runs.Valid looks at in one place -/
def runAt (l : List Spn) (k : Nat) : Bool := (l[k]!).ok && (decide (k = 0) || decide ((l[k - 1]!).to < (l[k]!).fr))
theorem runAt_all : ∀ {l : List Spn}, runsB l = true ↔ ∀ k, k < l.length → runAt l k = true
  | [] => ⟨fun _ k h => absurd h (Nat.not_lt_zero _), fun _ => rfl⟩
  | [s] => by
    constructor
    · intro h k hk
      obtain rfl : k = 0 := by simpa using hk
      unfold runAt
      rw [show runsB [s] = s.ok from rfl] at h
      simp [h]
    · intro h
      have h1 := h 0 (by simp)
      unfold runAt at h1
      rw [show runsB [s] = s.ok from rfl]
      simpa using h1
  | s :: t :: l => by
    have ih := runAt_all (l := t :: l)
    rw [runsB, Bool.and_eq_true, Bool.and_eq_true, decide_eq_true_eq, ih]
    constructor
    · rintro ⟨h1, h2, h3⟩ k hk
      match k with
      | 0 => unfold runAt; simp [h1]
      | 1 =>
        have := h3 0 (by simp)
        unfold runAt at this ⊢
        simp at this ⊢
        exact ⟨this, h2⟩
      | k + 2 =>
        have := h3 (k + 1) (by simpa using hk)
        unfold runAt at this ⊢
        simpa using this
    · intro h
      have h0 := h 0 (by simp)
      have h1 := h 1 (by simp)
      unfold runAt at h0 h1
      simp at h0 h1
      refine ⟨h0, h1.2, fun k hk => ?_⟩
      match k with
      | 0 => unfold runAt; simp [h1.1]
      | k + 1 =>
        have := h (k + 2) (by simpa using hk)
        unfold runAt at this ⊢
        simpa using this
theorem cell_alloc_lt {w W : World} {o : Obj} (h : w.alloc o = W) {g i : Nat} (hg : g < w.heap.size) : W.cell? ⟨g, i, none⟩ = w.cell? ⟨g, i, none⟩ := by
  subst h
  exact (alloc_below' w o).cell (p := ⟨g, i, none⟩) hg
def validR (l : List Spn) : Bool := decide (l.length ≤ 2000) && runsB l
theorem rd_at {w : World} {A : Option Addr} {n c : Nat} {l : List Spn} (h : Rd encN 2 w (.slice A n c) l) : n = l.length ∧ ((l = [] ) ∨ ∃ g o, A = some ⟨g, o, none⟩ ∧ g < w.heap.size ∧ ∀ k, k < l.length → w.cell? ⟨g, o + k * 2, none⟩ = some (.int .i64 (l[k]!).fr) ∧ w.cell? ⟨g, o + k * 2 + 1, none⟩ = some (.int .i64 (l[k]!).to)) := by
  rcases h with ⟨e, A', c', hv⟩ | ⟨g, o, c', hv, hg, hc⟩
  · injection hv with _ hn _
    subst e
    exact ⟨hn, .inl rfl⟩
  · injection hv with e1 hn _
    refine ⟨hn, .inr ⟨g, o, e1, hg, fun k hk => ⟨?_, ?_⟩⟩⟩
    · have := hc k hk 0 _ rfl
      rwa [Nat.add_zero] at this
    · exact hc k hk 1 _ rfl
set_option maxRecDepth 100000 in
set_option maxHeartbeats 4000000 in
theorem rValid_any (v : Value) (l : List Spn) (w : World) (h : Rd encN 2 w v l) : Calls Tryz.prog 33 #[v] w fun e w' => e = .returned (.bool (validR l)) ∧ Below w.heap.size w w' := by
  obtain ⟨A, c, rfl⟩ := rd_vf h
  unfold validR
  by_cases h2 : l.length ≤ 2000
  · rw [decide_eq_true h2, Bool.true_and]
    have HR := Lib.hid h
    clear h
    go_enter Tryz.func33, Tryz.ntmps33
    go_wp2
    go_loopw [10] (fun i wr => ∃ k : Nat, k ≤ l.length ∧ i = .int .i64 k ∧ (∀ j, j < k → runAt l j = true) ∧ Below w.heap.size w wr) (fun i _ => l.length - (intOf i).toNat)
    case atStart => exact ⟨0, Nat.zero_le _, rfl, fun j h => absurd h (Nat.not_lt_zero _), Below.refl _ _⟩
    case round =>
      obtain ⟨k, hk, rfl, hall, hbr⟩ := hrel
      by_cases hlt : k < l.length
      · obtain ⟨_, hl | ⟨g, o, rfl, hg, hc⟩⟩ := rd_at (HR.out.on hbr)
        · rw [hl] at hlt; exact absurd hlt (Nat.not_lt_zero _)
        · have ek := hc k hlt
          have e0 := ek.1
          have e1 := ek.2
          have HN := Lib.hid (fun h j (hj : j < k + 1) => show runAt l j = true from by
            rcases Nat.lt_or_eq_of_le (Nat.lt_succ_iff.1 hj) with h1 | h1
            · exact hall j h1
            · rw [h1]; exact h)
          have HF := Lib.hid (fun (h : runAt l k = false) => show runsB l = false from by
            cases hr : runsB l with
            | false => rfl
            | true => rw [runAt_all.1 hr k hlt] at h; cases h)
          have HE := Lib.hid (show runAt l k = ((l[k]!).ok && (decide (k = 0) || decide ((l[k - 1]!).to < (l[k]!).fr))) from rfl)
          have HV := Lib.hid (fun W => iv_any (l[k]!).fr (l[k]!).to W)
          rw [iv_ok l[k]!] at HV
          have bs := Blk.new wr #[.int .i64 (l[k]!).fr, .int .i64 (l[k]!).to] 34
          have hBA : Below w.heap.size w (wr.alloc (.cells #[.int .i64 (l[k]!).fr, .int .i64 (l[k]!).to] 34)) := hbr.alloc hbr.size _
          have hszw := hbr.size
          generalize hWA : wr.alloc (.cells #[.int .i64 (l[k]!).fr, .int .i64 (l[k]!).to] 34) = WA at *
          have hszA : wr.heap.size < WA.heap.size := by rw [← hWA]; simp
          have s0 : ∀ p : Bel WA.heap.size WA, p.w1.cell? ⟨wr.heap.size, 0, none⟩ = some (.int .i64 (l[k]!).fr) := fun p => (bel_cell p _ _ hszA).trans (bs.cl 0 _ rfl)
          have s1 : ∀ p : Bel WA.heap.size WA, p.w1.cell? ⟨wr.heap.size, 1, none⟩ = some (.int .i64 (l[k]!).to) := fun p => (bel_cell p _ _ hszA).trans (bs.cl 1 _ rfl)
          have HEND := Lib.hid (fun w3 (hb3 : Below WA.heap.size WA w3) => hBA.trans (hb3.mono hBA.size))
          by_cases hk0 : k = 0
          · have dk : ¬ 0 < k := by omega
            have dk1 : decide ((0 : Int) < (k : Int)) = false := decide_eq_false (by omega)
            rw [decide_eq_true hk0, Bool.true_or, Bool.and_true] at HE
            generalize (l[k]!).ok = ok at *
            generalize (l[k]!).fr = fr at *
            generalize (l[k]!).to = to at *
            clear hc ek hall hk0
            cases ok
            · go_wp2_with fail
              refine wp_region_bel (by kernel_rfl) (by kernel_rfl) ?_
              repeat (go_big_quiet_step ((go_at_call 75; exact bel_of (Nat.le_refl _) (HV.out _))))
              refine wpQuiet_nil ?_
              intro _ hw'
              obtain ⟨⟨w3, hb3⟩, hw''⟩ := hw'
              subst hw''
              have hB3 := HEND.out _ hb3
              clear s0 s1 hBA
              go_wp2
              go_ret
              rw [HF.out HE.out]
              exact ⟨rfl, hB3⟩
            · go_wp2_with fail
              refine wp_region_bel (by kernel_rfl) (by kernel_rfl) ?_
              repeat (go_big_quiet_step ((go_at_call 75; exact bel_of (Nat.le_refl _) (HV.out _))))
              refine wpQuiet_nil ?_
              intro _ hw'
              obtain ⟨⟨w3, hb3⟩, hw''⟩ := hw'
              subst hw''
              have hB3 := HEND.out _ hb3
              clear s0 s1 hBA
              go_wp2
              go_roundw
              case rel => exact ⟨k + 1, by omega, by go_num, HN.out HE.out, hB3⟩
              case measure => simp [intOf]; omega
          · obtain ⟨m, rfl⟩ : ∃ m, k = m + 1 := ⟨k - 1, by omega⟩
            have dk : 0 < m + 1 := by omega
            have dk1 : decide ((0 : Int) < ((m + 1 : Nat) : Int)) = true := decide_eq_true (by omega)
            have em := (hc m (by omega)).2
            rw [show m + 1 - 1 = m by omega, decide_eq_false (show ¬ (m + 1 = 0) by omega), Bool.false_or] at HE
            have s2 : ∀ p : Bel WA.heap.size WA, p.w1.cell? ⟨g, o + m * 2 + 1, none⟩ = some (.int .i64 (l[m]!).to) := fun p => (bel_cell p _ _ (by omega)).trans ((cell_alloc_lt hWA hg).trans em)
            have hwi : IntKind.i64.wrap (((m + 1 : Nat) : Int) - 1) = (m : Int) := by rw [IntKind.wrap_i64]; omega
            have hwj : ((m + 1 : Nat) : Int) - 1 = (m : Int) := by omega
            generalize (l[m + 1]!).ok = ok at *
            generalize (l[m + 1]!).fr = fr at *
            generalize (l[m + 1]!).to = to at *
            generalize (l[m]!).to = pt at *
            clear hc ek hall hk0
            cases ok
            · rw [Bool.false_and] at HE
              go_wp2_with fail
              refine wp_region_bel (by kernel_rfl) (by kernel_rfl) ?_
              repeat (go_big_quiet_step ((go_at_call 75; exact bel_of (Nat.le_refl _) (HV.out _))))
              refine wpQuiet_nil ?_
              intro _ hw'
              obtain ⟨⟨w3, hb3⟩, hw''⟩ := hw'
              subst hw''
              have hB3 := HEND.out _ hb3
              clear s0 s1 hBA
              go_wp2
              go_ret
              rw [HF.out HE.out]
              exact ⟨rfl, hB3⟩
            · rw [Bool.true_and] at HE
              by_cases hpt : pt < fr
              · rw [decide_eq_true hpt] at HE
                have d2 : decide (fr ≤ pt) = false := decide_eq_false (by omega)
                go_wp2_with fail
                refine wp_region_bel (by kernel_rfl) (by kernel_rfl) ?_
                repeat (go_big_quiet_step ((go_at_call 75; exact bel_of (Nat.le_refl _) (HV.out _))))
                refine wpQuiet_nil ?_
                intro _ hw'
                obtain ⟨⟨w3, hb3⟩, hw''⟩ := hw'
                subst hw''
                have hB3 := HEND.out _ hb3
                clear s0 s1 hBA
                go_wp2
                go_roundw
                case rel => exact ⟨m + 1 + 1, by omega, by go_num, HN.out HE.out, hB3⟩
                case measure => simp [intOf]; omega
              · rw [decide_eq_false hpt] at HE
                have d2 : decide (fr ≤ pt) = true := decide_eq_true (by omega)
                go_wp2_with fail
                refine wp_region_bel (by kernel_rfl) (by kernel_rfl) ?_
                repeat (go_big_quiet_step ((go_at_call 75; exact bel_of (Nat.le_refl _) (HV.out _))))
                refine wpQuiet_nil ?_
                intro _ hw'
                obtain ⟨⟨w3, hb3⟩, hw''⟩ := hw'
                subst hw''
                have hB3 := HEND.out _ hb3
                clear s0 s1 hBA
                go_wp2
                go_ret
                rw [HF.out HE.out]
                exact ⟨rfl, hB3⟩
      · obtain rfl : k = l.length := by omega
        have HT := Lib.hid (runAt_all.2 hall)
        go_wp2
        go_ret
        rw [HT.out]
        exact ⟨rfl, hbr⟩
  · rw [decide_eq_false h2, Bool.false_and]
    have hd : decide ((2000 : Int) < (l.length : Int)) = true := decide_eq_true (by omega)
    go_enter Tryz.func33, Tryz.ntmps33
    go_wp2
    go_ret
    exact ⟨rfl, Below.refl _ _⟩

/-- where the first run stands that ends behind x -/
structure Idx (l : List Spn) (x : Int) (i : Nat) : Prop where
  le : i ≤ l.length
  lo : ∀ j, j < i → (l[j]!).to ≤ x
  hi : ∀ j, i ≤ j → j < l.length → x < (l[j]!).to
theorem scmp_any (s : Spn) (x : Int) (w : World) : Calls Tryz.prog 119 #[.agg #[.int .i64 s.fr, .int .i64 s.to], .int .i64 x] w fun e w' => e = .returned (.int .i64 (if s.to ≤ x then -1 else 1)) ∧ Below w.heap.size w w' := by
  have hB : Below w.heap.size w (w.alloc (.cells #[.int .i64 s.fr, .int .i64 s.to] 34)) := (Below.refl _ _).alloc (Nat.le_refl _) _
  by_cases h : s.to ≤ x
  · rw [if_pos h]
    go_enter Tryz.func119, Tryz.ntmps119
    go_wp2
    go_ret
    exact ⟨rfl, hB⟩
  · rw [if_neg h]
    go_enter Tryz.func119, Tryz.ntmps119
    go_wp2
    go_ret
    exact ⟨rfl, hB⟩
set_option maxRecDepth 100000 in
set_option maxHeartbeats 4000000 in
theorem bsearch_any (l : List Spn) (x : Int) (g o c : Nat) (w : World) (hl : l.length ≤ 2000) (hA : l.Pairwise (fun s t => s.to < t.to)) (hg : g < w.heap.size)
    (hc : ∀ k, k < l.length → w.cell? ⟨g, o + k * 2, none⟩ = some (.int .i64 (l[k]!).fr) ∧ w.cell? ⟨g, o + k * 2 + 1, none⟩ = some (.int .i64 (l[k]!).to)) :
    Calls Tryz.prog 118 #[.slice (some ⟨g, o, none⟩) l.length c, .int .i64 x, .func (.func 119) #[] #[]] w fun e w' => ∃ i b, e = .returned (.tuple #[.int .i64 (i : Nat), .bool b]) ∧ Idx l x i ∧ Below w.heap.size w w' := by
  have HC := Lib.hid hc
  have HAS := Lib.hid hA
  clear hc hA
  go_enter Tryz.func118, Tryz.ntmps118
  go_wp2
  go_loopw [9, 10] (fun vi vj wr => ∃ i j : Nat, vi = .int .i64 i ∧ vj = .int .i64 j ∧ i ≤ j ∧ j ≤ l.length ∧ (∀ t, t < i → (l[t]!).to ≤ x) ∧ (∀ t, j ≤ t → t < l.length → x < (l[t]!).to) ∧ Below w.heap.size w wr) (fun vi vj _ => (intOf vj).toNat - (intOf vi).toNat)
  case atStart => exact ⟨0, l.length, rfl, rfl, Nat.zero_le _, Nat.le_refl _, fun t h => absurd h (Nat.not_lt_zero _), fun t h1 h2 => by omega, Below.refl _ _⟩
  case round =>
    obtain ⟨i, j, rfl, rfl, hij, hj, hlo, hhi, hbr⟩ := hrel
    have hszr := hbr.size
    have hcr : ∀ k, k < l.length → wr.cell? ⟨g, o + k * 2, none⟩ = some (.int .i64 (l[k]!).fr) ∧ wr.cell? ⟨g, o + k * 2 + 1, none⟩ = some (.int .i64 (l[k]!).to) := fun k hk => ⟨(hbr.cell (p := ⟨g, o + k * 2, none⟩) hg).trans (HC.out k hk).1, (hbr.cell (p := ⟨g, o + k * 2 + 1, none⟩) hg).trans (HC.out k hk).2⟩
    by_cases hlt : i < j
    · have hh1 : i ≤ (i + j) / 2 := by omega
      have hh2 : (i + j) / 2 < j := by omega
      have hh3 : (i + j) / 2 < l.length := by omega
      obtain ⟨e0, e1⟩ := hcr _ hh3
      have HS := Lib.hid (fun W => scmp_any l[(i + j) / 2]! x W)
      have hmono : ∀ s t, s < t → t < l.length → (l[s]!).to < (l[t]!).to := fun s t hst ht => by
        have := List.pairwise_iff_getElem.1 HAS.out s t (by omega) ht hst
        rwa [getElem!_pos l s (by omega), getElem!_pos l t ht]
      have HLO := Lib.hid (fun (h : (l[(i + j) / 2]!).to ≤ x) t (ht : t < (i + j) / 2 + 1) => show (l[t]!).to ≤ x from by
        rcases Nat.lt_or_eq_of_le (Nat.lt_succ_iff.1 ht) with h1 | h1
        · have := hmono t _ h1 hh3; omega
        · rw [h1]; exact h)
      have HHI := Lib.hid (fun (h : ¬ (l[(i + j) / 2]!).to ≤ x) t (h1 : (i + j) / 2 ≤ t) (h2 : t < l.length) => show x < (l[t]!).to from by
        rcases Nat.lt_or_eq_of_le h1 with h3 | h3
        · have := hmono _ t h3 h2; omega
        · rw [← h3]; omega)
      have HL := Lib.hid hlo
      have HH := Lib.hid hhi
      generalize (l[(i + j) / 2]!).fr = fr at *
      generalize (l[(i + j) / 2]!).to = to at *
      clear hcr hmono hlo hhi
      by_cases hto : to ≤ x
      · rw [if_pos hto] at HS
        go_wp2_with (go_at_call 119; refine (HS.out _).mono ?_; rintro e w3 ⟨rfl, hb3⟩)
        go_roundw
        case rel => exact ⟨(i + j) / 2 + 1, j, by go_num, rfl, by omega, hj, HLO.out hto, HH.out, hbr.trans (hb3.mono hszr)⟩
        case measure => simp [intOf]; omega
      · rw [if_neg hto] at HS
        go_wp2_with (go_at_call 119; refine (HS.out _).mono ?_; rintro e w3 ⟨rfl, hb3⟩)
        go_roundw
        case rel => exact ⟨i, (i + j) / 2, rfl, by go_num, by omega, by omega, HL.out, HHI.out hto, hbr.trans (hb3.mono hszr)⟩
        case measure => simp [intOf]; omega
    · obtain rfl : i = j := by omega
      have HI := Lib.hid (show Idx l x i from ⟨hj, hlo, hhi⟩)
      by_cases hn : i < l.length
      · obtain ⟨e0, e1⟩ := hcr _ hn
        have hx := hhi i (Nat.le_refl _) hn
        have HS := Lib.hid (fun W => scmp_any l[i]! x W)
        rw [if_neg (by omega)] at HS
        generalize (l[i]!).fr = fr at *
        generalize (l[i]!).to = to at *
        clear hcr hlo hhi
        go_wp2_with (go_at_call 119; refine (HS.out _).mono ?_; rintro e w3 ⟨rfl, hb3⟩)
        go_ret2
        exact ⟨i, false, rfl, HI.out, hbr.trans (hb3.mono hszr)⟩
      · clear hcr hlo hhi
        go_wp2
        go_ret2
        exact ⟨i, false, rfl, HI.out, hbr⟩

theorem bsearch_nil (x : Int) (A : Option Addr) (c : Nat) (w : World) : Calls Tryz.prog 118 #[.slice A 0 c, .int .i64 x, .func (.func 119) #[] #[]] w fun e w' => e = .returned (.tuple #[.int .i64 0, .bool false]) ∧ Below w.heap.size w w' := by
  go_enter Tryz.func118, Tryz.ntmps118
  go_wp2
  refine wp_loop_rounds 1 ?_
  rw [rounds_succ]
  go_wp2
  go_ret2
  exact ⟨rfl, Below.refl _ _⟩
def SearchEnd (l : List Spn) (x : Int) (w : World) (e : Ending) (w' : World) : Prop := ∃ i : Nat, e = .returned (.int .i64 i) ∧ Idx l x i ∧ Below w.heap.size w w'
theorem search_runs (l : List Spn) (x : Int) (v : Value) (w : World) (h : Rd encN 2 w v l) (hl : l.length ≤ 2000) (hA : l.Pairwise (fun s t => s.to < t.to)) : Calls Tryz.prog 76 #[v, .int .i64 x] w (SearchEnd l x w) := by
  obtain ⟨A, c, rfl⟩ := rd_vf h
  unfold SearchEnd
  obtain ⟨_, rfl | ⟨g, o, rfl, hg, hc⟩⟩ := rd_at h
  · go_enter Tryz.func76, Tryz.ntmps76
    go_wp2_with (go_at_call 118; refine (bsearch_nil x A c w).mono ?_; rintro e w1 ⟨rfl, hb1⟩)
    go_ret
    exact ⟨0, rfl, ⟨Nat.le_refl _, fun j h => absurd h (Nat.not_lt_zero _), fun j _ h => absurd h (Nat.not_lt_zero _)⟩, hb1⟩
  · have HB := Lib.hid (bsearch_any l x g o c w hl hA hg hc)
    clear hc h hA
    go_enter Tryz.func76, Tryz.ntmps76
    go_wp2_with (go_at_call 118; refine HB.out.mono ?_; rintro e w1 ⟨i, b, rfl, hi, hb1⟩)
    go_ret
    exact ⟨i, rfl, hi, hb1⟩
def hasB (l : List Spn) (x : Int) : Bool := validR l && l.any fun s => decide (s.fr ≤ x) && decide (x < s.to)
theorem any_has (l : List Spn) (x : Int) : (l.any fun s => decide (s.fr ≤ x) && decide (x < s.to)) = true ↔ hasL l x := by
  unfold hasL Spn.has
  simp
theorem hasB_iff {l : List Spn} (h : validR l = true) (x : Int) : hasB l x = true ↔ hasL l x := by
  unfold hasB
  rw [h, Bool.true_and, any_has]
theorem idx_has {l : List Spn} {x : Int} {i : Nat} (hi : Idx l x i) (hA : Canon l) : hasL l x ↔ i < l.length ∧ (l[i]!).fr ≤ x := by
  constructor
  · rintro ⟨s, hs, h1, h2⟩
    obtain ⟨k, hk, rfl⟩ := List.getElem_of_mem hs
    have e : l[k] = l[k]! := (getElem!_pos l k hk).symm
    rw [e] at h1 h2
    have h3 : i ≤ k := Nat.not_lt.1 fun h => by have := hi.lo k h; omega
    rcases Nat.lt_or_eq_of_le h3 with h4 | h4
    · have h5 := List.pairwise_iff_getElem.1 hA.asc i k (by omega) hk h4
      rw [← getElem!_pos l i (by omega), e] at h5
      have := hi.hi i (Nat.le_refl _) (by omega)
      omega
    · rw [h4]; exact ⟨hk, h1⟩
  · rintro ⟨h1, h2⟩
    exact ⟨l[i]!, by rw [getElem!_pos l i h1]; exact List.getElem_mem h1, h2, hi.hi i (Nat.le_refl _) h1⟩
theorem canon_to_asc {l : List Spn} (h : Canon l) : l.Pairwise (fun s t => s.to < t.to) := List.pairwise_iff_getElem.2 fun i j hi hj hij => by
  have h1 := List.pairwise_iff_getElem.1 h.asc i j hi hj hij
  have h2 := h.ne _ (List.getElem_mem hj)
  omega
theorem validR_parts {l : List Spn} (h : validR l = true) : l.length ≤ 2000 ∧ Canon l ∧ ∀ s ∈ l, s.ok = true := by
  unfold validR at h
  rw [Bool.and_eq_true, decide_eq_true_eq] at h
  exact ⟨h.1, runsB_canon h.2⟩
set_option maxRecDepth 100000 in
set_option maxHeartbeats 4000000 in
theorem Has_any (l : List Spn) (x : Int) (v : Value) (w : World) (h : Rd encN 2 w v l) : Calls Tryz.prog 34 #[v, .int .i64 x] w fun e w' => e = .returned (.bool (hasB l x)) ∧ Below w.heap.size w w' := by
  have HV := Lib.hid (rValid_any v l w h)
  have HR := Lib.hid h
  obtain ⟨A, c, rfl⟩ := rd_vf h
  clear h
  cases hv : validR l
  · rw [hv] at HV
    have hb : hasB l x = false := by unfold hasB; rw [hv]; rfl
    rw [hb]
    clear hb
    go_enter Tryz.func34, Tryz.ntmps34
    go_wp2_with (go_at_call 33; refine HV.out.mono ?_; rintro e w1 ⟨rfl, hb1⟩)
    go_ret
    exact ⟨rfl, hb1⟩
  · obtain ⟨h1, h2, h3⟩ := validR_parts hv
    rw [hv] at HV
    have HS := Lib.hid (fun W (hb : Below w.heap.size w W) => search_runs l x (.slice A l.length c) W (HR.out.on hb) h1 (canon_to_asc h2))
    have HI := Lib.hid (fun i (hi : Idx l x i) => (hasB_iff hv x).trans (idx_has hi h2))
    have HC := Lib.hid (rd_at HR.out).2
    unfold SearchEnd at HS
    clear hv h2 h3
    go_enter Tryz.func34, Tryz.ntmps34
    go_wp2_with (go_at_call 33; refine HV.out.mono ?_; rintro e w1 ⟨rfl, hb1⟩; clear HV)
    refine (HS.out w1 hb1).mono ?_
    rintro e w2 ⟨i, rfl, hi, hb2⟩
    have hb2 := hb1.trans (hb2.mono hb1.size)
    have HIX := Lib.hid (HI.out i hi)
    clear HS HI hi
    by_cases hil : i < l.length
    · rcases HC.out with rfl | ⟨g, o, rfl, hg, hc⟩
      · exact absurd hil (Nat.not_lt_zero _)
      · have e0 := (hb2.cell (p := ⟨g, o + i * 2, none⟩) hg).trans (hc i hil).1
        obtain ⟨fr, hfr⟩ : ∃ fr, (l[i]!).fr = fr := ⟨_, rfl⟩
        rw [hfr] at e0 HIX
        clear hc hfr HC HR
        by_cases hf : fr ≤ x
        · have hb : hasB l x = true := HIX.out.2 ⟨hil, hf⟩
          have HB := Lib.hid hb
          clear hb HIX
          go_wp2
          go_ret
          rw [HB.out]
          exact ⟨ret1 (vbool (by simp [hf])), hb2⟩
        · have hb : hasB l x = false := by
            cases hh : hasB l x with
            | false => rfl
            | true => exact absurd (HIX.out.1 hh).2 hf
          have HB := Lib.hid hb
          clear hb HIX
          go_wp2
          go_ret
          rw [HB.out]
          exact ⟨ret1 (vbool (by simp [hf])), hb2⟩
    · have hb : hasB l x = false := by
        cases hh : hasB l x with
        | false => rfl
        | true => exact absurd (HIX.out.1 hh).1 hil
      have HB := Lib.hid hb
      clear hb HIX HC HR
      go_wp2
      go_ret
      rw [HB.out]
      exact ⟨rfl, hb2⟩

end Go.Proofs.YtdpkolnfbimheaaGreat

/- version.span, the closure of version.Instants. -/
import Derived.Test.YtoonaidpmahgcaaGreatJVerW1
import Derived.Test.YtoonaidpmahgcaaGreatJVerP2
import Derived.Test.YtoonaidpmahgcaaGreatGZn
import Derived.Test.YtoonaidpmahgcaaGreatGRn
namespace Go.Proofs.YtoonaidpmahgcaaGreat
set_option linter.unusedSimpArgs false
set_option linter.unusedVariables false
open Go.ChangeShapes Go.WideShapes Go.ChangeAt Go.RowKit

def spanV (a b : Int) : Bool := decide (-62135596800 ≤ a) && (decide (a < b) && decide (b ≤ 253402300800))
theorem vspan_any (a b : Int) (w : World) : Calls Tryz.prog 56 #[.agg #[.int .i64 a, .int .i64 b]] w fun e w' => e = .returned (.bool (spanV a b)) ∧ Below w.heap.size w w' := by
  have HBZ := Lib.hid (show Below w.heap.size w (w.alloc (.cells #[.int .i64 a, .int .i64 b] 29)) from (Below.refl _ _).alloc (Nat.le_refl _) _)
  unfold spanV
  by_cases h1 : -62135596800 ≤ a
  · rw [decide_eq_true h1, Bool.true_and]
    by_cases h2 : a < b
    · rw [decide_eq_true h2, Bool.true_and]
      go_enter Tryz.func56, Tryz.ntmps56
      go_wp2
      go_ret
      exact ⟨rfl, HBZ.out⟩
    · rw [decide_eq_false h2, Bool.false_and]
      go_enter Tryz.func56, Tryz.ntmps56
      go_wp2
      go_ret
      exact ⟨ret1 (vbool (by simp)), HBZ.out⟩
  · rw [decide_eq_false h1, Bool.false_and]
    go_enter Tryz.func56, Tryz.ntmps56
    go_wp2
    go_ret
    exact ⟨ret1 (vbool (by simp)), HBZ.out⟩

set_option maxRecDepth 100000 in
set_option maxHeartbeats 8000000 in
theorem ins1_any (z q : Zn) (vTz vRz vTq vRq : Value) (pa pb o : Nat) (we w0 w : World) (L : List Spn) (s : Spn) (hz : z.valid = true) (hq : q.valid = true) (hs : -62135596800 ≤ s.fr ∧ s.fr < 253402300800) (hm : HasMax we)
    (hTz : Rd Trn.cells 4 we vTz z.table) (hRz : Rd Rule.cells 11 we vRz z.tail) (hTq : Rd Trn.cells 4 we vTq q.table) (hRq : Rd Rule.cells 11 we vRq q.tail) (hfz : z.form.size < 4294967281) (hfq : q.form.size < 4294967281) (hlz : z.tail.length ≤ 12) (hlq : q.tail.length ≤ 12)
    (hbe : Below we.heap.size we w0) (hBo : we.heap.size ≤ o) (ha : Blk w0 pa (z.cellsZ vTz vRz).toArray 27) (hb : Blk w0 pb (q.cellsZ vTq vRq).toArray 27) (hao : pa ≠ o) (hbo : pb ≠ o) (hlen : L.length ≤ 6000) (hP : OutP o w0 L w) :
    Calls Tryz.prog 59 #[.agg #[.int .i64 s.fr, .int .i64 s.to], .pointer (some ⟨pa, 0, none⟩), .pointer (some ⟨pb, 0, none⟩), .pointer (some ⟨o, 0, none⟩)] w fun e w' => e = .returned (.tuple #[]) ∧ OutP o w0 (L ++ typB2 z q s) w' := by
  have hbw : Below we.heap.size we w := hbe.trans (hP.old hBo)
  have HA := Lib.hid (fun W (hb : Below w.heap.size w W) => show Calls Tryz.prog 25 #[z.v vTz vRz, .int .i64 s.fr] W fun e w' => e = .returned (atR (z.typF s.fr, 0)) ∧ Below W.heap.size W w' from by
    have hb2 := hbw.trans (hb.mono hbw.size)
    have h := zAt_any z vTz vRz s.fr W (hm.on hb2) (hTz.on hb2) (hRz.on hb2) hfz (.inl hlz)
    rwa [show z.atV s.fr = (z.typF s.fr, 0) from by unfold Zn.atV inT; rw [if_neg (by simp [hz]), if_neg (by simp; omega)]] at h)
  have HB := Lib.hid (fun W (hb : Below w.heap.size w W) => show Calls Tryz.prog 25 #[q.v vTq vRq, .int .i64 s.fr] W fun e w' => e = .returned (atR (q.typF s.fr, 0)) ∧ Below W.heap.size W w' from by
    have hb2 := hbw.trans (hb.mono hbw.size)
    have h := zAt_any q vTq vRq s.fr W (hm.on hb2) (hTq.on hb2) (hRq.on hb2) hfq (.inl hlq)
    rwa [show q.atV s.fr = (q.typF s.fr, 0) from by unfold Zn.atV inT; rw [if_neg (by simp [hq]), if_neg (by simp; omega)]] at h)
  obtain ⟨AT, cT, rfl⟩ := rd_vf hTz
  obtain ⟨AR, cR, rfl⟩ := rd_vf hRz
  obtain ⟨AU, cU, rfl⟩ := rd_vf hTq
  obtain ⟨AS, cS, rfl⟩ := rd_vf hRq
  have HP := Lib.hid hP
  obtain ⟨hg, ho, u, hbox, hown, _⟩ := hP
  have ka := ha.kept hg (by simpa using hao)
  have kb := hb.kept hg (by simpa using hbo)
  unfold Zn.cellsZ at ka kb
  clear hTz hRz hTq hRq hm hbe ha hb
  have HADD := Lib.hid (fun wa w1 v' (hA : Below w.heap.size w wa) hown' (hgr : wa.grownBy w1 u.ownBlock) => OutP.add (s := s) (v' := v') hg ho hbox hown hA hown' hgr)
  have HOWN := Lib.hid hown
  have HBX := Lib.hid hbox
  have hNS := noSpot_own hown
  clear hg ho hown
  unfold typB2
  unfold Zn.v at HA HB
  unfold atR Typ.val at HA HB
  dsimp only at HA HB
  generalize z.typF s.fr = X at *
  generalize q.typF s.fr = Y at *
  have b0 := Blk.new w #[.int .i64 s.fr, .int .i64 s.to] 29
  have hB0 : Below w.heap.size w (w.alloc (.cells #[.int .i64 s.fr, .int .i64 s.to] 29)) := (Below.refl _ _).alloc (Nat.le_refl _) _
  have ka := ka.alloc (.cells #[.int .i64 s.fr, .int .i64 s.to] 29)
  have kb := kb.alloc (.cells #[.int .i64 s.fr, .int .i64 s.to] 29)
  have Lz := ka.lt
  have z0 := blk_cl ka 0 _ rfl
  have z1 := blk_cl ka 1 _ rfl
  have z2 := blk_cl ka 2 _ rfl
  have z3 := blk_cl ka 3 _ rfl
  have z4 := blk_cl ka 4 _ rfl
  have z5 := blk_cl ka 5 _ rfl
  have z6 := blk_cl ka 6 _ rfl
  have z7 := blk_cl ka 7 _ rfl
  have z8 := blk_cl ka 8 _ rfl
  go_enter Tryz.func59, Tryz.ntmps59
  go_wp2_with fail
  generalize w.alloc (.cells #[.int .i64 s.fr, .int .i64 s.to] 29) = W at *
  refine (HA.out W hB0).mono ?_
  rintro e w1 ⟨rfl, hb1⟩
  clear HA
  clear Lz z0 z1 z2 z3 z4 z5 z6 z7 z8
  have k0 := b0.below hb1 b0.lt
  have s0 := k0.cell 0 (v := .int .i64 s.fr) rfl
  have sl := k0.lt
  have kb1 := kb.below hb1 kb.lt
  have bx := Blk.new w1 #[.int .i64 X.off, .int .i64 X.sv, .string X.nm] 23
  have hBx := (hB0.trans (hb1.mono hB0.size)).alloc (Nat.le_trans hB0.size hb1.size) (.cells #[.int .i64 X.off, .int .i64 X.sv, .string X.nm] 23)
  have Lq := kb1.lt
  have q0 := blk_cl kb1 0 _ rfl
  have q1 := blk_cl kb1 1 _ rfl
  have q2 := blk_cl kb1 2 _ rfl
  have q3 := blk_cl kb1 3 _ rfl
  have q4 := blk_cl kb1 4 _ rfl
  have q5 := blk_cl kb1 5 _ rfl
  have q6 := blk_cl kb1 6 _ rfl
  have q7 := blk_cl kb1 7 _ rfl
  have q8 := blk_cl kb1 8 _ rfl
  go_wp2_with fail
  have k0x := k0.alloc (.cells #[.int .i64 X.off, .int .i64 X.sv, .string X.nm] 23)
  generalize w1.alloc (.cells #[.int .i64 X.off, .int .i64 X.sv, .string X.nm] 23) = wx at *
  refine (HB.out wx hBx).mono ?_
  rintro e w2 ⟨rfl, hb2⟩
  clear HB
  clear Lq q0 q1 q2 q3 q4 q5 q6 q7 q8 s0 sl
  have kx := bx.below hb2 bx.lt
  have x0 := blk_cl kx 0 _ rfl
  have x1 := blk_cl kx 1 _ rfl
  have x2 := blk_cl kx 2 _ rfl
  have xl := kx.lt
  have ks := k0x.below hb2 k0x.lt
  have s0 := ks.cell 0 (v := .int .i64 s.fr) rfl
  have s1 := ks.cell 1 (v := .int .i64 s.to) rfl
  have sl := ks.lt
  have hB2 := hBx.trans (hb2.mono hBx.size)
  have bo := HBX.out.kept (below_grown (row := none) hB2) (by simp)
  have o0 := bo.cell
  have ol := bo.lt
  have hne := fun W => neTy X Y W
  have HO2 := Lib.hid (own_on HOWN.out hB2)
  obtain ⟨i0, hi0, hz0, hz1, hz2⟩ := info_parts info_span
  have hB2y : Below w.heap.size w (w2.alloc (.cells #[.int .i64 Y.off, .int .i64 Y.sv, .string Y.nm] 23)) := hB2.alloc hB2.size _
  clear kx ks bo bx b0 ka kb k0 kb1 k0x hb1 hb2 hB0 hBx
  by_cases hxy : X = Y
  · have dxy : decide (X = Y) = true := decide_eq_true hxy
    go_wp2
    go_end0
    first
      | exact ⟨rfl, HP.out.below hB2y⟩
      | (refine ⟨rfl, ?_⟩; rw [if_neg (fun h => h hxy), List.append_nil]; exact HP.out.below hB2y)
  · have dxy : decide (X = Y) = false := decide_eq_false hxy
    have hw0 := HP.out.1.size
    go_wp2_with (at_builtin; go_loud (refine wpList_append_own_at _ rfl _ _ 33 rfl w0.heap.size 29 i0 _ 2 16 Tryz.underlying33 hi0 hz0 hz1 hz2 rfl (by decide) _ _ _ rfl ((HO2.out.alloc _).alloc _) ⟨_, 0, none⟩ 1 1 (encN s) rfl rfl (new_row_at (by simp) _) (encN_one s) (by simp only [maxLen]; omega) (by omega) (by have := hB2y.size; simp at *; omega) ?_); intro v' wz hown' hgr _ _; obtain ⟨hbz, hOut⟩ := HADD.out _ wz v' (hB2y.alloc hB2y.size _) hown' hgr; obtain ⟨g', cap', rfl⟩ := ownsRow_succ hown'; have oz := hbz.cell; have of := hbz.frozen)
    go_end0
    first
      | exact ⟨rfl, hOut⟩
      | (refine ⟨rfl, ?_⟩; rw [if_pos hxy]; exact hOut)

end Go.Proofs.YtoonaidpmahgcaaGreat

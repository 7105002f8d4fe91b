/- The closure of version.Locals. Printed by gen_loc1.py. -/
import Derived.Test.YtdafcipilknecaaGreatDoorGVs
import Derived.Test.YtdafcipilknecaaGreatDoorGVx
import Derived.Test.YtdafcipilknecaaGreatDoorJLocW10
import Derived.IntWalk
import Derived.Maps.RangeWalk
namespace Go.Proofs.YtdafcipilknecaaGreatDoor
set_option linter.unusedSimpArgs false
set_option linter.unusedVariables false
open Go.ChangeShapes Go.WideShapes Go.ChangeAt Go.RowKit
def partV (m e n e2 i k fr to : Int) : List Spn :=
 if e ≠ e2 then [⟨fr, to⟩]
 else if e ≠ 0 then []
 else if i - m = k - n then (if m ≠ n then [⟨fr, to⟩] else [])
 else
  let x := if i - m = to - 1 - fr then fr + n - m else fr + m - n
  if x < fr ∨ to ≤ x then [⟨fr, to⟩]
  else (if fr < x then [⟨fr, x⟩] else []) ++ (if x + 1 < to then [⟨x + 1, to⟩] else [])
theorem partF_eq (r q : Int → Int × Int) (s : Spn) : partF r q s = partV (r s.fr).1 (r s.fr).2 (q s.fr).1 (q s.fr).2 (r (s.to - 1)).1 (q (s.to - 1)).1 s.fr s.to := rfl
theorem partV_ne {m e n e2 i k fr to : Int} (h : e ≠ e2) : partV m e n e2 i k fr to = [⟨fr, to⟩] := if_pos h
theorem partV_err {m e n i k fr to : Int} (h : e ≠ 0) : partV m e n e i k fr to = [] := by
 unfold partV
 rw [if_neg (fun h => h rfl), if_pos h]
theorem partV_same {m n i k fr to : Int} (h : i - m = k - n) (h2 : m = n) : partV m 0 n 0 i k fr to = [] := by
 unfold partV
 rw [if_neg (fun h => h rfl), if_neg (fun h => h rfl), if_pos h, if_neg (fun h => h h2)]
theorem partV_cut {m n i k fr to x : Int} (h : ¬ i - m = k - n) (hx : (if i - m = to - 1 - fr then fr + n - m else fr + m - n) = x) : partV m 0 n 0 i k fr to = if x < fr ∨ to ≤ x then [⟨fr, to⟩] else (if fr < x then [⟨fr, x⟩] else []) ++ (if x + 1 < to then [⟨x + 1, to⟩] else []) := by
 unfold partV
 rw [if_neg (fun h => h rfl), if_neg (fun h => h rfl), if_neg h]
 simp only [hx]
theorem partV_par {m n i k fr to : Int} (h : i - m = k - n) (h2 : m ≠ n) : partV m 0 n 0 i k fr to = [⟨fr, to⟩] := by
 unfold partV
 rw [if_neg (fun h => h rfl), if_neg (fun h => h rfl), if_pos h, if_pos h2]
def PartRel (o : Nat) (w0 : World) (L : List Spn) (s : Spn) (x : Int) (B4 : Nat) (wa : World) (j : Nat) (wr : World) : Prop :=
 (j = 0 ∧ wr = wa) ∨ (j = 1 ∧ OutP o w0 (L ++ (if s.fr < x then [⟨s.fr, x⟩] else [])) wr ∧ Blk wr B4 #[.int .i64 s.fr, .int .i64 x, .int .i64 (x + 1), .int .i64 s.to] 35) ∨ (j = 2 ∧ OutP o w0 (L ++ ((if s.fr < x then [⟨s.fr, x⟩] else []) ++ (if x + 1 < s.to then [⟨x + 1, s.to⟩] else []))) wr)
set_option maxRecDepth 100000 in
set_option maxHeartbeats 8000000 in
theorem loc1_any (z q : Zn) (vTz vRz vTq vRq : Value) (g f : Int) (pa pp pb o : Nat) (we w0 w : World) (L : List Spn) (s : Spn) (hs : -62135596800 ≤ s.fr ∧ s.fr < s.to ∧ s.to ≤ 253402300800) (hm : HasMax we)
  (hTz : Rd Trn.cells 4 we vTz z.table) (hRz : Rd Rule.cells 11 we vRz z.tail) (hTq : Rd Trn.cells 4 we vTq q.table) (hRq : Rd Rule.cells 11 we vRq q.tail) (hfz : z.form.size < 4294967281) (hfq : q.form.size < 4294967281) (hlz : z.tail.length ≤ 12) (hlq : q.tail.length ≤ 12) (htz : z.table.length ≤ 300) (htq : q.table.length ≤ 300)
  (hbe : Below we.heap.size we w0) (hBo : we.heap.size ≤ o) (ha : Blk w0 pa (z.cellsZ vTz vRz).toArray 48) (hb : Blk w0 pb (q.cellsZ vTq vRq).toArray 48) (hp : Blk w0 pp #[.int .i64 g, .int .i64 f] 26) (hao : pa ≠ o) (hbo : pb ≠ o) (hpo : pp ≠ o) (hlen : L.length ≤ 6000) (hP : OutP o w0 L w) :
  Calls Tryz.prog 56 #[.agg #[.int .i64 s.fr, .int .i64 s.to], .pointer (some ⟨pa, 0, none⟩), .pointer (some ⟨pp, 0, none⟩), .pointer (some ⟨pb, 0, none⟩), .pointer (some ⟨o, 0, none⟩)] w fun e w' => e = .returned (.tuple #[]) ∧ OutP o w0 (L ++ partF (fun y => z.resV y g f) (fun y => q.resV y g f) s) w' := by
 have hbw : Below we.heap.size we w := hbe.trans (hP.old hBo)
 have HA := Lib.hid (fun l W (hb : Below w.heap.size w W) => Resolve_any z vTz vRz l g f W (hm.on (hbw.trans (hb.mono hbw.size))) (hTz.on (hbw.trans (hb.mono hbw.size))) (hRz.on (hbw.trans (hb.mono hbw.size))) hfz hlz htz)
 have HB := Lib.hid (fun l W (hb : Below w.heap.size w W) => Resolve_any q vTq vRq l g f W (hm.on (hbw.trans (hb.mono hbw.size))) (hTq.on (hbw.trans (hb.mono hbw.size))) (hRq.on (hbw.trans (hb.mono hbw.size))) hfq hlq htq)
 obtain ⟨AT, cT, rfl⟩ := rd_vf hTz
 obtain ⟨AR, cR, rfl⟩ := rd_vf hRz
 obtain ⟨AU, cU, rfl⟩ := rd_vf hTq
 obtain ⟨AS, cS, rfl⟩ := rd_vf hRq
 have HP := Lib.hid hP
 obtain ⟨hg, ho, u, hbox, hown, _⟩ := hP
 have ka := ha.kept hg (by simpa using hao)
 have kb := hb.kept hg (by simpa using hbo)
 have kp := hp.kept hg (by simpa using hpo)
 unfold Zn.cellsZ at ka kb
 clear hTz hRz hTq hRq hm hbe ha hb hp
 have HADD := Lib.hid (fun s wa w1 v' (hA : Below w.heap.size w wa) hown' (hgr : wa.grownBy w1 u.ownBlock) => OutP.add (s := s) (v' := v') hg ho hbox hown hA hown' hgr)
 have HOWN := Lib.hid hown
 have HBX := Lib.hid hbox
 have hNS := noSpot_own hown
 clear hg ho hown
 have m0 := res_bd z s.fr g f
 have m1 := res_bd z (s.to - 1) g f
 have n0 := res_bd q s.fr g f
 have n1 := res_bd q (s.to - 1) g f
 rw [partF_eq]
 unfold Zn.v at HA HB
 have HA0 := Lib.hid (fun W hb => HA.out s.fr W hb)
 have HA1 := Lib.hid (fun W hb => HA.out (s.to - 1) W hb)
 have HB0 := Lib.hid (fun W hb => HB.out s.fr W hb)
 have HB1 := Lib.hid (fun W hb => HB.out (s.to - 1) W hb)
 clear HA HB
 generalize z.resV s.fr g f = R0 at *
 generalize z.resV (s.to - 1) g f = R1 at *
 generalize q.resV s.fr g f = Q0 at *
 generalize q.resV (s.to - 1) g f = Q1 at *
 obtain ⟨m, e⟩ := R0
 obtain ⟨i, ei⟩ := R1
 obtain ⟨n, e2⟩ := Q0
 obtain ⟨k, ek⟩ := Q1
 have b0 := Blk.new w #[.int .i64 s.fr, .int .i64 s.to] 35
 have hB0 : Below w.heap.size w (w.alloc (.cells #[.int .i64 s.fr, .int .i64 s.to] 35)) := (Below.refl _ _).alloc (Nat.le_refl _) _
 have ka := ka.alloc (.cells #[.int .i64 s.fr, .int .i64 s.to] 35)
 have kb := kb.alloc (.cells #[.int .i64 s.fr, .int .i64 s.to] 35)
 have kp := kp.alloc (.cells #[.int .i64 s.fr, .int .i64 s.to] 35)
 have Lz := ka.lt
 have z0 := blk_cl ka 0 _ rfl
 have z1 := blk_cl ka 1 _ rfl
 have z2 := blk_cl ka 2 _ rfl
 have z3 := blk_cl ka 3 _ rfl
 have z4 := blk_cl ka 4 _ rfl
 have z5 := blk_cl ka 5 _ rfl
 have z6 := blk_cl ka 6 _ rfl
 have z7 := blk_cl ka 7 _ rfl
 have z8 := blk_cl ka 8 _ rfl
 have Lp := kp.lt
 have p0 := blk_cl kp 0 _ rfl
 have p1 := blk_cl kp 1 _ rfl
 go_enter Tryz.func56, Tryz.ntmps56
 go_wp2_with fail
 generalize w.alloc (.cells #[.int .i64 s.fr, .int .i64 s.to] 35) = W at *
 refine (HA0.out W hB0).mono ?_
 rintro e' w1 ⟨rfl, hb1⟩
 clear HA0 Lz z0 z1 z2 z3 z4 z5 z6 z7 z8 Lp p0 p1
 have k0 := b0.below hb1 b0.lt
 have kb1 := kb.below hb1 kb.lt
 have kp1 := kp.below hb1 kp.lt
 have ka1 := ka.below hb1 ka.lt
 have s0 := k0.cell 0 (v := .int .i64 s.fr) rfl
 have sl := k0.lt
 have hB1 := hB0.trans (hb1.mono hB0.size)
 have Lq := kb1.lt
 have q0 := blk_cl kb1 0 _ rfl
 have q1 := blk_cl kb1 1 _ rfl
 have q2 := blk_cl kb1 2 _ rfl
 have q3 := blk_cl kb1 3 _ rfl
 have q4 := blk_cl kb1 4 _ rfl
 have q5 := blk_cl kb1 5 _ rfl
 have q6 := blk_cl kb1 6 _ rfl
 have q7 := blk_cl kb1 7 _ rfl
 have q8 := blk_cl kb1 8 _ rfl
 have Lp := kp1.lt
 have p0 := blk_cl kp1 0 _ rfl
 have p1 := blk_cl kp1 1 _ rfl
 go_wp2_with fail
 refine (HB0.out w1 hB1).mono ?_
 rintro e' w2 ⟨rfl, hb2⟩
 clear HB0 Lq q0 q1 q2 q3 q4 q5 q6 q7 q8 Lp p0 p1 s0 sl
 have k0 := k0.below hb2 k0.lt
 have kb2 := kb1.below hb2 kb1.lt
 have kp2 := kp1.below hb2 kp1.lt
 have ka2 := ka1.below hb2 ka1.lt
 have s0 := k0.cell 0 (v := .int .i64 s.fr) rfl
 have s1 := k0.cell 1 (v := .int .i64 s.to) rfl
 have sl := k0.lt
 have hB2 := hB1.trans (hb2.mono hB1.size)
 have bo := HBX.out.kept (below_grown (row := none) hB2) (by simp)
 have o0 := bo.cell
 have ol := bo.lt
 have HO2 := Lib.hid (own_on HOWN.out hB2)
 obtain ⟨i0, hi0, hz0, hz1, hz2⟩ := info_parts info_span
 have hw0 := HP.out.1.size
 by_cases hne : e = e2
 case neg =>
  have dn : (e == e2) = false := by rw [beq_eq_false_iff_ne]; exact hne
  go_wp2_with (at_builtin; go_loud (refine wpList_append_own_at _ rfl _ _ 59 rfl w0.heap.size 35 i0 _ 2 16 Tryz.underlying59 hi0 hz0 hz1 hz2 rfl (by decide) u _ _ rfl (HO2.out.alloc _) ⟨_, 0, none⟩ 1 1 (encN s) rfl rfl (new_row_at (by simp) _) (encN_one s) (by simp only [maxLen]; omega) (by omega) (by have := hB2.size; simp at *; omega) ?_); intro v' wz hown' hgr _ _; obtain ⟨hbz, hOut⟩ := HADD.out s _ wz v' (hB2.alloc hB2.size _) hown' hgr; obtain ⟨g', cap', rfl⟩ := ownsRow_succ hown'; have oz := hbz.cell; have of := hbz.frozen)
  refine bodyPost_ret (v := .tuple #[]) (by simp [results, Tryz.results56, go_sem]) rfl ⟨rfl, ?_⟩
  rw [partV_ne hne]
  exact hOut
 subst hne
 have dn : (e == e) = true := by simp
 by_cases he : e = 0
 case neg =>
  have de : (e == 0) = false := by rw [beq_eq_false_iff_ne]; exact he
  go_wp2
  refine bodyPost_ret (v := .tuple #[]) (by simp [results, Tryz.results56, go_sem]) rfl ⟨rfl, ?_⟩
  rw [partV_err he, List.append_nil]
  exact HP.out.below hB2
 subst he
 have Lz := ka2.lt
 have z0 := blk_cl ka2 0 _ rfl
 have z1 := blk_cl ka2 1 _ rfl
 have z2 := blk_cl ka2 2 _ rfl
 have z3 := blk_cl ka2 3 _ rfl
 have z4 := blk_cl ka2 4 _ rfl
 have z5 := blk_cl ka2 5 _ rfl
 have z6 := blk_cl ka2 6 _ rfl
 have z7 := blk_cl ka2 7 _ rfl
 have z8 := blk_cl ka2 8 _ rfl
 have Lp := kp2.lt
 have p0 := blk_cl kp2 0 _ rfl
 have p1 := blk_cl kp2 1 _ rfl
 have hwt : wrap64 (s.to - 1) = s.to - 1 := by unfold wrap64; omega
 go_wp2_with fail
 refine (HA1.out w2 hB2).mono ?_
 rintro e' w3 ⟨rfl, hb3⟩
 clear HA1 Lz z0 z1 z2 z3 z4 z5 z6 z7 z8 Lp p0 p1 s0 s1 sl bo o0 ol HO2
 have k0 := k0.below hb3 k0.lt
 have kb3 := kb2.below hb3 kb2.lt
 have kp3 := kp2.below hb3 kp2.lt
 have s0 := k0.cell 0 (v := .int .i64 s.fr) rfl
 have s1 := k0.cell 1 (v := .int .i64 s.to) rfl
 have sl := k0.lt
 have hB3 := hB2.trans (hb3.mono hB2.size)
 have Lq := kb3.lt
 have q0 := blk_cl kb3 0 _ rfl
 have q1 := blk_cl kb3 1 _ rfl
 have q2 := blk_cl kb3 2 _ rfl
 have q3 := blk_cl kb3 3 _ rfl
 have q4 := blk_cl kb3 4 _ rfl
 have q5 := blk_cl kb3 5 _ rfl
 have q6 := blk_cl kb3 6 _ rfl
 have q7 := blk_cl kb3 7 _ rfl
 have q8 := blk_cl kb3 8 _ rfl
 have Lp := kp3.lt
 have p0 := blk_cl kp3 0 _ rfl
 have p1 := blk_cl kp3 1 _ rfl
 go_wp2_with fail
 refine (HB1.out w3 hB3).mono ?_
 rintro e' w4 ⟨rfl, hb4⟩
 clear HB1 Lq q0 q1 q2 q3 q4 q5 q6 q7 q8 Lp p0 p1 s0 s1 sl
 have k0 := k0.below hb4 k0.lt
 have s0 := k0.cell 0 (v := .int .i64 s.fr) rfl
 have s1 := k0.cell 1 (v := .int .i64 s.to) rfl
 have sl := k0.lt
 have hB4 := hB3.trans (hb4.mono hB3.size)
 have bo := HBX.out.kept (below_grown (row := none) hB4) (by simp)
 have o0 := bo.cell
 have ol := bo.lt
 have HO4 := Lib.hid (own_on HOWN.out hB4)
 clear hb1 hb2 hb3 hb4 ka kb kp kb1 kp1 ka1 kb2 kp2 ka2 kb3 kp3 b0 bo hB0 hB1 hB2 hB3
 by_cases hq : i - m = k - n
 ·have dq : (i - m == k - n) = true := by rw [beq_iff_eq]; exact hq
  by_cases hmn : m = n
  ·have dm : (m == n) = true := by rw [beq_iff_eq]; exact hmn
   go_wp2
   refine bodyPost_ret (v := .tuple #[]) (by simp [results, Tryz.results56, go_sem]) rfl ⟨rfl, ?_⟩
   rw [partV_same hq hmn, List.append_nil]
   exact HP.out.below hB4
  ·have dm : (m == n) = false := by rw [beq_eq_false_iff_ne]; exact hmn
   go_wp2_with (at_builtin; go_loud (refine wpList_append_own_at _ rfl _ _ 59 rfl w0.heap.size 35 i0 _ 2 16 Tryz.underlying59 hi0 hz0 hz1 hz2 rfl (by decide) u _ _ rfl (HO4.out.alloc _) ⟨_, 0, none⟩ 1 1 (encN s) rfl rfl (new_row_at (by simp) _) (encN_one s) (by simp only [maxLen]; omega) (by omega) (by have := hB4.size; simp at *; omega) ?_); intro v' wz hown' hgr _ _; obtain ⟨hbz, hOut⟩ := HADD.out s _ wz v' (hB4.alloc hB4.size _) hown' hgr; obtain ⟨g', cap', rfl⟩ := ownsRow_succ hown'; have oz := hbz.cell; have of := hbz.frozen)
   refine bodyPost_ret (v := .tuple #[]) (by simp [results, Tryz.results56, go_sem]) rfl ⟨rfl, ?_⟩
   rw [partV_par hq hmn]
   exact hOut
 have dq : (i - m == k - n) = false := by rw [beq_eq_false_iff_ne]; exact hq
 by_cases hl : i - m = s.to - 1 - s.fr
 ·have dl : (i - m == s.to - 1 - s.fr) = true := by rw [beq_iff_eq]; exact hl
  have HX := Lib.hid (partV_cut (fr := s.fr) (to := s.to) hq (show (if i - m = s.to - 1 - s.fr then s.fr + n - m else s.fr + m - n) = s.fr + n - m from if_pos hl))
  clear hl hq
  by_cases h1 : s.fr + n - m < s.fr
  ·have d1 : decide (s.fr + n - m < s.fr) = true := decide_eq_true h1
   go_wp2_with (at_builtin; go_loud (refine wpList_append_own_at _ rfl _ _ 59 rfl w0.heap.size 35 i0 _ 2 16 Tryz.underlying59 hi0 hz0 hz1 hz2 rfl (by decide) u _ _ rfl (HO4.out.alloc _) ⟨_, 0, none⟩ 1 1 (encN s) rfl rfl (new_row_at (by simp) _) (encN_one s) (by simp only [maxLen]; omega) (by omega) (by have := hB4.size; simp at *; omega) ?_); intro v' wz hown' hgr _ _; obtain ⟨hbz, hOut⟩ := HADD.out s _ wz v' (hB4.alloc hB4.size _) hown' hgr; obtain ⟨g', cap', rfl⟩ := ownsRow_succ hown'; have oz := hbz.cell; have of := hbz.frozen)
   refine bodyPost_ret (v := .tuple #[]) (by simp [results, Tryz.results56, go_sem]) rfl ⟨rfl, ?_⟩
   rw [HX.out, if_pos (.inl h1)]
   exact hOut
  have d1 : decide (s.fr + n - m < s.fr) = false := decide_eq_false h1
  by_cases h2 : s.to ≤ s.fr + n - m
  ·have d2 : decide (s.to ≤ s.fr + n - m) = true := decide_eq_true h2
   go_wp2_with (at_builtin; go_loud (refine wpList_append_own_at _ rfl _ _ 59 rfl w0.heap.size 35 i0 _ 2 16 Tryz.underlying59 hi0 hz0 hz1 hz2 rfl (by decide) u _ _ rfl (HO4.out.alloc _) ⟨_, 0, none⟩ 1 1 (encN s) rfl rfl (new_row_at (by simp) _) (encN_one s) (by simp only [maxLen]; omega) (by omega) (by have := hB4.size; simp at *; omega) ?_); intro v' wz hown' hgr _ _; obtain ⟨hbz, hOut⟩ := HADD.out s _ wz v' (hB4.alloc hB4.size _) hown' hgr; obtain ⟨g', cap', rfl⟩ := ownsRow_succ hown'; have oz := hbz.cell; have of := hbz.frozen)
   refine bodyPost_ret (v := .tuple #[]) (by simp [results, Tryz.results56, go_sem]) rfl ⟨rfl, ?_⟩
   rw [HX.out, if_pos (.inr h2)]
   exact hOut
  have d2 : decide (s.to ≤ s.fr + n - m) = false := decide_eq_false h2
  have HX := Lib.hid (HX.out.trans (if_neg (by omega)))
  go_wp2_with fail
  have ba := Blk.new w4 #[.int .i64 s.fr, .int .i64 (s.fr + n - m), .int .i64 (s.fr + n - m + 1), .int .i64 s.to] 35
  have hBa : Below w.heap.size w (w4.alloc (.cells #[.int .i64 s.fr, .int .i64 (s.fr + n - m), .int .i64 (s.fr + n - m + 1), .int .i64 s.to] 35)) := hB4.alloc hB4.size _
  have hfu := own_lt HO4.out
  have hoa : w4.heap.size ≠ o := by have := HBX.out.lt; have := hB4.size; omega
  have HOa := Lib.hid (HO4.out.alloc (.cells #[.int .i64 s.fr, .int .i64 (s.fr + n - m), .int .i64 (s.fr + n - m + 1), .int .i64 s.to] 35))
  have boa := HBX.out.kept (below_grown (row := none) hBa) (by simp)
  have ha4 : w4.heap.size < (w4.alloc (.cells #[.int .i64 s.fr, .int .i64 (s.fr + n - m), .int .i64 (s.fr + n - m + 1), .int .i64 s.to] 35)).heap.size := by simp
  have hwa := hBa.size
  clear o0 ol
  generalize w4.alloc (.cells #[.int .i64 s.fr, .int .i64 (s.fr + n - m), .int .i64 (s.fr + n - m + 1), .int .i64 s.to] 35) = wa at *
  generalize w4.heap.size = B4 at *
  try simp only [dq, dl, bne, Bool.not_true, Bool.not_false]
  go_loopw [125] (fun v wr => ∃ j : Nat, v = .int .i64 j ∧ PartRel o w0 L s (s.fr + n - m) B4 wa j wr) (fun v _ => 2 - (intOf v).toNat)
  case atStart => exact ⟨0, rfl, Or.inl ⟨rfl, rfl⟩⟩
  case round =>
   obtain ⟨j, rfl, hrel⟩ := hrel
   unfold PartRel at hrel
   rcases hrel with ⟨rfl, rfl⟩ | ⟨rfl, hP1, bar⟩ | ⟨rfl, hP2⟩
   ·have a0 := ba.cell 0 (v := .int .i64 s.fr) rfl
    have a1 := ba.cell 1 (v := .int .i64 (s.fr + n - m)) rfl
    have o0 := boa.cell
    have ol := boa.lt
    by_cases hc : s.fr < s.fr + n - m
    ·have dc : decide (s.fr < s.fr + n - m) = true := decide_eq_true hc
     go_wp2_with (at_builtin; go_loud (refine wpList_append_own_at _ rfl _ _ 59 rfl w0.heap.size 35 i0 _ 2 16 Tryz.underlying59 hi0 hz0 hz1 hz2 rfl (by decide) u _ _ rfl ((HOa.out.alloc _).alloc _) ⟨_, 0, none⟩ 1 1 (encN (⟨s.fr, s.fr + n - m⟩ : Spn)) rfl rfl (new_row_at (by simp) _) (encN_one (⟨s.fr, s.fr + n - m⟩ : Spn)) (by simp only [maxLen]; omega) (by omega) (by simp; omega) ?_); intro v' wz hown' hgr _ _; obtain ⟨hbz, hOut⟩ := HADD.out (⟨s.fr, s.fr + n - m⟩ : Spn) _ wz v' ((hBa.alloc hwa _).alloc (by simp; omega) _) hown' hgr; have bz := ((ba.alloc _).alloc _).kept hgr (fun e => by have := hfu _ e.symm; omega); obtain ⟨g', cap', rfl⟩ := ownsRow_succ hown'; have oz := hbz.cell; have of := hbz.frozen)
     go_roundw
     case rel => exact ⟨1, by go_num, Or.inr (Or.inl ⟨rfl, by rw [if_pos hc]; exact hOut, bz.other hoa _⟩)⟩
     case measure => simp [intOf]
    ·have dc : decide (s.fr < s.fr + n - m) = false := decide_eq_false hc
     go_wp2
     go_roundw
     case rel => exact ⟨1, by go_num, Or.inr (Or.inl ⟨rfl, by rw [if_neg hc, List.append_nil]; exact HP.out.below (hBa.alloc hwa _), ba.alloc _⟩)⟩
     case measure => simp [intOf]
   ·have a2 := bar.cell 2 (v := .int .i64 (s.fr + n - m + 1)) rfl
    have a3 := bar.cell 3 (v := .int .i64 s.to) rfl
    have hl1 : (L ++ (if s.fr < s.fr + n - m then [(⟨s.fr, s.fr + n - m⟩ : Spn)] else [])).length ≤ 6001 := by rw [List.length_append]; split <;> simp <;> omega
    generalize hM : L ++ (if s.fr < s.fr + n - m then [(⟨s.fr, s.fr + n - m⟩ : Spn)] else []) = M at *
    have HP1 := Lib.hid hP1
    obtain ⟨hg1, ho1, u1, hb1, hown1, _⟩ := hP1
    have o0 := hb1.cell
    have ol := hb1.lt
    have hNS1 := noSpot_own hown1
    have HO1 := Lib.hid hown1
    have HADD1 := Lib.hid (fun s wa w1 v' (hA : Below wr.heap.size wr wa) hown' (hgr : wa.grownBy w1 u1.ownBlock) => OutP.add (s := s) (v' := v') hg1 ho1 hb1 hown1 hA hown' hgr)
    have hw1 := hg1.size
    by_cases hc : s.fr + n - m + 1 < s.to
    ·have dc : decide (s.fr + n - m + 1 < s.to) = true := decide_eq_true hc
     go_wp2_with (at_builtin; go_loud (refine wpList_append_own_at _ rfl _ _ 59 rfl w0.heap.size 35 i0 _ 2 16 Tryz.underlying59 hi0 hz0 hz1 hz2 rfl (by decide) u1 _ _ rfl ((HO1.out.alloc _).alloc _) ⟨_, 0, none⟩ 1 1 (encN (⟨s.fr + n - m + 1, s.to⟩ : Spn)) rfl rfl (new_row_at (by simp) _) (encN_one (⟨s.fr + n - m + 1, s.to⟩ : Spn)) (by simp only [maxLen]; omega) (by omega) (by simp; omega) ?_); intro v' wz hown' hgr _ _; obtain ⟨hbz, hOut⟩ := HADD1.out (⟨s.fr + n - m + 1, s.to⟩ : Spn) _ wz v' (((Below.refl _ _).alloc (Nat.le_refl _) _).alloc (by simp) _) hown' hgr; obtain ⟨g', cap', rfl⟩ := ownsRow_succ hown'; have oz := hbz.cell; have of := hbz.frozen)
     go_roundw
     case rel => exact ⟨2, by go_num, Or.inr (Or.inr ⟨rfl, by rw [if_pos hc, ← List.append_assoc, hM]; exact hOut⟩)⟩
     case measure => simp [intOf]
    ·have dc : decide (s.fr + n - m + 1 < s.to) = false := decide_eq_false hc
     go_wp2
     go_roundw
     case rel => exact ⟨2, by go_num, Or.inr (Or.inr ⟨rfl, by rw [if_neg hc, List.append_nil, hM]; exact HP1.out.below ((Below.refl _ _).alloc (Nat.le_refl _) _)⟩)⟩
     case measure => simp [intOf]
   ·go_wp2
    go_end0
    exact ⟨rfl, by rw [HX.out]; exact hP2⟩
 ·have dl : (i - m == s.to - 1 - s.fr) = false := by rw [beq_eq_false_iff_ne]; exact hl
  have HX := Lib.hid (partV_cut (fr := s.fr) (to := s.to) hq (show (if i - m = s.to - 1 - s.fr then s.fr + n - m else s.fr + m - n) = s.fr + m - n from if_neg hl))
  clear hl hq
  by_cases h1 : s.fr + m - n < s.fr
  ·have d1 : decide (s.fr + m - n < s.fr) = true := decide_eq_true h1
   go_wp2_with (at_builtin; go_loud (refine wpList_append_own_at _ rfl _ _ 59 rfl w0.heap.size 35 i0 _ 2 16 Tryz.underlying59 hi0 hz0 hz1 hz2 rfl (by decide) u _ _ rfl (HO4.out.alloc _) ⟨_, 0, none⟩ 1 1 (encN s) rfl rfl (new_row_at (by simp) _) (encN_one s) (by simp only [maxLen]; omega) (by omega) (by have := hB4.size; simp at *; omega) ?_); intro v' wz hown' hgr _ _; obtain ⟨hbz, hOut⟩ := HADD.out s _ wz v' (hB4.alloc hB4.size _) hown' hgr; obtain ⟨g', cap', rfl⟩ := ownsRow_succ hown'; have oz := hbz.cell; have of := hbz.frozen)
   refine bodyPost_ret (v := .tuple #[]) (by simp [results, Tryz.results56, go_sem]) rfl ⟨rfl, ?_⟩
   rw [HX.out, if_pos (.inl h1)]
   exact hOut
  have d1 : decide (s.fr + m - n < s.fr) = false := decide_eq_false h1
  by_cases h2 : s.to ≤ s.fr + m - n
  ·have d2 : decide (s.to ≤ s.fr + m - n) = true := decide_eq_true h2
   go_wp2_with (at_builtin; go_loud (refine wpList_append_own_at _ rfl _ _ 59 rfl w0.heap.size 35 i0 _ 2 16 Tryz.underlying59 hi0 hz0 hz1 hz2 rfl (by decide) u _ _ rfl (HO4.out.alloc _) ⟨_, 0, none⟩ 1 1 (encN s) rfl rfl (new_row_at (by simp) _) (encN_one s) (by simp only [maxLen]; omega) (by omega) (by have := hB4.size; simp at *; omega) ?_); intro v' wz hown' hgr _ _; obtain ⟨hbz, hOut⟩ := HADD.out s _ wz v' (hB4.alloc hB4.size _) hown' hgr; obtain ⟨g', cap', rfl⟩ := ownsRow_succ hown'; have oz := hbz.cell; have of := hbz.frozen)
   refine bodyPost_ret (v := .tuple #[]) (by simp [results, Tryz.results56, go_sem]) rfl ⟨rfl, ?_⟩
   rw [HX.out, if_pos (.inr h2)]
   exact hOut
  have d2 : decide (s.to ≤ s.fr + m - n) = false := decide_eq_false h2
  have HX := Lib.hid (HX.out.trans (if_neg (by omega)))
  go_wp2_with fail
  have ba := Blk.new w4 #[.int .i64 s.fr, .int .i64 (s.fr + m - n), .int .i64 (s.fr + m - n + 1), .int .i64 s.to] 35
  have hBa : Below w.heap.size w (w4.alloc (.cells #[.int .i64 s.fr, .int .i64 (s.fr + m - n), .int .i64 (s.fr + m - n + 1), .int .i64 s.to] 35)) := hB4.alloc hB4.size _
  have hfu := own_lt HO4.out
  have hoa : w4.heap.size ≠ o := by have := HBX.out.lt; have := hB4.size; omega
  have HOa := Lib.hid (HO4.out.alloc (.cells #[.int .i64 s.fr, .int .i64 (s.fr + m - n), .int .i64 (s.fr + m - n + 1), .int .i64 s.to] 35))
  have boa := HBX.out.kept (below_grown (row := none) hBa) (by simp)
  have ha4 : w4.heap.size < (w4.alloc (.cells #[.int .i64 s.fr, .int .i64 (s.fr + m - n), .int .i64 (s.fr + m - n + 1), .int .i64 s.to] 35)).heap.size := by simp
  have hwa := hBa.size
  clear o0 ol
  generalize w4.alloc (.cells #[.int .i64 s.fr, .int .i64 (s.fr + m - n), .int .i64 (s.fr + m - n + 1), .int .i64 s.to] 35) = wa at *
  generalize w4.heap.size = B4 at *
  try simp only [dq, dl, bne, Bool.not_true, Bool.not_false]
  go_loopw [125] (fun v wr => ∃ j : Nat, v = .int .i64 j ∧ PartRel o w0 L s (s.fr + m - n) B4 wa j wr) (fun v _ => 2 - (intOf v).toNat)
  case atStart => exact ⟨0, rfl, Or.inl ⟨rfl, rfl⟩⟩
  case round =>
   obtain ⟨j, rfl, hrel⟩ := hrel
   unfold PartRel at hrel
   rcases hrel with ⟨rfl, rfl⟩ | ⟨rfl, hP1, bar⟩ | ⟨rfl, hP2⟩
   ·have a0 := ba.cell 0 (v := .int .i64 s.fr) rfl
    have a1 := ba.cell 1 (v := .int .i64 (s.fr + m - n)) rfl
    have o0 := boa.cell
    have ol := boa.lt
    by_cases hc : s.fr < s.fr + m - n
    ·have dc : decide (s.fr < s.fr + m - n) = true := decide_eq_true hc
     go_wp2_with (at_builtin; go_loud (refine wpList_append_own_at _ rfl _ _ 59 rfl w0.heap.size 35 i0 _ 2 16 Tryz.underlying59 hi0 hz0 hz1 hz2 rfl (by decide) u _ _ rfl ((HOa.out.alloc _).alloc _) ⟨_, 0, none⟩ 1 1 (encN (⟨s.fr, s.fr + m - n⟩ : Spn)) rfl rfl (new_row_at (by simp) _) (encN_one (⟨s.fr, s.fr + m - n⟩ : Spn)) (by simp only [maxLen]; omega) (by omega) (by simp; omega) ?_); intro v' wz hown' hgr _ _; obtain ⟨hbz, hOut⟩ := HADD.out (⟨s.fr, s.fr + m - n⟩ : Spn) _ wz v' ((hBa.alloc hwa _).alloc (by simp; omega) _) hown' hgr; have bz := ((ba.alloc _).alloc _).kept hgr (fun e => by have := hfu _ e.symm; omega); obtain ⟨g', cap', rfl⟩ := ownsRow_succ hown'; have oz := hbz.cell; have of := hbz.frozen)
     go_roundw
     case rel => exact ⟨1, by go_num, Or.inr (Or.inl ⟨rfl, by rw [if_pos hc]; exact hOut, bz.other hoa _⟩)⟩
     case measure => simp [intOf]
    ·have dc : decide (s.fr < s.fr + m - n) = false := decide_eq_false hc
     go_wp2
     go_roundw
     case rel => exact ⟨1, by go_num, Or.inr (Or.inl ⟨rfl, by rw [if_neg hc, List.append_nil]; exact HP.out.below (hBa.alloc hwa _), ba.alloc _⟩)⟩
     case measure => simp [intOf]
   ·have a2 := bar.cell 2 (v := .int .i64 (s.fr + m - n + 1)) rfl
    have a3 := bar.cell 3 (v := .int .i64 s.to) rfl
    have hl1 : (L ++ (if s.fr < s.fr + m - n then [(⟨s.fr, s.fr + m - n⟩ : Spn)] else [])).length ≤ 6001 := by rw [List.length_append]; split <;> simp <;> omega
    generalize hM : L ++ (if s.fr < s.fr + m - n then [(⟨s.fr, s.fr + m - n⟩ : Spn)] else []) = M at *
    have HP1 := Lib.hid hP1
    obtain ⟨hg1, ho1, u1, hb1, hown1, _⟩ := hP1
    have o0 := hb1.cell
    have ol := hb1.lt
    have hNS1 := noSpot_own hown1
    have HO1 := Lib.hid hown1
    have HADD1 := Lib.hid (fun s wa w1 v' (hA : Below wr.heap.size wr wa) hown' (hgr : wa.grownBy w1 u1.ownBlock) => OutP.add (s := s) (v' := v') hg1 ho1 hb1 hown1 hA hown' hgr)
    have hw1 := hg1.size
    by_cases hc : s.fr + m - n + 1 < s.to
    ·have dc : decide (s.fr + m - n + 1 < s.to) = true := decide_eq_true hc
     go_wp2_with (at_builtin; go_loud (refine wpList_append_own_at _ rfl _ _ 59 rfl w0.heap.size 35 i0 _ 2 16 Tryz.underlying59 hi0 hz0 hz1 hz2 rfl (by decide) u1 _ _ rfl ((HO1.out.alloc _).alloc _) ⟨_, 0, none⟩ 1 1 (encN (⟨s.fr + m - n + 1, s.to⟩ : Spn)) rfl rfl (new_row_at (by simp) _) (encN_one (⟨s.fr + m - n + 1, s.to⟩ : Spn)) (by simp only [maxLen]; omega) (by omega) (by simp; omega) ?_); intro v' wz hown' hgr _ _; obtain ⟨hbz, hOut⟩ := HADD1.out (⟨s.fr + m - n + 1, s.to⟩ : Spn) _ wz v' (((Below.refl _ _).alloc (Nat.le_refl _) _).alloc (by simp) _) hown' hgr; obtain ⟨g', cap', rfl⟩ := ownsRow_succ hown'; have oz := hbz.cell; have of := hbz.frozen)
     go_roundw
     case rel => exact ⟨2, by go_num, Or.inr (Or.inr ⟨rfl, by rw [if_pos hc, ← List.append_assoc, hM]; exact hOut⟩)⟩
     case measure => simp [intOf]
    ·have dc : decide (s.fr + m - n + 1 < s.to) = false := decide_eq_false hc
     go_wp2
     go_roundw
     case rel => exact ⟨2, by go_num, Or.inr (Or.inr ⟨rfl, by rw [if_neg hc, List.append_nil, hM]; exact HP1.out.below ((Below.refl _ _).alloc (Nat.le_refl _) _)⟩)⟩
     case measure => simp [intOf]
   ·go_wp2
    go_end0
    exact ⟨rfl, by rw [HX.out]; exact hP2⟩
end Go.Proofs.YtdafcipilknecaaGreatDoor

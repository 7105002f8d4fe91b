/- The law VersionResolves. Printed by gen_lawvr.py. -/
import Derived.Test.YtoonaidpmahgcaaGreatJVerW4
import Derived.Test.YtoonaidpmahgcaaGreatJVerL1
import Derived.Test.YtoonaidpmahgcaaGreatJVerL2
import Derived.Test.YtoonaidpmahgcaaGreatJVerAw
import Derived.Test.YtoonaidpmahgcaaGreatGZc
import Derived.BigQuiet
namespace Go.Proofs.YtoonaidpmahgcaaGreat
set_option linter.unusedSimpArgs false
set_option linter.unusedVariables false
open Go.ChangeShapes Go.WideShapes Go.ChangeAt Go.RowKit

theorem big_partsR {z q : Zn} (h : (bigV z || bigV q) = false) : (z.table.length ≤ 60 ∧ z.tail.length ≤ 6) ∧ q.table.length ≤ 60 ∧ q.tail.length ≤ 6 := by
  unfold bigV at h
  simp at h
  omega
set_option maxRecDepth 100000 in
set_option maxHeartbeats 8000000 in
theorem law_VersionResolves (z : Zn) (vTz vRz : Value) (q : Zn) (vTq vRq : Value) (a b g f t : Int) (w : World) (hfz : z.form.size < 4294967281) (hfq : q.form.size < 4294967281) (hTz : Rd Trn.cells 4 w vTz z.table) (hRz : Rd Rule.cells 11 w vRz z.tail) (hTq : Rd Trn.cells 4 w vTq q.table) (hRq : Rd Rule.cells 11 w vRq q.tail) (hm : HasMax w) :
    Calls Tryz.prog 6 #[z.v vTz vRz, q.v vTq vRq, .agg #[.int .i64 a, .int .i64 b], .agg #[.int .i64 g, .int .i64 f], .int .i64 t] w fun e w' => e = .returned (.bool true) ∧ Below w.heap.size w w' := by
  have HA := Lib.hid (fun W (hb : Below w.heap.size w W) => awake24_any W (hm.on hb))
  have HL := Lib.hid (fun W => long_any a b 4 (by decide) W)
  have HI1 := Lib.hid (fun l1 l2 l3 l4 hs1 hs2 W (hb : Below w.heap.size w W) => Locals_ver z q vTz vRz vTq vRq a b g f W (hm.on hb) (hTz.on hb) (hRz.on hb) (hTq.on hb) (hRq.on hb) hfz hfq l1 l2 l3 l4 hs1 hs2)
  have HI2 := Lib.hid (fun l1 l2 l3 l4 hs1 hs2 W (hb : Below w.heap.size w W) => Locals_ver q z vTq vRq vTz vRz a b g f W (hm.on hb) (hTq.on hb) (hRq.on hb) (hTz.on hb) (hRz.on hb) hfq hfz l2 l1 l4 l3 hs2 hs1)
  have HI3 := Lib.hid (fun l1 l3 hs1 W (hb : Below w.heap.size w W) => Locals_ver z z vTz vRz vTz vRz a b g f W (hm.on hb) (hTz.on hb) (hRz.on hb) (hTz.on hb) (hRz.on hb) hfz hfz l1 l1 l3 l3 hs1 hs1)
  have HT1 := Lib.hid (fun l1 l3 W (hb : Below w.heap.size w W) => Resolve_any z vTz vRz t g f W (hm.on hb) (hTz.on hb) (hRz.on hb) hfz l1 l3)
  have HT2 := Lib.hid (fun l2 l4 W (hb : Below w.heap.size w W) => Resolve_any q vTq vRq t g f W (hm.on hb) (hTq.on hb) (hRq.on hb) hfq l2 l4)
  obtain ⟨AT, cT, rfl⟩ := rd_vf hTz
  obtain ⟨AR, cR, rfl⟩ := rd_vf hRz
  obtain ⟨AU, cU, rfl⟩ := rd_vf hTq
  obtain ⟨AS, cS, rfl⟩ := rd_vf hRq
  have HG := Lib.hid (fun g W hg hc => great24_any ⟨z, .slice AT z.table.length cT, .slice AR z.tail.length cR, ⟨_, _, rfl⟩, ⟨_, _, rfl⟩⟩ ⟨q, .slice AU q.table.length cU, .slice AS q.tail.length cS, ⟨_, _, rfl⟩, ⟨_, _, rfl⟩⟩ g W hg hc)
  clear hTz hRz hTq hRq hm hfz hfq
  unfold encZ Zn.cellsZ at HG
  dsimp only at HG
  unfold LocEnd at HI1 HI2 HI3
  have b0 := (((Blk.new w #[.string z.nm, .int .i64 z.first.off, .int .i64 z.first.sv, .string z.first.nm, .slice AT z.table.length cT, .slice AR z.tail.length cR, .int .i64 z.off, .string z.form, .int .i64 z.year] 27).alloc (.cells #[.string q.nm, .int .i64 q.first.off, .int .i64 q.first.sv, .string q.first.nm, .slice AU q.table.length cU, .slice AS q.tail.length cS, .int .i64 q.off, .string q.form, .int .i64 q.year] 27)).alloc (.cells #[.int .i64 a, .int .i64 b] 29)).alloc (.cells #[.int .i64 g, .int .i64 f] 44)
  have b1 := ((Blk.new (w.alloc (.cells #[.string z.nm, .int .i64 z.first.off, .int .i64 z.first.sv, .string z.first.nm, .slice AT z.table.length cT, .slice AR z.tail.length cR, .int .i64 z.off, .string z.form, .int .i64 z.year] 27)) #[.string q.nm, .int .i64 q.first.off, .int .i64 q.first.sv, .string q.first.nm, .slice AU q.table.length cU, .slice AS q.tail.length cS, .int .i64 q.off, .string q.form, .int .i64 q.year] 27).alloc (.cells #[.int .i64 a, .int .i64 b] 29)).alloc (.cells #[.int .i64 g, .int .i64 f] 44)
  have b2 := (Blk.new ((w.alloc (.cells #[.string z.nm, .int .i64 z.first.off, .int .i64 z.first.sv, .string z.first.nm, .slice AT z.table.length cT, .slice AR z.tail.length cR, .int .i64 z.off, .string z.form, .int .i64 z.year] 27)).alloc (.cells #[.string q.nm, .int .i64 q.first.off, .int .i64 q.first.sv, .string q.first.nm, .slice AU q.table.length cU, .slice AS q.tail.length cS, .int .i64 q.off, .string q.form, .int .i64 q.year] 27)) #[.int .i64 a, .int .i64 b] 29).alloc (.cells #[.int .i64 g, .int .i64 f] 44)
  have b3 := Blk.new (((w.alloc (.cells #[.string z.nm, .int .i64 z.first.off, .int .i64 z.first.sv, .string z.first.nm, .slice AT z.table.length cT, .slice AR z.tail.length cR, .int .i64 z.off, .string z.form, .int .i64 z.year] 27)).alloc (.cells #[.string q.nm, .int .i64 q.first.off, .int .i64 q.first.sv, .string q.first.nm, .slice AU q.table.length cU, .slice AS q.tail.length cS, .int .i64 q.off, .string q.form, .int .i64 q.year] 27)).alloc (.cells #[.int .i64 a, .int .i64 b] 29)) #[.int .i64 g, .int .i64 f] 44
  simp only [World.size_alloc] at b1 b2 b3
  have hB3 : Below w.heap.size w ((((w.alloc (.cells #[.string z.nm, .int .i64 z.first.off, .int .i64 z.first.sv, .string z.first.nm, .slice AT z.table.length cT, .slice AR z.tail.length cR, .int .i64 z.off, .string z.form, .int .i64 z.year] 27)).alloc (.cells #[.string q.nm, .int .i64 q.first.off, .int .i64 q.first.sv, .string q.first.nm, .slice AU q.table.length cU, .slice AS q.tail.length cS, .int .i64 q.off, .string q.form, .int .i64 q.year] 27)).alloc (.cells #[.int .i64 a, .int .i64 b] 29)).alloc (.cells #[.int .i64 g, .int .i64 f] 44)) := ((((Below.refl _ _).alloc (Nat.le_refl _) _).alloc (by simp) _).alloc (by simp; omega) _).alloc (by simp; omega) _
  unfold Zn.v at HI1 HI2 HI3 HT1 HT2 ⊢
  go_enter Tryz.func6, Tryz.ntmps6
  go_wp2_with fail
  generalize ((((w.alloc (.cells #[.string z.nm, .int .i64 z.first.off, .int .i64 z.first.sv, .string z.first.nm, .slice AT z.table.length cT, .slice AR z.tail.length cR, .int .i64 z.off, .string z.form, .int .i64 z.year] 27)).alloc (.cells #[.string q.nm, .int .i64 q.first.off, .int .i64 q.first.sv, .string q.first.nm, .slice AU q.table.length cU, .slice AS q.tail.length cS, .int .i64 q.off, .string q.form, .int .i64 q.year] 27)).alloc (.cells #[.int .i64 a, .int .i64 b] 29)).alloc (.cells #[.int .i64 g, .int .i64 f] 44)) = W at *
  have hw : w.heap.size ≤ W.heap.size := hB3.size
  refine (HA.out W hB3).mono ?_
  rintro e w1 ⟨rfl, hb1⟩
  clear HA
  have Kz := b0.below hb1 b0.lt
  have Lz := Kz.lt
  have z0 := blk_cl Kz 0 _ rfl
  have z1 := blk_cl Kz 1 _ rfl
  have z2 := blk_cl Kz 2 _ rfl
  have z3 := blk_cl Kz 3 _ rfl
  have z4 := blk_cl Kz 4 _ rfl
  have z5 := blk_cl Kz 5 _ rfl
  have z6 := blk_cl Kz 6 _ rfl
  have z7 := blk_cl Kz 7 _ rfl
  have z8 := blk_cl Kz 8 _ rfl
  have Kq := b1.below hb1 b1.lt
  have Lq := Kq.lt
  have q0 := blk_cl Kq 0 _ rfl
  have q1 := blk_cl Kq 1 _ rfl
  have q2 := blk_cl Kq 2 _ rfl
  have q3 := blk_cl Kq 3 _ rfl
  have q4 := blk_cl Kq 4 _ rfl
  have q5 := blk_cl Kq 5 _ rfl
  have q6 := blk_cl Kq 6 _ rfl
  have q7 := blk_cl Kq 7 _ rfl
  have q8 := blk_cl Kq 8 _ rfl
  have Ki := b2.below hb1 b2.lt
  have Li := Ki.lt
  have i0 := blk_cl Ki 0 _ rfl
  have i1 := blk_cl Ki 1 _ rfl
  have Kp := b3.below hb1 b3.lt
  have Lp := Kp.lt
  have p0 := blk_cl Kp 0 _ rfl
  have p1 := blk_cl Kp 1 _ rfl
  have ba := Blk.new w1 #[.string z.nm, .int .i64 z.first.off, .int .i64 z.first.sv, .string z.first.nm, .slice AT z.table.length cT, .slice AR z.tail.length cR, .int .i64 z.off, .string z.form, .int .i64 z.year, .string q.nm, .int .i64 q.first.off, .int .i64 q.first.sv, .string q.first.nm, .slice AU q.table.length cU, .slice AS q.tail.length cS, .int .i64 q.off, .string q.form, .int .i64 q.year] 27
  have hb2 : Below W.heap.size W (w1.alloc (.cells #[.string z.nm, .int .i64 z.first.off, .int .i64 z.first.sv, .string z.first.nm, .slice AT z.table.length cT, .slice AR z.tail.length cR, .int .i64 z.off, .string z.form, .int .i64 z.year, .string q.nm, .int .i64 q.first.off, .int .i64 q.first.sv, .string q.first.nm, .slice AU q.table.length cU, .slice AS q.tail.length cS, .int .i64 q.off, .string q.form, .int .i64 q.year] 27)) := hb1.alloc hb1.size _
  go_wp2_with fail
  generalize hwa : w1.alloc (.cells #[.string z.nm, .int .i64 z.first.off, .int .i64 z.first.sv, .string z.first.nm, .slice AT z.table.length cT, .slice AR z.tail.length cR, .int .i64 z.off, .string z.form, .int .i64 z.year, .string q.nm, .int .i64 q.first.off, .int .i64 q.first.sv, .string q.first.nm, .slice AU q.table.length cU, .slice AS q.tail.length cS, .int .i64 q.off, .string q.form, .int .i64 q.year] 27) = w2 at *
  clear hwa
  refine (HG.out _ w2 ba.lt (fun j u hj => ba.cell j (by simpa using hj))).mono ?_
  rintro e w3 ⟨rfl, hb3⟩
  have hb3 := hb2.trans (hb3.mono hb2.size)
  clear Kz Lz z0 z1 z2 z3 z4 z5 z6 z7 z8 Kq Lq q0 q1 q2 q3 q4 q5 q6 q7 q8 Ki Li i0 i1
  clear HG ba
  by_cases hbig : (bigV z || bigV q) = true
  · rw [hbig]
    go_wp2
    go_ret
    exact ⟨rfl, hB3.trans (hb3.mono hw)⟩
  have hbig0 : (bigV z || bigV q) = false := by simpa using hbig
  rw [hbig0]
  obtain ⟨⟨hzt, hzl⟩, hqt, hql⟩ := big_partsR hbig0
  clear hbig hbig0
  have Ki := b2.below hb3 b2.lt
  have Li := Ki.lt
  have i0 := blk_cl Ki 0 _ rfl
  have i1 := blk_cl Ki 1 _ rfl
  go_wp2_with fail
  refine (HL.out w3).mono ?_
  rintro e w4 ⟨rfl, hb4⟩
  have hb4 := hb3.trans (hb4.mono hb3.size)
  clear Ki Li i0 i1
  by_cases hlg : longV a b 4 = true
  · rw [hlg]
    go_wp2
    go_ret
    exact ⟨rfl, hB3.trans (hb4.mono hw)⟩
  have hlg0 : longV a b 4 = false := by simpa using hlg
  rw [hlg0]
  have hspan : spanV a b = true → b - a ≤ 126489600 := by
    intro hs
    unfold longV at hlg0
    rw [hs] at hlg0
    simp at hlg0
    omega
  clear hlg hlg0 HL
  have HI1 := Lib.hid (fun W hb => HI1.out (by omega) (by omega) (by omega) (by omega) (fun hv h => by have := hspan h; have := bet_countN hv (T := 60) (R := 6) (Y := 5) (by assumption) (by assumption) (a := cutA a) (b := cutB b) (by unfold cutA cutB; omega); omega) (fun hv h => by have := hspan h; have := bet_countN hv (T := 60) (R := 6) (Y := 5) (by assumption) (by assumption) (a := cutA a) (b := cutB b) (by unfold cutA cutB; omega); omega) W hb)
  have HI2 := Lib.hid (fun W hb => HI2.out (by omega) (by omega) (by omega) (by omega) (fun hv h => by have := hspan h; have := bet_countN hv (T := 60) (R := 6) (Y := 5) (by assumption) (by assumption) (a := cutA a) (b := cutB b) (by unfold cutA cutB; omega); omega) (fun hv h => by have := hspan h; have := bet_countN hv (T := 60) (R := 6) (Y := 5) (by assumption) (by assumption) (a := cutA a) (b := cutB b) (by unfold cutA cutB; omega); omega) W hb)
  have HI3 := Lib.hid (fun W hb => HI3.out (by omega) (by omega) (fun hv h => by have := hspan h; have := bet_countN hv (T := 60) (R := 6) (Y := 5) (by assumption) (by assumption) (a := cutA a) (b := cutB b) (by unfold cutA cutB; omega); omega) W hb)
  have HT1 := Lib.hid (fun W hb => HT1.out (by omega) (by omega) W hb)
  have HT2 := Lib.hid (fun W hb => HT2.out (by omega) (by omega) W hb)
  clear hspan
  have Kz := b0.below hb4 b0.lt
  have Lz := Kz.lt
  have z0 := blk_cl Kz 0 _ rfl
  have z1 := blk_cl Kz 1 _ rfl
  have z2 := blk_cl Kz 2 _ rfl
  have z3 := blk_cl Kz 3 _ rfl
  have z4 := blk_cl Kz 4 _ rfl
  have z5 := blk_cl Kz 5 _ rfl
  have z6 := blk_cl Kz 6 _ rfl
  have z7 := blk_cl Kz 7 _ rfl
  have z8 := blk_cl Kz 8 _ rfl
  have Kq := b1.below hb4 b1.lt
  have Lq := Kq.lt
  have q0 := blk_cl Kq 0 _ rfl
  have q1 := blk_cl Kq 1 _ rfl
  have q2 := blk_cl Kq 2 _ rfl
  have q3 := blk_cl Kq 3 _ rfl
  have q4 := blk_cl Kq 4 _ rfl
  have q5 := blk_cl Kq 5 _ rfl
  have q6 := blk_cl Kq 6 _ rfl
  have q7 := blk_cl Kq 7 _ rfl
  have q8 := blk_cl Kq 8 _ rfl
  have Ki := b2.below hb4 b2.lt
  have Li := Ki.lt
  have i0 := blk_cl Ki 0 _ rfl
  have i1 := blk_cl Ki 1 _ rfl
  have Kp := b3.below hb4 b3.lt
  have Lp := Kp.lt
  have p0 := blk_cl Kp 0 _ rfl
  have p1 := blk_cl Kp 1 _ rfl
  go_wp2_with fail
  refine (HI1.out w4 (hB3.trans (hb4.mono hw))).mono ?_
  rintro e w5 ⟨hb5, h5⟩
  have hbA5 := hb4.trans (hb5.mono hb4.size)
  clear HI1
  clear Kz Lz z0 z1 z2 z3 z4 z5 z6 z7 z8 Kq Lq q0 q1 q2 q3 q4 q5 q6 q7 q8 Ki Li i0 i1 Kp Lp p0 p1
  have Kz := b0.below hbA5 b0.lt
  have Lz := Kz.lt
  have z0 := blk_cl Kz 0 _ rfl
  have z1 := blk_cl Kz 1 _ rfl
  have z2 := blk_cl Kz 2 _ rfl
  have z3 := blk_cl Kz 3 _ rfl
  have z4 := blk_cl Kz 4 _ rfl
  have z5 := blk_cl Kz 5 _ rfl
  have z6 := blk_cl Kz 6 _ rfl
  have z7 := blk_cl Kz 7 _ rfl
  have z8 := blk_cl Kz 8 _ rfl
  have Kq := b1.below hbA5 b1.lt
  have Lq := Kq.lt
  have q0 := blk_cl Kq 0 _ rfl
  have q1 := blk_cl Kq 1 _ rfl
  have q2 := blk_cl Kq 2 _ rfl
  have q3 := blk_cl Kq 3 _ rfl
  have q4 := blk_cl Kq 4 _ rfl
  have q5 := blk_cl Kq 5 _ rfl
  have q6 := blk_cl Kq 6 _ rfl
  have q7 := blk_cl Kq 7 _ rfl
  have q8 := blk_cl Kq 8 _ rfl
  have Ki := b2.below hbA5 b2.lt
  have Li := Ki.lt
  have i0 := blk_cl Ki 0 _ rfl
  have i1 := blk_cl Ki 1 _ rfl
  have Kp := b3.below hbA5 b3.lt
  have Lp := Kp.lt
  have p0 := blk_cl Kp 0 _ rfl
  have p1 := blk_cl Kp 1 _ rfl
  have HBW := Lib.hid (fun w' (hb : Below W.heap.size W w') => hB3.trans (hb.mono hw))
  rcases h5 with ⟨hbad, rfl⟩ | ⟨hvz, hvq, hpo, hsp, out, u5, hc5, hm5, hl5, rfl, hown5⟩
  · go_wp2_with fail
    refine (HI2.out w5 (HBW.out _ hbA5)).mono ?_
    rintro e w6 ⟨hb6, h6⟩
    have hbA6 := hbA5.trans (hb6.mono hbA5.size)
    clear HI2
    clear Kz Lz z0 z1 z2 z3 z4 z5 z6 z7 z8 Kq Lq q0 q1 q2 q3 q4 q5 q6 q7 q8 Ki Li i0 i1 Kp Lp p0 p1
    rcases h6 with ⟨_, rfl⟩ | ⟨hvq, hvz, hpo, hsp, _⟩
    case inr => rcases hbad with h | h | h | h <;> simp_all
    have Kz := b0.below hbA6 b0.lt
    have Lz := Kz.lt
    have z0 := blk_cl Kz 0 _ rfl
    have z1 := blk_cl Kz 1 _ rfl
    have z2 := blk_cl Kz 2 _ rfl
    have z3 := blk_cl Kz 3 _ rfl
    have z4 := blk_cl Kz 4 _ rfl
    have z5 := blk_cl Kz 5 _ rfl
    have z6 := blk_cl Kz 6 _ rfl
    have z7 := blk_cl Kz 7 _ rfl
    have z8 := blk_cl Kz 8 _ rfl
    have Ki := b2.below hbA6 b2.lt
    have Li := Ki.lt
    have i0 := blk_cl Ki 0 _ rfl
    have i1 := blk_cl Ki 1 _ rfl
    have Kp := b3.below hbA6 b3.lt
    have Lp := Kp.lt
    have p0 := blk_cl Kp 0 _ rfl
    have p1 := blk_cl Kp 1 _ rfl
    go_wp2_with fail
    refine (HI3.out w6 (HBW.out _ hbA6)).mono ?_
    rintro e w7 ⟨hb7, h7⟩
    have hbA7 := hbA6.trans (hb7.mono hbA6.size)
    clear HI3
    clear Kz Lz z0 z1 z2 z3 z4 z5 z6 z7 z8 Ki Li i0 i1 Kp Lp p0 p1
    rcases h7 with ⟨_, rfl⟩ | ⟨_, _, _, _, out7, u7, _, _, _, rfl, hown7⟩
    · go_wp2
      go_ret
      exact ⟨rfl, HBW.out _ hbA7⟩
    · have hn7 := noSpot_own hown7
      obtain ⟨A7, c7, rfl⟩ := rd_vf (rd_of_own encN_len hown7 rfl)
      go_wp2
      go_ret
      exact ⟨rfl, HBW.out _ hbA7⟩
  have hn5 := noSpot_own hown5
  have HR5 := Lib.hid (rd_of_own encN_len hown5 rfl)
  clear hown5
  go_wp2_with fail
  refine (HI2.out w5 (HBW.out _ hbA5)).mono ?_
  rintro e w6 ⟨hb6, h6⟩
  have hbA6 := hbA5.trans (hb6.mono hbA5.size)
  have HR6 := Lib.hid (HR5.out.on hb6)
  clear HI2 HR5
  clear Kz Lz z0 z1 z2 z3 z4 z5 z6 z7 z8 Kq Lq q0 q1 q2 q3 q4 q5 q6 q7 q8 Ki Li i0 i1 Kp Lp p0 p1
  rcases h6 with ⟨hbad, _⟩ | ⟨_, _, _, _, out6, u6, hc6, hm6, _, rfl, hown6⟩
  · rcases hbad with h | h | h | h <;> simp_all
  have hsame : out6 = out := canon_ext hc6 hc5 fun x => by rw [hm6 x, hm5 x]; exact and_congr_right fun _ => ne_comm
  subst hsame
  have hn6 := noSpot_own hown6
  have HQ6 := Lib.hid (rd_of_own encN_len hown6 rfl)
  clear hown6 hm6 hc6
  have Kz := b0.below hbA6 b0.lt
  have Lz := Kz.lt
  have z0 := blk_cl Kz 0 _ rfl
  have z1 := blk_cl Kz 1 _ rfl
  have z2 := blk_cl Kz 2 _ rfl
  have z3 := blk_cl Kz 3 _ rfl
  have z4 := blk_cl Kz 4 _ rfl
  have z5 := blk_cl Kz 5 _ rfl
  have z6 := blk_cl Kz 6 _ rfl
  have z7 := blk_cl Kz 7 _ rfl
  have z8 := blk_cl Kz 8 _ rfl
  have Ki := b2.below hbA6 b2.lt
  have Li := Ki.lt
  have i0 := blk_cl Ki 0 _ rfl
  have i1 := blk_cl Ki 1 _ rfl
  have Kp := b3.below hbA6 b3.lt
  have Lp := Kp.lt
  have p0 := blk_cl Kp 0 _ rfl
  have p1 := blk_cl Kp 1 _ rfl
  go_wp2_with fail
  refine (HI3.out w6 (HBW.out _ hbA6)).mono ?_
  rintro e w7 ⟨hb7, h7⟩
  have hbA7 := hbA6.trans (hb7.mono hbA6.size)
  have HR7 := Lib.hid (HR6.out.on hb7)
  have HQ7 := Lib.hid (HQ6.out.on hb7)
  clear HI3 HR6 HQ6
  clear Kz Lz z0 z1 z2 z3 z4 z5 z6 z7 z8 Ki Li i0 i1 Kp Lp p0 p1
  rcases h7 with ⟨hbad, _⟩ | ⟨_, _, _, _, out7, u7, hc7, hm7, _, rfl, hown7⟩
  · rcases hbad with h | h | h | h <;> simp_all
  have hnone : out7 = [] := no_span (p := fun t => a ≤ t ∧ t < b) (f := fun t => z.resV t g f) hc7 hm7
  subst hnone
  have hn7 := noSpot_own hown7
  obtain ⟨A7, c7, rfl⟩ := rd_vf (rd_of_own encN_len hown7 rfl)
  clear hown7 hm7 hc7
  obtain ⟨A5, c5, rfl⟩ := rd_vf HR7.out
  obtain ⟨A6, c6, rfl⟩ := rd_vf HQ7.out
  go_wp2_with fail
  refine (same_yes out6 _ _ w7 (by omega) HR7.out HQ7.out).mono ?_
  rintro e w8 ⟨rfl, hb8⟩
  have hbA8 := hbA7.trans (hb8.mono hbA7.size)
  have HR8 := Lib.hid (HR7.out.on hb8)
  clear HQ7 HR7
  have Ki := b2.below hbA8 b2.lt
  have Li := Ki.lt
  have i0 := blk_cl Ki 0 _ rfl
  have i1 := blk_cl Ki 1 _ rfl
  have HHA := Lib.hid (has_any out6 (.slice A5 out6.length c5) t w8 (by omega) HR8.out)
  by_cases h1 : t < a
  · have d1 : decide (t < a) = true := decide_eq_true h1
    have hh : hasV out6 t = false := by rw [← Bool.not_eq_true, hasV_iff, hm5 t]; rintro ⟨h, _⟩; omega
    rw [hh] at HHA
    go_wp2_with fail
    refine HHA.out.mono ?_
    rintro e w9 ⟨rfl, hb9⟩
    go_wp2
    go_ret
    exact ⟨rfl, HBW.out _ (hbA8.trans (hb9.mono hbA8.size))⟩
  have d1 : decide (t < a) = false := decide_eq_false h1
  by_cases h2 : b ≤ t
  · have d2 : decide (b ≤ t) = true := decide_eq_true h2
    have hh : hasV out6 t = false := by rw [← Bool.not_eq_true, hasV_iff, hm5 t]; rintro ⟨h, _⟩; omega
    rw [hh] at HHA
    go_wp2_with fail
    refine HHA.out.mono ?_
    rintro e w9 ⟨rfl, hb9⟩
    go_wp2
    go_ret
    exact ⟨rfl, HBW.out _ (hbA8.trans (hb9.mono hbA8.size))⟩
  have d2 : decide (b ≤ t) = false := decide_eq_false h2
  have hsp2 : -62135596800 ≤ a ∧ a < b ∧ b ≤ 253402300800 := by
    unfold spanV at hsp
    simp at hsp
    omega
  have HHV := Lib.hid (show hasV out6 t = decide (z.resV t g f ≠ q.resV t g f) from by rw [Bool.eq_iff_iff, hasV_iff, hm5 t, decide_eq_true_eq]; exact ⟨fun h => h.2, fun h => ⟨⟨by omega, by omega⟩, h⟩⟩)
  clear HHA hm5 hc5
  generalize z.resV t g f = X at *
  generalize q.resV t g f = Y at *
  obtain ⟨X1, X2⟩ := X
  obtain ⟨Y1, Y2⟩ := Y
  dsimp only at HT1 HT2
  have Kz := b0.below hbA8 b0.lt
  have Lz := Kz.lt
  have z0 := blk_cl Kz 0 _ rfl
  have z1 := blk_cl Kz 1 _ rfl
  have z2 := blk_cl Kz 2 _ rfl
  have z3 := blk_cl Kz 3 _ rfl
  have z4 := blk_cl Kz 4 _ rfl
  have z5 := blk_cl Kz 5 _ rfl
  have z6 := blk_cl Kz 6 _ rfl
  have z7 := blk_cl Kz 7 _ rfl
  have z8 := blk_cl Kz 8 _ rfl
  have Kp := b3.below hbA8 b3.lt
  have Lp := Kp.lt
  have p0 := blk_cl Kp 0 _ rfl
  have p1 := blk_cl Kp 1 _ rfl
  go_wp2_with fail
  refine (HT1.out w8 (HBW.out _ hbA8)).mono ?_
  rintro e w9 ⟨rfl, hb9⟩
  have hbA9 := hbA8.trans (hb9.mono hbA8.size)
  clear HT1
  clear Kz Lz z0 z1 z2 z3 z4 z5 z6 z7 z8 Ki Li i0 i1 Kp Lp p0 p1
  have HR9 := Lib.hid (HR8.out.on hb9)
  have Kq := b1.below hbA9 b1.lt
  have Lq := Kq.lt
  have q0 := blk_cl Kq 0 _ rfl
  have q1 := blk_cl Kq 1 _ rfl
  have q2 := blk_cl Kq 2 _ rfl
  have q3 := blk_cl Kq 3 _ rfl
  have q4 := blk_cl Kq 4 _ rfl
  have q5 := blk_cl Kq 5 _ rfl
  have q6 := blk_cl Kq 6 _ rfl
  have q7 := blk_cl Kq 7 _ rfl
  have q8 := blk_cl Kq 8 _ rfl
  have Kp := b3.below hbA9 b3.lt
  have Lp := Kp.lt
  have p0 := blk_cl Kp 0 _ rfl
  have p1 := blk_cl Kp 1 _ rfl
  go_wp2_with fail
  refine (HT2.out w9 (HBW.out _ hbA9)).mono ?_
  rintro e w10 ⟨rfl, hb10⟩
  have hbA10 := hbA9.trans (hb10.mono hbA9.size)
  clear HT2
  clear Kq Lq q0 q1 q2 q3 q4 q5 q6 q7 q8 Kp Lp p0 p1
  have HRa := Lib.hid (HR9.out.on hb10)
  go_wp2_with fail
  refine (has_any out6 (.slice A5 out6.length c5) t w10 (by omega) HRa.out).mono ?_
  rintro e w11 ⟨rfl, hb11⟩
  have hbA11 := hbA10.trans (hb11.mono hbA10.size)
  rw [HHV.out]
  by_cases h1 : X1 = Y1
  · have e1 : (X1 == Y1) = true := by rw [beq_iff_eq]; exact h1
    by_cases h2 : X2 = Y2
    · have e2 : (X2 == Y2) = true := by rw [beq_iff_eq]; exact h2
      go_wp2
      go_ret
      exact ⟨ret1 (vbool (by simp [h1, h2])), HBW.out _ hbA11⟩
    · have e2 : (X2 == Y2) = false := by rw [beq_eq_false_iff_ne]; exact h2
      go_wp2
      go_ret
      exact ⟨ret1 (vbool (by simp [h1, h2])), HBW.out _ hbA11⟩
  · have e1 : (X1 == Y1) = false := by rw [beq_eq_false_iff_ne]; exact h1
    go_wp2
    go_ret
    exact ⟨ret1 (vbool (by simp [h1])), HBW.out _ hbA11⟩

end Go.Proofs.YtoonaidpmahgcaaGreat

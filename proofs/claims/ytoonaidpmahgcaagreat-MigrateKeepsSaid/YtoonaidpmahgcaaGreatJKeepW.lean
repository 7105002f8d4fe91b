/- migrate.kept. Printed by gen_keepw.py. -/
import Derived.Test.YtoonaidpmahgcaaGreatJKeepP
import Derived.Test.YtoonaidpmahgcaaGreatGMig
import Derived.Test.YtoonaidpmahgcaaGreatGLb
namespace Go.Proofs.YtoonaidpmahgcaaGreat
set_option linter.unusedSimpArgs false
set_option linter.unusedVariables false
open Go.ChangeShapes Go.WideShapes Go.ChangeAt Go.RowKit Go.Sort Go.Lib

theorem Instant_any (t : Int) (w : World) : Calls Tryz.prog 167 #[.int .i64 t] w fun e w' => e = .returned (.agg #[.int .i64 t, .string ⟨#[]⟩, .int .i64 0, .int .i64 0]) ∧ Below w.heap.size w w' := by
  go_enter Tryz.func167, Tryz.ntmps167
  go_wp2
  exact bodyPost_ret (v := .agg #[.int .i64 t, .string ⟨#[]⟩, .int .i64 0, .int .i64 0]) (by simp [results, Tryz.results167, go_sem]) rfl ⟨rfl, (Below.refl _ _).alloc (Nat.le_refl _) _⟩
theorem whenAt (x : Int) (p : Bool) (w : World) : (Instr.field 181 (.agg #[.int .i64 x, .bool p]) 0).run Tryz.prog w = .ok (.int .i64 x) w := by kernel_rfl
theorem set4b {W : World} {B : Nat} {T : TypeId} {a0 a1 a2 a3 a4 a5 : Value} (h : Blk W B #[a0, a1, a2, a3, a4, a5] T) (v1 v2 v3 v4 : Value) :
    Blk ((((W.setCell ⟨B, 1, none⟩ v1).setCell ⟨B, 2, none⟩ v2).setCell ⟨B, 3, none⟩ v3).setCell ⟨B, 4, none⟩ v4) B #[a0, v1, v2, v3, v4, a5] T := by
  have := (((h.setAt 1 v1).setAt 2 v2).setAt 3 v3).setAt 4 v4
  simpa using this
theorem set4b_other {W : World} {B B' : Nat} {T : TypeId} {cs : Array Value} (h : Blk W B cs T) (hne : B ≠ B') (v1 v2 v3 v4 : Value) :
    Blk ((((W.setCell ⟨B', 1, none⟩ v1).setCell ⟨B', 2, none⟩ v2).setCell ⟨B', 3, none⟩ v3).setCell ⟨B', 4, none⟩ v4) B cs T :=
  (((h.other hne v1).other hne v2).other hne v3).other hne v4
theorem set4b_below {w W : World} {n B : Nat} (h : Below n w W) (hB : n ≤ B) (v1 v2 v3 v4 : Value) :
    Below n w ((((W.setCell ⟨B, 1, none⟩ v1).setCell ⟨B, 2, none⟩ v2).setCell ⟨B, 3, none⟩ v3).setCell ⟨B, 4, none⟩ v4) :=
  (((h.setCell (p := ⟨B, 1, none⟩) hB v1).setCell (p := ⟨B, 2, none⟩) hB v2).setCell (p := ⟨B, 3, none⟩) hB v3).setCell (p := ⟨B, 4, none⟩) hB v4
theorem set6 {W : World} {B : Nat} {T : TypeId} {a0 a1 a2 a3 a4 a5 : Value} (h : Blk W B #[a0, a1, a2, a3, a4, a5] T) (v0 v1 v2 v3 v4 v5 : Value) :
    Blk ((((((W.setCell ⟨B, 0, none⟩ v0).setCell ⟨B, 1, none⟩ v1).setCell ⟨B, 2, none⟩ v2).setCell ⟨B, 3, none⟩ v3).setCell ⟨B, 4, none⟩ v4).setCell ⟨B, 5, none⟩ v5) B #[v0, v1, v2, v3, v4, v5] T := by
  have := (((((h.setAt 0 v0).setAt 1 v1).setAt 2 v2).setAt 3 v3).setAt 4 v4).setAt 5 v5
  simpa using this
theorem set6_below {w W : World} {n B : Nat} (h : Below n w W) (hB : n ≤ B) (v0 v1 v2 v3 v4 v5 : Value) :
    Below n w ((((((W.setCell ⟨B, 0, none⟩ v0).setCell ⟨B, 1, none⟩ v1).setCell ⟨B, 2, none⟩ v2).setCell ⟨B, 3, none⟩ v3).setCell ⟨B, 4, none⟩ v4).setCell ⟨B, 5, none⟩ v5) :=
  (((((h.setCell (p := ⟨B, 0, none⟩) hB v0).setCell (p := ⟨B, 1, none⟩) hB v1).setCell (p := ⟨B, 2, none⟩) hB v2).setCell (p := ⟨B, 3, none⟩) hB v3).setCell (p := ⟨B, 4, none⟩) hB v4).setCell (p := ⟨B, 5, none⟩) hB v5
set_option maxRecDepth 100000 in
set_option maxHeartbeats 3000000 in
theorem kept_any (L : List VV) (vH : Value) (a b : ByteArray) (i : Int) (x : Ent) (w : World) (hm : HasMax w) (hg : GoodH w vH L) (hk : OkH L) : Calls Tryz.prog 101 #[.agg #[vH], .string a, .string b, .int .i64 i, .agg (encEn x).toArray] w fun e w' => e = .returned (.agg (encEn (keptF L a b x)).toArray) ∧ Below w.heap.size w w' := by
  have HC := Lib.hid (fun W (hb : Below w.heap.size w W) => change_any L vH a b i x W (hm.on hb) (hg.on hb) hk)
  have HA := Lib.hid (fun W (hb : Below w.heap.size w W) => start_any L vH a x W (hm.on hb) (hg.on hb) hk)
  have HF := Lib.hid (fun W (hb : Below w.heap.size w W) => Find_his L vH b x.st.zn W (hm.on hb) (hg.on hb) hk)
  have HS := Lib.hid (fun s W (hb : Below w.heap.size w W) => Resolve_his L vH b s W (hm.on hb) (hg.on hb) hk)
  have HO := Lib.hid (fun (y : ZV) (h : (findF L b x.st.zn).1 = some y) t W (hb : Below w.heap.size w W) => show Calls Tryz.prog 166 #[y.z.v y.vT y.vR, .int .i64 t] W fun e w' => e = .returned (.tuple #[.int .i64 (y.z.ofV t).1, .int .i64 (y.z.ofV t).2]) ∧ Below W.heap.size W w' from by
    obtain ⟨_, v, hx, hy⟩ := findF_mem h
    have ho := (hk.g v hx).g y hy
    have hgz := (hg.g v hx).g y hy
    exact Of_any y.z y.vT y.vR t W (hm.on hb) (hgz.1.on hb) (hgz.2.on hb) ho.2.2 (.inl ho.1))
  obtain ⟨A, c, rfl⟩ := rd_vf hg.r
  clear hg hk hm
  have HKF := Lib.hid (show keepS L a b x.st = if kindF (rsvF L a x.st) (rsvF L b x.st) = 0 ∨ kindF (rsvF L a x.st) (rsvF L b x.st) = 3 then x.st else orIns (rsvF L a x.st).1 (keepL L b x.st (rsvF L a x.st).1) from rfl)
  have HER := Lib.hid (fun h => findF_err (L := L) (vn := b) (zn := x.st.zn) h)
  have HEO := Lib.hid (fun y h => (findF_mem (L := L) (vn := b) (zn := x.st.zn) (y := y) h).1)
  have HKL := Lib.hid (fun t => show keepL L b x.st t = (match (findF L b x.st.zn).1 with
    | none => none
    | some y => if (y.z.ofV t).2 = 0 then (if (rsvF L b (locStm x.st (y.z.ofV t).1)).2 = 0 ∧ (rsvF L b (locStm x.st (y.z.ofV t).1)).1 = t then some (locStm x.st (y.z.ofV t).1) else none) else none) from rfl)
  unfold migF migOf encM at HC
  unfold whenV at HA
  dsimp only at HC HA
  generalize hkd : kindF (rsvF L a x.st) (rsvF L b x.st) = kd at *
  generalize rsvF L a x.st = r at *
  generalize (rsvF L b x.st).1 = s1 at *
  obtain ⟨r1, r2⟩ := r
  dsimp only at HC HA HKF
  have HKR := Lib.hid (HKL.out r1)
  clear HKL
  generalize findF L b x.st.zn = q at *
  obtain ⟨q1, q2⟩ := q
  dsimp only at HF HO HER HEO HKR
  unfold encStm at HS
  unfold encEn at HC HA ⊢
  unfold keptF
  dsimp only
  generalize keepS L a b x.st = ks at *
  clear hkd
  have b0 := ((Blk.new w #[.slice A L.length c] 58).alloc (.cells #[.string x.nm, .int .i64 x.st.at_, .string x.st.zn, .int .i64 x.st.gap, .int .i64 x.st.fold, .int .i64 x.ln] 67)).alloc (.cells #[.string ⟨#[]⟩, .int .i64 0, .string ⟨#[]⟩, .int .i64 0, .int .i64 0, .int .i64 0] 67)
  have b1 := (Blk.new (w.alloc (.cells #[.slice A L.length c] 58)) #[.string x.nm, .int .i64 x.st.at_, .string x.st.zn, .int .i64 x.st.gap, .int .i64 x.st.fold, .int .i64 x.ln] 67).alloc (.cells #[.string ⟨#[]⟩, .int .i64 0, .string ⟨#[]⟩, .int .i64 0, .int .i64 0, .int .i64 0] 67)
  have b2 := Blk.new ((w.alloc (.cells #[.slice A L.length c] 58)).alloc (.cells #[.string x.nm, .int .i64 x.st.at_, .string x.st.zn, .int .i64 x.st.gap, .int .i64 x.st.fold, .int .i64 x.ln] 67)) #[.string ⟨#[]⟩, .int .i64 0, .string ⟨#[]⟩, .int .i64 0, .int .i64 0, .int .i64 0] 67
  simp only [World.size_alloc] at b1 b2
  have hB3 : Below w.heap.size w (((w.alloc (.cells #[.slice A L.length c] 58)).alloc (.cells #[.string x.nm, .int .i64 x.st.at_, .string x.st.zn, .int .i64 x.st.gap, .int .i64 x.st.fold, .int .i64 x.ln] 67)).alloc (.cells #[.string ⟨#[]⟩, .int .i64 0, .string ⟨#[]⟩, .int .i64 0, .int .i64 0, .int .i64 0] 67)) := (((Below.refl _ _).alloc (Nat.le_refl _) _).alloc (by simp) _).alloc (by simp; omega) _
  show Calls Tryz.prog 101 #[.agg #[.slice A L.length c], .string a, .string b, .int .i64 i, .agg #[.string x.nm, .int .i64 x.st.at_, .string x.st.zn, .int .i64 x.st.gap, .int .i64 x.st.fold, .int .i64 x.ln]] w _
  have h0 := blk_cl b0 0 _ rfl
  have hl := b0.lt
  have m0 := blk_cl b1 0 _ rfl
  have m1 := blk_cl b1 1 _ rfl
  have m2 := blk_cl b1 2 _ rfl
  have m3 := blk_cl b1 3 _ rfl
  have m4 := blk_cl b1 4 _ rfl
  have m5 := blk_cl b1 5 _ rfl
  have ml := b1.lt
  go_enter Tryz.func101, Tryz.ntmps101
  go_wp2_with fail
  generalize ((w.alloc (.cells #[.slice A L.length c] 58)).alloc (.cells #[.string x.nm, .int .i64 x.st.at_, .string x.st.zn, .int .i64 x.st.gap, .int .i64 x.st.fold, .int .i64 x.ln] 67)).alloc (.cells #[.string ⟨#[]⟩, .int .i64 0, .string ⟨#[]⟩, .int .i64 0, .int .i64 0, .int .i64 0] 67) = W at *
  clear h0 hl m0 m1 m2 m3 m4 m5 ml
  refine (HC.out W hB3).mono ?_
  rintro e w1 ⟨rfl, hb1⟩
  have hB4 := hB3.trans (hb1.mono hB3.size)
  have hB5 : Below w.heap.size w (w1.alloc (.cells #[.int .i64 i, .int .i64 kd, .int .i64 r1, .int .i64 s1] 70)) := hB4.alloc hB4.size _
  have b0 := (b0.below hb1 b0.lt).alloc (.cells #[.int .i64 i, .int .i64 kd, .int .i64 r1, .int .i64 s1] 70)
  have b1 := (b1.below hb1 b1.lt).alloc (.cells #[.int .i64 i, .int .i64 kd, .int .i64 r1, .int .i64 s1] 70)
  have b2 := (b2.below hb1 b2.lt).alloc (.cells #[.int .i64 i, .int .i64 kd, .int .i64 r1, .int .i64 s1] 70)
  have bm := Blk.new w1 #[.int .i64 i, .int .i64 kd, .int .i64 r1, .int .i64 s1] 70
  clear hb1 hB4 hB3 HC
  by_cases hk0 : kd = 0
  · obtain rfl : ks = x.st := HKF.out.trans (if_pos (.inl hk0))
    have d0 : (kd == 0) = true := by rw [hk0]; rfl
    have g0 := blk_cl bm 0 _ rfl
    have g1 := blk_cl bm 1 _ rfl
    have g2 := blk_cl bm 2 _ rfl
    have g3 := blk_cl bm 3 _ rfl
    have gl := bm.lt
    have hBz := hB5
    generalize hWA : w1.alloc (.cells #[.int .i64 i, .int .i64 kd, .int .i64 r1, .int .i64 s1] 70) = wz at *
    clear hk0
    go_upto_region 3 with fail
    clear g0 g1 g2 g3 gl
    try rw [hWA]
    have m0 := blk_cl b1 0 _ rfl
    have m1 := blk_cl b1 1 _ rfl
    have m2 := blk_cl b1 2 _ rfl
    have m3 := blk_cl b1 3 _ rfl
    have m4 := blk_cl b1 4 _ rfl
    have m5 := blk_cl b1 5 _ rfl
    have ml := b1.lt
    have zl := b2.lt
    have z0 := blk_cl b2 0 _ rfl
    have z1 := blk_cl b2 1 _ rfl
    have z2 := blk_cl b2 2 _ rfl
    have z3 := blk_cl b2 3 _ rfl
    have z4 := blk_cl b2 4 _ rfl
    have z5 := blk_cl b2 5 _ rfl
    have rf := fun i => b2.frozen i
    go_wp2
    have s6 := set6 b2 (.string x.nm) (.int .i64 x.st.at_) (.string x.st.zn) (.int .i64 x.st.gap) (.int .i64 x.st.fold) (.int .i64 x.ln)
    have hB9 := set6_below (B := w.heap.size + 1 + 1) hBz (by omega) (.string x.nm) (.int .i64 x.st.at_) (.string x.st.zn) (.int .i64 x.st.gap) (.int .i64 x.st.fold) (.int .i64 x.ln)
    have s0 := s6.cell 0 rfl
    have s1 := s6.cell 1 rfl
    have s2 := s6.cell 2 rfl
    have s3 := s6.cell 3 rfl
    have s4 := s6.cell 4 rfl
    have s5 := s6.cell 5 rfl
    clear s6 z0 z1 z2 z3 z4 z5 rf b2
    generalize ((((((wz).setCell ⟨w.heap.size + 1 + 1, 0, none⟩ _).setCell ⟨w.heap.size + 1 + 1, 1, none⟩ _).setCell ⟨w.heap.size + 1 + 1, 2, none⟩ _).setCell ⟨w.heap.size + 1 + 1, 3, none⟩ _).setCell ⟨w.heap.size + 1 + 1, 4, none⟩ _).setCell ⟨w.heap.size + 1 + 1, 5, none⟩ _ = w9 at *
    exact bodyPost_ret (v := .agg #[.string x.nm, .int .i64 x.st.at_, .string x.st.zn, .int .i64 x.st.gap, .int .i64 x.st.fold, .int .i64 x.ln]) (by simp [results, Tryz.results101, go_sem, s0, s1, s2, s3, s4, s5]) rfl ⟨rfl, hB9⟩
  by_cases hk3 : kd = 3
  · obtain rfl : ks = x.st := HKF.out.trans (if_pos (.inr hk3))
    have d0 : (kd == 0) = false := by rw [hk3]; rfl
    have d3 : (kd == 3) = true := by rw [hk3]; rfl
    have g0 := blk_cl bm 0 _ rfl
    have g1 := blk_cl bm 1 _ rfl
    have g2 := blk_cl bm 2 _ rfl
    have g3 := blk_cl bm 3 _ rfl
    have gl := bm.lt
    have hBz := hB5
    generalize hWA : w1.alloc (.cells #[.int .i64 i, .int .i64 kd, .int .i64 r1, .int .i64 s1] 70) = wz at *
    clear hk3
    go_upto_region 3 with fail
    clear g0 g1 g2 g3 gl
    try rw [hWA]
    have m0 := blk_cl b1 0 _ rfl
    have m1 := blk_cl b1 1 _ rfl
    have m2 := blk_cl b1 2 _ rfl
    have m3 := blk_cl b1 3 _ rfl
    have m4 := blk_cl b1 4 _ rfl
    have m5 := blk_cl b1 5 _ rfl
    have ml := b1.lt
    have zl := b2.lt
    have z0 := blk_cl b2 0 _ rfl
    have z1 := blk_cl b2 1 _ rfl
    have z2 := blk_cl b2 2 _ rfl
    have z3 := blk_cl b2 3 _ rfl
    have z4 := blk_cl b2 4 _ rfl
    have z5 := blk_cl b2 5 _ rfl
    have rf := fun i => b2.frozen i
    go_wp2
    have s6 := set6 b2 (.string x.nm) (.int .i64 x.st.at_) (.string x.st.zn) (.int .i64 x.st.gap) (.int .i64 x.st.fold) (.int .i64 x.ln)
    have hB9 := set6_below (B := w.heap.size + 1 + 1) hBz (by omega) (.string x.nm) (.int .i64 x.st.at_) (.string x.st.zn) (.int .i64 x.st.gap) (.int .i64 x.st.fold) (.int .i64 x.ln)
    have s0 := s6.cell 0 rfl
    have s1 := s6.cell 1 rfl
    have s2 := s6.cell 2 rfl
    have s3 := s6.cell 3 rfl
    have s4 := s6.cell 4 rfl
    have s5 := s6.cell 5 rfl
    clear s6 z0 z1 z2 z3 z4 z5 rf b2
    generalize ((((((wz).setCell ⟨w.heap.size + 1 + 1, 0, none⟩ _).setCell ⟨w.heap.size + 1 + 1, 1, none⟩ _).setCell ⟨w.heap.size + 1 + 1, 2, none⟩ _).setCell ⟨w.heap.size + 1 + 1, 3, none⟩ _).setCell ⟨w.heap.size + 1 + 1, 4, none⟩ _).setCell ⟨w.heap.size + 1 + 1, 5, none⟩ _ = w9 at *
    exact bodyPost_ret (v := .agg #[.string x.nm, .int .i64 x.st.at_, .string x.st.zn, .int .i64 x.st.gap, .int .i64 x.st.fold, .int .i64 x.ln]) (by simp [results, Tryz.results101, go_sem, s0, s1, s2, s3, s4, s5]) rfl ⟨rfl, hB9⟩
  have d0 : (kd == 0) = false := by rw [beq_eq_false_iff_ne]; exact hk0
  have d3 : (kd == 3) = false := by rw [beq_eq_false_iff_ne]; exact hk3
  have HKF := Lib.hid (HKF.out.trans (if_neg (fun h => h.elim hk0 hk3)))
  have g0 := blk_cl bm 0 _ rfl
  have g1 := blk_cl bm 1 _ rfl
  have g2 := blk_cl bm 2 _ rfl
  have g3 := blk_cl bm 3 _ rfl
  have gl := bm.lt
  have h0 := blk_cl b0 0 _ rfl
  have hl := b0.lt
  have m0 := blk_cl b1 0 _ rfl
  have m1 := blk_cl b1 1 _ rfl
  have m2 := blk_cl b1 2 _ rfl
  have m3 := blk_cl b1 3 _ rfl
  have m4 := blk_cl b1 4 _ rfl
  have m5 := blk_cl b1 5 _ rfl
  have ml := b1.lt
  generalize hWA : w1.alloc (.cells #[.int .i64 i, .int .i64 kd, .int .i64 r1, .int .i64 s1] 70) = wa at *
  clear hk0 hk3
  go_upto_region 4 with fail
  clear g0 g1 g2 g3 gl d0 d3
  try rw [hWA]
  go_wp2_with fail
  have WA := fun w => whenAt r1 (decide (r2 = 0)) w
  refine (HA.out wa hB5).mono ?_
  rintro e w2 ⟨rfl, hb2⟩
  have hB6 := hB5.trans (hb2.mono hB5.size)
  have b0 := b0.below hb2 b0.lt
  have b1 := b1.below hb2 b1.lt
  have b2 := b2.below hb2 b2.lt
  clear hb2 hB5 HA bm hWA
  clear h0 hl m0 m1 m2 m3 m4 m5 ml
  have h0 := blk_cl b0 0 _ rfl
  have hl := b0.lt
  have m0 := blk_cl b1 0 _ rfl
  have m1 := blk_cl b1 1 _ rfl
  have m2 := blk_cl b1 2 _ rfl
  have m3 := blk_cl b1 3 _ rfl
  have m4 := blk_cl b1 4 _ rfl
  have m5 := blk_cl b1 5 _ rfl
  have ml := b1.lt
  go_wp2_with fail
  refine (HF.out w2 hB6).mono ?_
  rintro e w3 ⟨rfl, hb3⟩
  have hB7 := hB6.trans (hb3.mono hB6.size)
  have b0 := b0.below hb3 b0.lt
  have b1 := b1.below hb3 b1.lt
  have b2 := b2.below hb3 b2.lt
  clear hb3 hB6 HF
  clear h0 hl m0 m1 m2 m3 m4 m5 ml
  cases q1 with
  | none =>
    have h7 : (q2 == 0) = false := by rw [beq_eq_false_iff_ne]; rcases HER.out rfl with h | h <;> omega
    dsimp only at HKR
    rw [show optZ none = .agg #[.string ⟨#[]⟩, .int .i64 0, .int .i64 0, .string ⟨#[]⟩, .slice none 0 0, .slice none 0 0, .int .i64 0, .string ⟨#[]⟩, .int .i64 0] from rfl]
    have hBz : Below w.heap.size w (w3.alloc (.cells #[.string ⟨#[]⟩, .int .i64 0, .int .i64 0, .string ⟨#[]⟩, .slice none 0 0, .slice none 0 0, .int .i64 0, .string ⟨#[]⟩, .int .i64 0] 27)) := hB7.alloc hB7.size _
    have b1 := b1.alloc (.cells #[.string ⟨#[]⟩, .int .i64 0, .int .i64 0, .string ⟨#[]⟩, .slice none 0 0, .slice none 0 0, .int .i64 0, .string ⟨#[]⟩, .int .i64 0] 27)
    have b2 := b2.alloc (.cells #[.string ⟨#[]⟩, .int .i64 0, .int .i64 0, .string ⟨#[]⟩, .slice none 0 0, .slice none 0 0, .int .i64 0, .string ⟨#[]⟩, .int .i64 0] 27)
    go_upto_region 15 with fail
    generalize w3.alloc (.cells #[.string ⟨#[]⟩, .int .i64 0, .int .i64 0, .string ⟨#[]⟩, .slice none 0 0, .slice none 0 0, .int .i64 0, .string ⟨#[]⟩, .int .i64 0] 27) = wz at *
    obtain rfl : ks = insStm r1 := HKF.out.trans (by rw [HKR.out]; rfl)
    have m0 := blk_cl b1 0 _ rfl
    have ml := b1.lt
    go_wp2_with fail
    refine (Instant_any r1 wz).mono ?_
    rintro e wi ⟨rfl, hbi⟩
    have hBi := hBz.trans (hbi.mono hBz.size)
    have b1 := b1.below hbi b1.lt
    have b2 := b2.below hbi b2.lt
    clear m0 ml hbi hBz
    have m0 := blk_cl b1 0 _ rfl
    have m1 := blk_cl b1 1 _ rfl
    have m2 := blk_cl b1 2 _ rfl
    have m3 := blk_cl b1 3 _ rfl
    have m4 := blk_cl b1 4 _ rfl
    have m5 := blk_cl b1 5 _ rfl
    have ml := b1.lt
    have rf1 := fun i => b1.frozen i
    go_upto_region 16 with fail
    have k1 := set4b b1 (.int .i64 r1) (.string ⟨#[]⟩) (.int .i64 0) (.int .i64 0)
    have k2 := set4b_other (B' := w.heap.size + 1) b2 (by omega) (.int .i64 r1) (.string ⟨#[]⟩) (.int .i64 0) (.int .i64 0)
    have hBz := set4b_below (B := w.heap.size + 1) hBi (by omega) (.int .i64 r1) (.string ⟨#[]⟩) (.int .i64 0) (.int .i64 0)
    clear m0 m1 m2 m3 m4 m5 ml rf1 b1 b2
    generalize ((((wi).setCell ⟨w.heap.size + 1, 1, none⟩ _).setCell ⟨w.heap.size + 1, 2, none⟩ _).setCell ⟨w.heap.size + 1, 3, none⟩ _).setCell ⟨w.heap.size + 1, 4, none⟩ _ = wz at *
    have b1 := k1
    have b2 := k2
    clear k1 k2
    have m0 := blk_cl b1 0 _ rfl
    have m1 := blk_cl b1 1 _ rfl
    have m2 := blk_cl b1 2 _ rfl
    have m3 := blk_cl b1 3 _ rfl
    have m4 := blk_cl b1 4 _ rfl
    have m5 := blk_cl b1 5 _ rfl
    have ml := b1.lt
    have zl := b2.lt
    have z0 := blk_cl b2 0 _ rfl
    have z1 := blk_cl b2 1 _ rfl
    have z2 := blk_cl b2 2 _ rfl
    have z3 := blk_cl b2 3 _ rfl
    have z4 := blk_cl b2 4 _ rfl
    have z5 := blk_cl b2 5 _ rfl
    have rf := fun i => b2.frozen i
    go_wp2
    have s6 := set6 b2 (.string x.nm) (.int .i64 r1) (.string ⟨#[]⟩) (.int .i64 0) (.int .i64 0) (.int .i64 x.ln)
    have hB9 := set6_below (B := w.heap.size + 1 + 1) hBz (by omega) (.string x.nm) (.int .i64 r1) (.string ⟨#[]⟩) (.int .i64 0) (.int .i64 0) (.int .i64 x.ln)
    have s0 := s6.cell 0 rfl
    have s1 := s6.cell 1 rfl
    have s2 := s6.cell 2 rfl
    have s3 := s6.cell 3 rfl
    have s4 := s6.cell 4 rfl
    have s5 := s6.cell 5 rfl
    clear s6 z0 z1 z2 z3 z4 z5 rf b2
    generalize ((((((wz).setCell ⟨w.heap.size + 1 + 1, 0, none⟩ _).setCell ⟨w.heap.size + 1 + 1, 1, none⟩ _).setCell ⟨w.heap.size + 1 + 1, 2, none⟩ _).setCell ⟨w.heap.size + 1 + 1, 3, none⟩ _).setCell ⟨w.heap.size + 1 + 1, 4, none⟩ _).setCell ⟨w.heap.size + 1 + 1, 5, none⟩ _ = w9 at *
    exact bodyPost_ret (v := .agg #[.string x.nm, .int .i64 r1, .string ⟨#[]⟩, .int .i64 0, .int .i64 0, .int .i64 x.ln]) (by simp [results, Tryz.results101, go_sem, s0, s1, s2, s3, s4, s5]) rfl ⟨rfl, hB9⟩
  | some y =>
    have h0 := HEO.out y rfl
    subst h0
    obtain ⟨z, vT, vR, ⟨AT, cT, rfl⟩, ⟨AR, cR, rfl⟩⟩ := y
    have HO := Lib.hid (fun W hb => HO.out _ rfl r1 W hb)
    dsimp only at HKR HO
    unfold Zn.v at HO
    rw [show optZ (some ⟨z, .slice AT z.table.length cT, .slice AR z.tail.length cR, ⟨AT, cT, rfl⟩, ⟨AR, cR, rfl⟩⟩) = .agg #[.string z.nm, .int .i64 z.first.off, .int .i64 z.first.sv, .string z.first.nm, .slice AT z.table.length cT, .slice AR z.tail.length cR, .int .i64 z.off, .string z.form, .int .i64 z.year] from rfl]
    generalize z.ofV r1 = u at *
    obtain ⟨u1, u2⟩ := u
    dsimp only at HKR HO
    have hB8 : Below w.heap.size w (w3.alloc (.cells #[.string z.nm, .int .i64 z.first.off, .int .i64 z.first.sv, .string z.first.nm, .slice AT z.table.length cT, .slice AR z.tail.length cR, .int .i64 z.off, .string z.form, .int .i64 z.year] 27)) := hB7.alloc hB7.size _
    have b0 := b0.alloc (.cells #[.string z.nm, .int .i64 z.first.off, .int .i64 z.first.sv, .string z.first.nm, .slice AT z.table.length cT, .slice AR z.tail.length cR, .int .i64 z.off, .string z.form, .int .i64 z.year] 27)
    have b1 := b1.alloc (.cells #[.string z.nm, .int .i64 z.first.off, .int .i64 z.first.sv, .string z.first.nm, .slice AT z.table.length cT, .slice AR z.tail.length cR, .int .i64 z.off, .string z.form, .int .i64 z.year] 27)
    have b2 := b2.alloc (.cells #[.string z.nm, .int .i64 z.first.off, .int .i64 z.first.sv, .string z.first.nm, .slice AT z.table.length cT, .slice AR z.tail.length cR, .int .i64 z.off, .string z.form, .int .i64 z.year] 27)
    have bz := Blk.new w3 #[.string z.nm, .int .i64 z.first.off, .int .i64 z.first.sv, .string z.first.nm, .slice AT z.table.length cT, .slice AR z.tail.length cR, .int .i64 z.off, .string z.form, .int .i64 z.year] 27
    have y0 := blk_cl bz 0 _ rfl
    have y1 := blk_cl bz 1 _ rfl
    have y2 := blk_cl bz 2 _ rfl
    have y3 := blk_cl bz 3 _ rfl
    have y4 := blk_cl bz 4 _ rfl
    have y5 := blk_cl bz 5 _ rfl
    have y6 := blk_cl bz 6 _ rfl
    have y7 := blk_cl bz 7 _ rfl
    have y8 := blk_cl bz 8 _ rfl
    have yl := bz.lt
    go_wp2_with fail
    generalize w3.alloc (.cells #[.string z.nm, .int .i64 z.first.off, .int .i64 z.first.sv, .string z.first.nm, .slice AT z.table.length cT, .slice AR z.tail.length cR, .int .i64 z.off, .string z.form, .int .i64 z.year] 27) = w4 at *
    clear y0 y1 y2 y3 y4 y5 y6 y7 y8 yl bz
    refine (HO.out w4 hB8).mono ?_
    rintro e w5 ⟨rfl, hb5⟩
    have hB9 := hB8.trans (hb5.mono hB8.size)
    have b0 := b0.below hb5 b0.lt
    have b1 := b1.below hb5 b1.lt
    have b2 := b2.below hb5 b2.lt
    clear hb5 hB8 HO hB7
    by_cases hu : u2 = 0
    case neg =>
      have d2 : (u2 == 0) = false := by rw [beq_eq_false_iff_ne]; exact hu
      have HKR := Lib.hid (HKR.out.trans (if_neg hu))
      have hBz := hB9
      clear hB9 hu
      obtain rfl : ks = insStm r1 := HKF.out.trans (by rw [HKR.out]; rfl)
      have m0 := blk_cl b1 0 _ rfl
      have ml := b1.lt
      go_wp2_with fail
      refine (Instant_any r1 w5).mono ?_
      rintro e wi ⟨rfl, hbi⟩
      have hBi := hBz.trans (hbi.mono hBz.size)
      have b1 := b1.below hbi b1.lt
      have b2 := b2.below hbi b2.lt
      clear m0 ml hbi hBz
      have m0 := blk_cl b1 0 _ rfl
      have m1 := blk_cl b1 1 _ rfl
      have m2 := blk_cl b1 2 _ rfl
      have m3 := blk_cl b1 3 _ rfl
      have m4 := blk_cl b1 4 _ rfl
      have m5 := blk_cl b1 5 _ rfl
      have ml := b1.lt
      have rf1 := fun i => b1.frozen i
      go_upto_region 16 with fail
      have k1 := set4b b1 (.int .i64 r1) (.string ⟨#[]⟩) (.int .i64 0) (.int .i64 0)
      have k2 := set4b_other (B' := w.heap.size + 1) b2 (by omega) (.int .i64 r1) (.string ⟨#[]⟩) (.int .i64 0) (.int .i64 0)
      have hBz := set4b_below (B := w.heap.size + 1) hBi (by omega) (.int .i64 r1) (.string ⟨#[]⟩) (.int .i64 0) (.int .i64 0)
      clear m0 m1 m2 m3 m4 m5 ml rf1 b1 b2
      generalize ((((wi).setCell ⟨w.heap.size + 1, 1, none⟩ _).setCell ⟨w.heap.size + 1, 2, none⟩ _).setCell ⟨w.heap.size + 1, 3, none⟩ _).setCell ⟨w.heap.size + 1, 4, none⟩ _ = wz at *
      have b1 := k1
      have b2 := k2
      clear k1 k2
      have m0 := blk_cl b1 0 _ rfl
      have m1 := blk_cl b1 1 _ rfl
      have m2 := blk_cl b1 2 _ rfl
      have m3 := blk_cl b1 3 _ rfl
      have m4 := blk_cl b1 4 _ rfl
      have m5 := blk_cl b1 5 _ rfl
      have ml := b1.lt
      have zl := b2.lt
      have z0 := blk_cl b2 0 _ rfl
      have z1 := blk_cl b2 1 _ rfl
      have z2 := blk_cl b2 2 _ rfl
      have z3 := blk_cl b2 3 _ rfl
      have z4 := blk_cl b2 4 _ rfl
      have z5 := blk_cl b2 5 _ rfl
      have rf := fun i => b2.frozen i
      go_wp2
      have s6 := set6 b2 (.string x.nm) (.int .i64 r1) (.string ⟨#[]⟩) (.int .i64 0) (.int .i64 0) (.int .i64 x.ln)
      have hB9 := set6_below (B := w.heap.size + 1 + 1) hBz (by omega) (.string x.nm) (.int .i64 r1) (.string ⟨#[]⟩) (.int .i64 0) (.int .i64 0) (.int .i64 x.ln)
      have s0 := s6.cell 0 rfl
      have s1 := s6.cell 1 rfl
      have s2 := s6.cell 2 rfl
      have s3 := s6.cell 3 rfl
      have s4 := s6.cell 4 rfl
      have s5 := s6.cell 5 rfl
      clear s6 z0 z1 z2 z3 z4 z5 rf b2
      generalize ((((((wz).setCell ⟨w.heap.size + 1 + 1, 0, none⟩ _).setCell ⟨w.heap.size + 1 + 1, 1, none⟩ _).setCell ⟨w.heap.size + 1 + 1, 2, none⟩ _).setCell ⟨w.heap.size + 1 + 1, 3, none⟩ _).setCell ⟨w.heap.size + 1 + 1, 4, none⟩ _).setCell ⟨w.heap.size + 1 + 1, 5, none⟩ _ = w9 at *
      exact bodyPost_ret (v := .agg #[.string x.nm, .int .i64 r1, .string ⟨#[]⟩, .int .i64 0, .int .i64 0, .int .i64 x.ln]) (by simp [results, Tryz.results101, go_sem, s0, s1, s2, s3, s4, s5]) rfl ⟨rfl, hB9⟩
    subst hu
    have HKQ := Lib.hid (HKR.out.trans (if_pos rfl))
    clear HKR
    have HS := Lib.hid (fun W hb => HS.out (locStm x.st u1) W hb)
    unfold locStm at HS
    dsimp only at HS
    change Hid (keepL L b x.st r1 = if (rsvF L b (locStm x.st u1)).2 = 0 ∧ (rsvF L b (locStm x.st u1)).1 = r1 then some (locStm x.st u1) else none) at HKQ
    rw [show (⟨u1, x.st.zn, x.st.gap, x.st.fold⟩ : Stm) = locStm x.st u1 from rfl] at HS
    generalize rsvF L b (locStm x.st u1) = v at *
    obtain ⟨v1, v2⟩ := v
    dsimp only at HKQ HS
    have hB10 : Below w.heap.size w (w5.alloc (.cells #[.int .i64 u1, .string x.st.zn, .int .i64 x.st.gap, .int .i64 x.st.fold] 65)) := hB9.alloc hB9.size _
    have c0 := b0.alloc (.cells #[.int .i64 u1, .string x.st.zn, .int .i64 x.st.gap, .int .i64 x.st.fold] 65)
    have c1 := b1.alloc (.cells #[.int .i64 u1, .string x.st.zn, .int .i64 x.st.gap, .int .i64 x.st.fold] 65)
    have c2 := b2.alloc (.cells #[.int .i64 u1, .string x.st.zn, .int .i64 x.st.gap, .int .i64 x.st.fold] 65)
    have cs := Blk.new w5 #[.int .i64 u1, .string x.st.zn, .int .i64 x.st.gap, .int .i64 x.st.fold] 65
    have m0 := blk_cl b1 0 _ rfl
    have m1 := blk_cl b1 1 _ rfl
    have m2 := blk_cl b1 2 _ rfl
    have m3 := blk_cl b1 3 _ rfl
    have m4 := blk_cl b1 4 _ rfl
    have m5 := blk_cl b1 5 _ rfl
    have ml := b1.lt
    have rf1 := fun i => b1.frozen i
    have h0 := blk_cl c0 0 _ rfl
    have hl := c0.lt
    have y0 := blk_cl cs 0 _ rfl
    have y1 := blk_cl cs 1 _ rfl
    have y2 := blk_cl cs 2 _ rfl
    have y3 := blk_cl cs 3 _ rfl
    have yl := cs.lt
    go_wp2_with fail
    generalize w5.alloc (.cells #[.int .i64 u1, .string x.st.zn, .int .i64 x.st.gap, .int .i64 x.st.fold] 65) = w6 at *
    clear y0 y1 y2 y3 yl rf1
    clear h0 hl m0 m1 m2 m3 m4 m5 ml
    refine (HS.out w6 hB10).mono ?_
    rintro e w7 ⟨rfl, hb7⟩
    have hB11 := hB10.trans (hb7.mono hB10.size)
    have b1 := c1.below hb7 c1.lt
    have b2 := c2.below hb7 c2.lt
    have bs := cs.below hb7 cs.lt
    clear hb7 hB10 HS c0 c1 c2 cs hB9 b0
    by_cases hv : v2 = 0
    case neg =>
      have d2 : (v2 == 0) = false := by rw [beq_eq_false_iff_ne]; exact hv
      have HKR := Lib.hid (HKQ.out.trans (if_neg (fun h => hv h.1)))
      have hBz := hB11
      clear hB11 hv bs
      obtain rfl : ks = insStm r1 := HKF.out.trans (by rw [HKR.out]; rfl)
      have m0 := blk_cl b1 0 _ rfl
      have ml := b1.lt
      go_wp2_with fail
      refine (Instant_any r1 w7).mono ?_
      rintro e wi ⟨rfl, hbi⟩
      have hBi := hBz.trans (hbi.mono hBz.size)
      have b1 := b1.below hbi b1.lt
      have b2 := b2.below hbi b2.lt
      clear m0 ml hbi hBz
      have m0 := blk_cl b1 0 _ rfl
      have m1 := blk_cl b1 1 _ rfl
      have m2 := blk_cl b1 2 _ rfl
      have m3 := blk_cl b1 3 _ rfl
      have m4 := blk_cl b1 4 _ rfl
      have m5 := blk_cl b1 5 _ rfl
      have ml := b1.lt
      have rf1 := fun i => b1.frozen i
      go_upto_region 16 with fail
      have k1 := set4b b1 (.int .i64 r1) (.string ⟨#[]⟩) (.int .i64 0) (.int .i64 0)
      have k2 := set4b_other (B' := w.heap.size + 1) b2 (by omega) (.int .i64 r1) (.string ⟨#[]⟩) (.int .i64 0) (.int .i64 0)
      have hBz := set4b_below (B := w.heap.size + 1) hBi (by omega) (.int .i64 r1) (.string ⟨#[]⟩) (.int .i64 0) (.int .i64 0)
      clear m0 m1 m2 m3 m4 m5 ml rf1 b1 b2
      generalize ((((wi).setCell ⟨w.heap.size + 1, 1, none⟩ _).setCell ⟨w.heap.size + 1, 2, none⟩ _).setCell ⟨w.heap.size + 1, 3, none⟩ _).setCell ⟨w.heap.size + 1, 4, none⟩ _ = wz at *
      have b1 := k1
      have b2 := k2
      clear k1 k2
      have m0 := blk_cl b1 0 _ rfl
      have m1 := blk_cl b1 1 _ rfl
      have m2 := blk_cl b1 2 _ rfl
      have m3 := blk_cl b1 3 _ rfl
      have m4 := blk_cl b1 4 _ rfl
      have m5 := blk_cl b1 5 _ rfl
      have ml := b1.lt
      have zl := b2.lt
      have z0 := blk_cl b2 0 _ rfl
      have z1 := blk_cl b2 1 _ rfl
      have z2 := blk_cl b2 2 _ rfl
      have z3 := blk_cl b2 3 _ rfl
      have z4 := blk_cl b2 4 _ rfl
      have z5 := blk_cl b2 5 _ rfl
      have rf := fun i => b2.frozen i
      go_wp2
      have s6 := set6 b2 (.string x.nm) (.int .i64 r1) (.string ⟨#[]⟩) (.int .i64 0) (.int .i64 0) (.int .i64 x.ln)
      have hB9 := set6_below (B := w.heap.size + 1 + 1) hBz (by omega) (.string x.nm) (.int .i64 r1) (.string ⟨#[]⟩) (.int .i64 0) (.int .i64 0) (.int .i64 x.ln)
      have s0 := s6.cell 0 rfl
      have s1 := s6.cell 1 rfl
      have s2 := s6.cell 2 rfl
      have s3 := s6.cell 3 rfl
      have s4 := s6.cell 4 rfl
      have s5 := s6.cell 5 rfl
      clear s6 z0 z1 z2 z3 z4 z5 rf b2
      generalize ((((((wz).setCell ⟨w.heap.size + 1 + 1, 0, none⟩ _).setCell ⟨w.heap.size + 1 + 1, 1, none⟩ _).setCell ⟨w.heap.size + 1 + 1, 2, none⟩ _).setCell ⟨w.heap.size + 1 + 1, 3, none⟩ _).setCell ⟨w.heap.size + 1 + 1, 4, none⟩ _).setCell ⟨w.heap.size + 1 + 1, 5, none⟩ _ = w9 at *
      exact bodyPost_ret (v := .agg #[.string x.nm, .int .i64 r1, .string ⟨#[]⟩, .int .i64 0, .int .i64 0, .int .i64 x.ln]) (by simp [results, Tryz.results101, go_sem, s0, s1, s2, s3, s4, s5]) rfl ⟨rfl, hB9⟩
    subst hv
    by_cases hv : v1 = r1
    case neg =>
      have d2 : (v1 == r1) = false := by rw [beq_eq_false_iff_ne]; exact hv
      have HKR := Lib.hid (HKQ.out.trans (if_neg (fun h => hv h.2)))
      have hBz := hB11
      clear hB11 hv bs
      obtain rfl : ks = insStm r1 := HKF.out.trans (by rw [HKR.out]; rfl)
      have m0 := blk_cl b1 0 _ rfl
      have ml := b1.lt
      go_wp2_with fail
      refine (Instant_any r1 w7).mono ?_
      rintro e wi ⟨rfl, hbi⟩
      have hBi := hBz.trans (hbi.mono hBz.size)
      have b1 := b1.below hbi b1.lt
      have b2 := b2.below hbi b2.lt
      clear m0 ml hbi hBz
      have m0 := blk_cl b1 0 _ rfl
      have m1 := blk_cl b1 1 _ rfl
      have m2 := blk_cl b1 2 _ rfl
      have m3 := blk_cl b1 3 _ rfl
      have m4 := blk_cl b1 4 _ rfl
      have m5 := blk_cl b1 5 _ rfl
      have ml := b1.lt
      have rf1 := fun i => b1.frozen i
      go_upto_region 16 with fail
      have k1 := set4b b1 (.int .i64 r1) (.string ⟨#[]⟩) (.int .i64 0) (.int .i64 0)
      have k2 := set4b_other (B' := w.heap.size + 1) b2 (by omega) (.int .i64 r1) (.string ⟨#[]⟩) (.int .i64 0) (.int .i64 0)
      have hBz := set4b_below (B := w.heap.size + 1) hBi (by omega) (.int .i64 r1) (.string ⟨#[]⟩) (.int .i64 0) (.int .i64 0)
      clear m0 m1 m2 m3 m4 m5 ml rf1 b1 b2
      generalize ((((wi).setCell ⟨w.heap.size + 1, 1, none⟩ _).setCell ⟨w.heap.size + 1, 2, none⟩ _).setCell ⟨w.heap.size + 1, 3, none⟩ _).setCell ⟨w.heap.size + 1, 4, none⟩ _ = wz at *
      have b1 := k1
      have b2 := k2
      clear k1 k2
      have m0 := blk_cl b1 0 _ rfl
      have m1 := blk_cl b1 1 _ rfl
      have m2 := blk_cl b1 2 _ rfl
      have m3 := blk_cl b1 3 _ rfl
      have m4 := blk_cl b1 4 _ rfl
      have m5 := blk_cl b1 5 _ rfl
      have ml := b1.lt
      have zl := b2.lt
      have z0 := blk_cl b2 0 _ rfl
      have z1 := blk_cl b2 1 _ rfl
      have z2 := blk_cl b2 2 _ rfl
      have z3 := blk_cl b2 3 _ rfl
      have z4 := blk_cl b2 4 _ rfl
      have z5 := blk_cl b2 5 _ rfl
      have rf := fun i => b2.frozen i
      go_wp2
      have s6 := set6 b2 (.string x.nm) (.int .i64 r1) (.string ⟨#[]⟩) (.int .i64 0) (.int .i64 0) (.int .i64 x.ln)
      have hB9 := set6_below (B := w.heap.size + 1 + 1) hBz (by omega) (.string x.nm) (.int .i64 r1) (.string ⟨#[]⟩) (.int .i64 0) (.int .i64 0) (.int .i64 x.ln)
      have s0 := s6.cell 0 rfl
      have s1 := s6.cell 1 rfl
      have s2 := s6.cell 2 rfl
      have s3 := s6.cell 3 rfl
      have s4 := s6.cell 4 rfl
      have s5 := s6.cell 5 rfl
      clear s6 z0 z1 z2 z3 z4 z5 rf b2
      generalize ((((((wz).setCell ⟨w.heap.size + 1 + 1, 0, none⟩ _).setCell ⟨w.heap.size + 1 + 1, 1, none⟩ _).setCell ⟨w.heap.size + 1 + 1, 2, none⟩ _).setCell ⟨w.heap.size + 1 + 1, 3, none⟩ _).setCell ⟨w.heap.size + 1 + 1, 4, none⟩ _).setCell ⟨w.heap.size + 1 + 1, 5, none⟩ _ = w9 at *
      exact bodyPost_ret (v := .agg #[.string x.nm, .int .i64 r1, .string ⟨#[]⟩, .int .i64 0, .int .i64 0, .int .i64 x.ln]) (by simp [results, Tryz.results101, go_sem, s0, s1, s2, s3, s4, s5]) rfl ⟨rfl, hB9⟩
    subst hv
    have HKR := Lib.hid (HKQ.out.trans (if_pos ⟨rfl, rfl⟩))
    obtain rfl : ks = locStm x.st u1 := HKF.out.trans (by rw [HKR.out]; rfl)
    have y0 := blk_cl bs 0 _ rfl
    have y1 := blk_cl bs 1 _ rfl
    have y2 := blk_cl bs 2 _ rfl
    have y3 := blk_cl bs 3 _ rfl
    have yl := bs.lt
    have m0 := blk_cl b1 0 _ rfl
    have m1 := blk_cl b1 1 _ rfl
    have m2 := blk_cl b1 2 _ rfl
    have m3 := blk_cl b1 3 _ rfl
    have m4 := blk_cl b1 4 _ rfl
    have m5 := blk_cl b1 5 _ rfl
    have ml := b1.lt
    have rf1 := fun i => b1.frozen i
    go_upto_region 14 with fail
    have k1 := set4b b1 (.int .i64 u1) (.string x.st.zn) (.int .i64 x.st.gap) (.int .i64 x.st.fold)
    have k2 := set4b_other (B' := w.heap.size + 1) b2 (by omega) (.int .i64 u1) (.string x.st.zn) (.int .i64 x.st.gap) (.int .i64 x.st.fold)
    have hBz := set4b_below (B := w.heap.size + 1) hB11 (by omega) (.int .i64 u1) (.string x.st.zn) (.int .i64 x.st.gap) (.int .i64 x.st.fold)
    clear m0 m1 m2 m3 m4 m5 ml rf1 b1 b2
    generalize ((((w7).setCell ⟨w.heap.size + 1, 1, none⟩ _).setCell ⟨w.heap.size + 1, 2, none⟩ _).setCell ⟨w.heap.size + 1, 3, none⟩ _).setCell ⟨w.heap.size + 1, 4, none⟩ _ = wz at *
    have b1 := k1
    have b2 := k2
    clear k1 k2
    have m0 := blk_cl b1 0 _ rfl
    have m1 := blk_cl b1 1 _ rfl
    have m2 := blk_cl b1 2 _ rfl
    have m3 := blk_cl b1 3 _ rfl
    have m4 := blk_cl b1 4 _ rfl
    have m5 := blk_cl b1 5 _ rfl
    have ml := b1.lt
    have zl := b2.lt
    have z0 := blk_cl b2 0 _ rfl
    have z1 := blk_cl b2 1 _ rfl
    have z2 := blk_cl b2 2 _ rfl
    have z3 := blk_cl b2 3 _ rfl
    have z4 := blk_cl b2 4 _ rfl
    have z5 := blk_cl b2 5 _ rfl
    have rf := fun i => b2.frozen i
    go_wp2
    have s6 := set6 b2 (.string x.nm) (.int .i64 u1) (.string x.st.zn) (.int .i64 x.st.gap) (.int .i64 x.st.fold) (.int .i64 x.ln)
    have hB9 := set6_below (B := w.heap.size + 1 + 1) hBz (by omega) (.string x.nm) (.int .i64 u1) (.string x.st.zn) (.int .i64 x.st.gap) (.int .i64 x.st.fold) (.int .i64 x.ln)
    have s0 := s6.cell 0 rfl
    have s1 := s6.cell 1 rfl
    have s2 := s6.cell 2 rfl
    have s3 := s6.cell 3 rfl
    have s4 := s6.cell 4 rfl
    have s5 := s6.cell 5 rfl
    clear s6 z0 z1 z2 z3 z4 z5 rf b2
    generalize ((((((wz).setCell ⟨w.heap.size + 1 + 1, 0, none⟩ _).setCell ⟨w.heap.size + 1 + 1, 1, none⟩ _).setCell ⟨w.heap.size + 1 + 1, 2, none⟩ _).setCell ⟨w.heap.size + 1 + 1, 3, none⟩ _).setCell ⟨w.heap.size + 1 + 1, 4, none⟩ _).setCell ⟨w.heap.size + 1 + 1, 5, none⟩ _ = w9 at *
    exact bodyPost_ret (v := .agg #[.string x.nm, .int .i64 u1, .string x.st.zn, .int .i64 x.st.gap, .int .i64 x.st.fold, .int .i64 x.ln]) (by simp [results, Tryz.results101, go_sem, s0, s1, s2, s3, s4, s5]) rfl ⟨rfl, hB9⟩

end Go.Proofs.YtoonaidpmahgcaaGreat

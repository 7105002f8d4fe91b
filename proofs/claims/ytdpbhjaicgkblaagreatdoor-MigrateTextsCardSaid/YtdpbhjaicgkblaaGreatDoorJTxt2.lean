/- Texts of instants. Printed by gen_txt2.py. -/
import Derived.Test.YtdpbhjaicgkblaaGreatDoorJTxt
import Derived.Test.YtdpbhjaicgkblaaGreatDoorGZa
import Derived.Test.YtdpbhjaicgkblaaGreatDoorGStm
import Derived.Test.YtdpbhjaicgkblaaGreatDoorGSt1
import Derived.BigQuiet
namespace Go.Proofs.YtdpbhjaicgkblaaGreatDoor
set_option linter.unusedSimpArgs false
set_option linter.unusedVariables false
open Go.ChangeShapes Go.WideShapes Go.ChangeAt Go.RowKit
def TxtG (n k : Int) (s : ByteArray) : Prop := (k = 2 ∧ (0 ≤ n ∧ n < 100) ∧ s = dig2 n) ∨ (k = 4 ∧ (0 ≤ n ∧ n < 10000) ∧ s = dig4 n)
theorem textG {n k : Int} {s : ByteArray} (h : TxtG n k s) (W : World) : Calls Tryz.prog 69 #[.int .i64 n, .int .i64 k] W fun e w' => e = .returned (.string s) ∧ Below W.heap.size W w' := by
 rcases h with ⟨rfl, hn, rfl⟩ | ⟨rfl, hn, rfl⟩
 ·exact text2 n hn W
 ·exact text4 n hn W
theorem dig2_size (n : Int) : (dig2 n).size = 2 := rfl
theorem dig4_size (n : Int) : (dig4 n).size = 4 := rfl
theorem tg2 {n : Int} (h : 0 ≤ n ∧ n < 100) : TxtG n 2 (dig2 n) := .inl ⟨rfl, h, rfl⟩
theorem tg4 {n : Int} (h : 0 ≤ n ∧ n < 10000) : TxtG n 4 (dig4 n) := .inr ⟨rfl, h, rfl⟩
def dateT (y m d : Int) : ByteArray := dig4 y ++ ⟨#[45]⟩ ++ dig2 m ++ ⟨#[45]⟩ ++ dig2 d
def momT (y m d h mi s : Int) : ByteArray := dateT y m d ++ ⟨#[84]⟩ ++ dig2 h ++ ⟨#[58]⟩ ++ dig2 mi ++ ⟨#[58]⟩ ++ dig2 s
theorem vb_bd {y m d : Int} (h : Cv.validB y m d = true) : (1 ≤ y ∧ y ≤ 9999) ∧ (1 ≤ m ∧ m ≤ 12) ∧ 1 ≤ d ∧ d ≤ 31 := by
 obtain ⟨h1, h2, h3, h4, h5, h6⟩ := Cv.validB_iff.1 h
 have : Cv.mlen y m ≤ 31 := by unfold Cv.mlen; split <;> (try split) <;> omega
 omega
theorem split_g (t : Int) (ht : -62135596800 ≤ t ∧ t < 253402300800) (w : World) : Calls Tryz.prog 64 #[.int .i64 t] w fun e w' => e = .returned (.tuple #[.int .i64 (t / 86400), .int .i64 (t % 86400), .int .i64 0]) ∧ Below w.heap.size w w' := by
 have H := Lib.hid (fun W => show Calls Tryz.prog 85 #[.int .i64 t, .int .i64 86400] W fun e w' => e = .returned (.tuple #[.int .i64 (t / 86400), .int .i64 (t % 86400), .int .i64 0]) ∧ Below W.heap.size W w' from (integer_Div t 86400 W (by decide) (by omega) (by decide)).mono (by rintro e w' ⟨rfl, n, rfl⟩; exact ⟨rfl, below_drewN (Below.refl _ _) n⟩))
 obtain ⟨q, hq⟩ : ∃ q, t / 86400 = q := ⟨_, rfl⟩
 obtain ⟨r, hr⟩ : ∃ r, t % 86400 = r := ⟨_, rfl⟩
 rw [hq, hr] at H ⊢
 clear hq hr
 go_enter Tryz.func64, Tryz.ntmps64
 go_wp2_with (go_at_call 85; refine (H.out _).mono ?_; rintro e w1 ⟨rfl, hb1⟩)
 go_ret3
 exact ⟨rfl, hb1⟩
theorem time_g (r : Int) (hr : 0 ≤ r ∧ r < 86400) (w : World) : Calls Tryz.prog 66 #[.int .i64 r] w fun e w' => e = .returned (.tuple #[.agg #[.int .i64 (r / 3600), .int .i64 (r / 60 % 60), .int .i64 (r % 60)], .int .i64 0]) ∧ Below w.heap.size w w' := by
 go_enter Tryz.func66, Tryz.ntmps66
 go_wp2
 have bt := Blk.new w #[.int .i64 (r / 3600), .int .i64 (r / 60 % 60), .int .i64 (r % 60)] 112
 have s0 := blk_cl bt 0 _ rfl
 have s1 := blk_cl bt 1 _ rfl
 have s2 := blk_cl bt 2 _ rfl
 exact bodyPost_ret (v := .tuple #[.agg #[.int .i64 (r / 3600), .int .i64 (r / 60 % 60), .int .i64 (r % 60)], .int .i64 0]) (by simp [results, Tryz.results66, go_sem, s0, s1, s2]) rfl ⟨rfl, (Below.refl _ _).alloc (Nat.le_refl _) _⟩
theorem secs_g (h mi s : Int) (hh : 0 ≤ h ∧ h < 24) (hm : 0 ≤ mi ∧ mi < 60) (hs : 0 ≤ s ∧ s < 60) (w : World) : Calls Tryz.prog 89 #[.agg #[.int .i64 h, .int .i64 mi, .int .i64 s]] w fun e w' => e = .returned (.tuple #[.int .i64 (3600 * h + 60 * mi + s), .int .i64 0]) ∧ Below w.heap.size w w' := by
 have hB : Below w.heap.size w (w.alloc (.cells #[.int .i64 h, .int .i64 mi, .int .i64 s] 112)) := (Below.refl _ _).alloc (Nat.le_refl _) _
 have d1 : decide (23 < h) = false := decide_eq_false (by omega)
 have d2 : decide (59 < mi) = false := decide_eq_false (by omega)
 have d3 : decide (59 < s) = false := decide_eq_false (by omega)
 have d4 : decide (h < 0) = false := decide_eq_false (by omega)
 have d5 : decide (mi < 0) = false := decide_eq_false (by omega)
 have d6 : decide (s < 0) = false := decide_eq_false (by omega)
 go_enter Tryz.func89, Tryz.ntmps89
 go_wp2
 go_ret2
 exact ⟨rfl, hB⟩
theorem at_g (D r : Int) (hD : -719162 ≤ D ∧ D < 2932897) (hr : 0 ≤ r ∧ r < 86400) (w : World) : Calls Tryz.prog 90 #[.int .i64 D, .int .i64 r] w fun e w' => e = .returned (.tuple #[.int .i64 (D * 86400 + r), .int .i64 0]) ∧ w = w' := by
 have d1 : decide (D < -719162) = false := decide_eq_false (by omega)
 have d2 : decide (2932897 ≤ D) = false := decide_eq_false (by omega)
 have d3 : decide (r < 0) = false := decide_eq_false (by omega)
 have d4 : decide (86400 ≤ r) = false := decide_eq_false (by omega)
 go_enter Tryz.func90, Tryz.ntmps90
 go_wp2
 go_ret2
 exact ⟨rfl, rfl⟩
set_option maxRecDepth 100000 in
theorem of_g (y m d h mi s : Int) (hv : Cv.validB y m d = true) (hh : 0 ≤ h ∧ h < 24) (hm : 0 ≤ mi ∧ mi < 60) (hs : 0 ≤ s ∧ s < 60) (w : World) : Calls Tryz.prog 67 #[.agg #[.int .i64 y, .int .i64 m, .int .i64 d, .int .i64 h, .int .i64 mi, .int .i64 s]] w fun e w' => ∃ v, e = .returned (.tuple #[.int .i64 v, .int .i64 0]) ∧ Below w.heap.size w w' := by
 have HD := Lib.hid (fun W => civil_Day y m d W)
 rw [hv] at HD
 have hD := Cv.count_in hv
 generalize Cv.count y m d = D at *
 have HS := Lib.hid (fun W => secs_g h mi s hh hm hs W)
 have hr : 0 ≤ 3600 * h + 60 * mi + s ∧ 3600 * h + 60 * mi + s < 86400 := by omega
 generalize 3600 * h + 60 * mi + s = r at *
 have HA := Lib.hid (fun W => at_g D r hD hr W)
 clear hv hh hm hs
 have b0 := Blk.new w #[.int .i64 y, .int .i64 m, .int .i64 d, .int .i64 h, .int .i64 mi, .int .i64 s] 114
 have hB1 : Below w.heap.size w (w.alloc (.cells #[.int .i64 y, .int .i64 m, .int .i64 d, .int .i64 h, .int .i64 mi, .int .i64 s] 114)) := (Below.refl _ _).alloc (Nat.le_refl _) _
 have v0 := blk_cl b0 0 _ rfl
 have v1 := blk_cl b0 1 _ rfl
 have v2 := blk_cl b0 2 _ rfl
 have vl := b0.lt
 go_enter Tryz.func67, Tryz.ntmps67
 go_wp2_with fail
 generalize w.alloc (.cells #[.int .i64 y, .int .i64 m, .int .i64 d, .int .i64 h, .int .i64 mi, .int .i64 s] 114) = W at *
 clear v0 v1 v2 vl
 refine (HD.out _).mono ?_
 rintro e w1 ⟨rfl, hb1⟩
 have b0 := b0.below hb1 b0.lt
 have v3 := blk_cl b0 3 _ rfl
 have v4 := blk_cl b0 4 _ rfl
 have v5 := blk_cl b0 5 _ rfl
 have vl := b0.lt
 have hB2 := hB1.trans (hb1.mono hB1.size)
 go_wp2_with fail
 refine (HS.out _).mono ?_
 rintro e w2 ⟨rfl, hb2⟩
 have hB3 := hB2.trans (hb2.mono hB2.size)
 go_wp2_with (go_at_call 90; refine (HA.out _).mono ?_; rintro e w3 ⟨rfl, rfl⟩)
 go_ret2
 exact ⟨_, rfl, hB3⟩
set_option maxRecDepth 100000 in
theorem ctext_g (y m d : Int) (hv : Cv.validB y m d = true) (w : World) : Calls Tryz.prog 70 #[.agg #[.int .i64 y, .int .i64 m, .int .i64 d]] w fun e w' => e = .returned (.string (dateT y m d)) ∧ Below w.heap.size w w' := by
 have HV := Lib.hid (fun W => civil_Valid y m d W)
 rw [hv] at HV
 have hbd := vb_bd hv
 have h1 : 0 ≤ y ∧ y < 10000 := by omega
 have h2 : 0 ≤ m ∧ m < 100 := by omega
 have h3 : 0 ≤ d ∧ d < 100 := by omega
 have HX := Lib.hid (fun n k s (h : TxtG n k s) W => textG h W)
 have T1 := Lib.hid (tg4 h1)
 have T2 := Lib.hid (tg2 h2)
 have T3 := Lib.hid (tg2 h3)
 have z1 := dig4_size y
 have z2 := dig2_size m
 have z3 := dig2_size d
 unfold dateT
 generalize dig4 y = a1 at *
 generalize dig2 m = a2 at *
 generalize dig2 d = a3 at *
 clear hv hbd h1 h2 h3
 have b0 := Blk.new w #[.int .i64 y, .int .i64 m, .int .i64 d] 110
 have hB1 : Below w.heap.size w (w.alloc (.cells #[.int .i64 y, .int .i64 m, .int .i64 d] 110)) := (Below.refl _ _).alloc (Nat.le_refl _) _
 go_enter Tryz.func70, Tryz.ntmps70
 go_wp2_with fail
 generalize w.alloc (.cells #[.int .i64 y, .int .i64 m, .int .i64 d] 110) = W at *
 refine (HV.out _).mono ?_
 rintro e w1 ⟨rfl, hb1⟩
 have b0 := b0.below hb1 b0.lt
 have hB2 := hB1.trans (hb1.mono hB1.size)
 go_wp2_with fail
 have p0 : ∀ q : Bel w1.heap.size w1, q.w1.cell? ⟨w.heap.size, 0, none⟩ = some (.int .i64 y) := fun q => (bel_cell q _ _ b0.lt).trans (blk_cl b0 0 _ rfl)
 have p1 : ∀ q : Bel w1.heap.size w1, q.w1.cell? ⟨w.heap.size, 1, none⟩ = some (.int .i64 m) := fun q => (bel_cell q _ _ b0.lt).trans (blk_cl b0 1 _ rfl)
 have p2 : ∀ q : Bel w1.heap.size w1, q.w1.cell? ⟨w.heap.size, 2, none⟩ = some (.int .i64 d) := fun q => (bel_cell q _ _ b0.lt).trans (blk_cl b0 2 _ rfl)
 refine wp_region_bel (by kernel_rfl) (by kernel_rfl) ?_
 repeat (go_big_quiet_step ((go_at_call 69; exact bel_of (Nat.le_refl _) (HX.out _ _ _ (by first | exact T1.out | exact T2.out | exact T3.out) _))))
 refine wpQuiet_nil ?_
 intro w3 hw'
 obtain ⟨⟨w3', hb3⟩, e3⟩ := hw'
 subst e3
 go_wp2
 go_ret
 exact ⟨rfl, hB2.trans (hb3.mono hB2.size)⟩
theorem dateT_size (y m d : Int) : (dateT y m d).size = 10 := by
 unfold dateT
 simp [ByteArray.size_append, dig4_size, dig2_size]
 rfl
theorem two_g {n : Int} {s : ByteArray} (h : TxtG n 2 s) (W : World) : Calls Tryz.prog 68 #[.int .i64 n] W fun e w' => e = .returned (.string s) ∧ Below W.heap.size W w' := by
 have H := Lib.hid (fun W => textG h W)
 go_enter Tryz.func68, Tryz.ntmps68
 go_wp2_with (go_at_call 69; refine (H.out _).mono ?_; rintro e w1 ⟨rfl, hb1⟩)
 go_ret
 exact ⟨rfl, hb1⟩
set_option maxRecDepth 100000 in
set_option maxHeartbeats 2000000 in
theorem ctime_g (y m d h mi s : Int) (hv : Cv.validB y m d = true) (hh : 0 ≤ h ∧ h < 24) (hm : 0 ≤ mi ∧ mi < 60) (hs : 0 ≤ s ∧ s < 60) (w : World) : Calls Tryz.prog 47 #[.agg #[.int .i64 y, .int .i64 m, .int .i64 d, .int .i64 h, .int .i64 mi, .int .i64 s]] w fun e w' => e = .returned (.string (momT y m d h mi s)) ∧ Below w.heap.size w w' := by
 have HO := Lib.hid (fun W => of_g y m d h mi s hv hh hm hs W)
 have HC := Lib.hid (fun W => ctext_g y m d hv W)
 have HX := Lib.hid (fun n s (h : TxtG n 2 s) W => two_g h W)
 have T1 := Lib.hid (tg2 (n := h) (by omega))
 have T2 := Lib.hid (tg2 (n := mi) (by omega))
 have T3 := Lib.hid (tg2 (n := s) (by omega))
 have z0 := dateT_size y m d
 have z1 := dig2_size h
 have z2 := dig2_size mi
 have z3 := dig2_size s
 unfold momT
 generalize dateT y m d = a0 at *
 generalize dig2 h = a1 at *
 generalize dig2 mi = a2 at *
 generalize dig2 s = a3 at *
 clear hv hh hm hs
 have b0 := Blk.new w #[.int .i64 y, .int .i64 m, .int .i64 d, .int .i64 h, .int .i64 mi, .int .i64 s] 114
 have hB1 : Below w.heap.size w (w.alloc (.cells #[.int .i64 y, .int .i64 m, .int .i64 d, .int .i64 h, .int .i64 mi, .int .i64 s] 114)) := (Below.refl _ _).alloc (Nat.le_refl _) _
 have v0 := blk_cl b0 0 _ rfl
 have v1 := blk_cl b0 1 _ rfl
 have v2 := blk_cl b0 2 _ rfl
 have v3 := blk_cl b0 3 _ rfl
 have v4 := blk_cl b0 4 _ rfl
 have v5 := blk_cl b0 5 _ rfl
 have vl := b0.lt
 go_enter Tryz.func47, Tryz.ntmps47
 go_wp2_with fail
 clear v0 v1 v2 v3 v4 v5 vl
 generalize w.alloc (.cells #[.int .i64 y, .int .i64 m, .int .i64 d, .int .i64 h, .int .i64 mi, .int .i64 s] 114) = W at *
 refine (HO.out _).mono ?_
 rintro e w1 ⟨v, rfl, hb1⟩
 have b0 := b0.below hb1 b0.lt
 have hB2 := hB1.trans (hb1.mono hB1.size)
 go_wp2_with fail
 have p0 : ∀ q : Bel w1.heap.size w1, q.w1.cell? ⟨w.heap.size, 0, none⟩ = some (.int .i64 y) := fun q => (bel_cell q _ _ b0.lt).trans (blk_cl b0 0 _ rfl)
 have p1 : ∀ q : Bel w1.heap.size w1, q.w1.cell? ⟨w.heap.size, 1, none⟩ = some (.int .i64 m) := fun q => (bel_cell q _ _ b0.lt).trans (blk_cl b0 1 _ rfl)
 have p2 : ∀ q : Bel w1.heap.size w1, q.w1.cell? ⟨w.heap.size, 2, none⟩ = some (.int .i64 d) := fun q => (bel_cell q _ _ b0.lt).trans (blk_cl b0 2 _ rfl)
 have p3 : ∀ q : Bel w1.heap.size w1, q.w1.cell? ⟨w.heap.size, 3, none⟩ = some (.int .i64 h) := fun q => (bel_cell q _ _ b0.lt).trans (blk_cl b0 3 _ rfl)
 have p4 : ∀ q : Bel w1.heap.size w1, q.w1.cell? ⟨w.heap.size, 4, none⟩ = some (.int .i64 mi) := fun q => (bel_cell q _ _ b0.lt).trans (blk_cl b0 4 _ rfl)
 have p5 : ∀ q : Bel w1.heap.size w1, q.w1.cell? ⟨w.heap.size, 5, none⟩ = some (.int .i64 s) := fun q => (bel_cell q _ _ b0.lt).trans (blk_cl b0 5 _ rfl)
 refine wp_region_bel (by kernel_rfl) (by kernel_rfl) ?_
 repeat (go_big_quiet_step ((first | (go_at_call 70; exact bel_of (Nat.le_refl _) (HC.out _)) | (go_at_call 68; exact bel_of (Nat.le_refl _) (HX.out _ _ (by first | exact T1.out | exact T2.out | exact T3.out) _)))))
 refine wpQuiet_nil ?_
 intro w3 hw'
 obtain ⟨⟨w3', hb3⟩, e3⟩ := hw'
 subst e3
 go_wp2
 go_ret
 exact ⟨rfl, hB2.trans (hb3.mono hB2.size)⟩
set_option maxRecDepth 100000 in
theorem moment_g (t : Int) (ht : -62135596800 ≤ t ∧ t < 253402300800) (y m d : Int) (hv : Cv.validB y m d = true) (hc : Cv.count y m d = t / 86400) (w : World) : Calls Tryz.prog 46 #[.int .i64 t] w fun e w' => e = .returned (.tuple #[.agg #[.int .i64 y, .int .i64 m, .int .i64 d, .int .i64 (t % 86400 / 3600), .int .i64 (t % 86400 / 60 % 60), .int .i64 (t % 86400 % 60)], .int .i64 0]) ∧ Below w.heap.size w w' := by
 have H1 := Lib.hid (fun W => split_g t ht W)
 have H2 := Lib.hid (fun W => civil_Date y m d W hv)
 rw [hc] at H2
 have hr : 0 ≤ t % 86400 ∧ t % 86400 < 86400 := by omega
 have H3 := Lib.hid (fun W => time_g (t % 86400) hr W)
 clear hv hc
 generalize t / 86400 = D at *
 generalize t % 86400 = r at *
 generalize r / 3600 = h at *
 generalize r / 60 % 60 = mi at *
 generalize r % 60 = s at *
 have b0 := Blk.new w #[.int .i64 0, .int .i64 0, .int .i64 0, .int .i64 0, .int .i64 0, .int .i64 0] 114
 have hB1 : Below w.heap.size w (w.alloc (.cells #[.int .i64 0, .int .i64 0, .int .i64 0, .int .i64 0, .int .i64 0, .int .i64 0] 114)) := (Below.refl _ _).alloc (Nat.le_refl _) _
 go_enter Tryz.func46, Tryz.ntmps46
 go_wp2_with fail
 generalize w.alloc (.cells #[.int .i64 0, .int .i64 0, .int .i64 0, .int .i64 0, .int .i64 0, .int .i64 0] 114) = W at *
 refine (H1.out _).mono ?_
 rintro e w1 ⟨rfl, hb1⟩
 have hB2 := hB1.trans (hb1.mono hB1.size)
 have b0 := b0.below hb1 b0.lt
 go_wp2_with fail
 refine (H2.out _).mono ?_
 rintro e w2 ⟨rfl, hb2⟩
 have hB3 := (hB2.trans (hb2.mono hB2.size)).alloc (by have := hB2.size; have := hb2.size; omega) (.cells #[.int .i64 y, .int .i64 m, .int .i64 d] 110)
 have b0 := (b0.below hb2 b0.lt).alloc (.cells #[.int .i64 y, .int .i64 m, .int .i64 d] 110)
 have b1 := Blk.new w2 #[.int .i64 y, .int .i64 m, .int .i64 d] 110
 go_wp2_with fail
 refine (H3.out _).mono ?_
 rintro e w3 ⟨rfl, hb3⟩
 have b0 := (b0.below hb3 b0.lt).alloc (.cells #[.int .i64 h, .int .i64 mi, .int .i64 s] 112)
 have b1 := (b1.below hb3 b1.lt).alloc (.cells #[.int .i64 h, .int .i64 mi, .int .i64 s] 112)
 have v0 := blk_cl b1 0 _ rfl
 have v1 := blk_cl b1 1 _ rfl
 have v2 := blk_cl b1 2 _ rfl
 have vl := b1.lt
 have c0 := blk_cl b0 0 _ rfl
 have c1 := blk_cl b0 1 _ rfl
 have c2 := blk_cl b0 2 _ rfl
 have c3 := blk_cl b0 3 _ rfl
 have c4 := blk_cl b0 4 _ rfl
 have c5 := blk_cl b0 5 _ rfl
 have cl := b0.lt
 have cf := fun i => b0.frozen i
 go_wp2
 have s6 := set6 b0 (.int .i64 y) (.int .i64 m) (.int .i64 d) (.int .i64 h) (.int .i64 mi) (.int .i64 s)
 have s0 := blk_cl s6 0 _ rfl
 have s1 := blk_cl s6 1 _ rfl
 have s2 := blk_cl s6 2 _ rfl
 have s3 := blk_cl s6 3 _ rfl
 have s4 := blk_cl s6 4 _ rfl
 have s5 := blk_cl s6 5 _ rfl
 have hB4 := (hB3.trans (hb3.mono hB3.size)).alloc (by have := hB3.size; have := hb3.size; omega) (.cells #[.int .i64 h, .int .i64 mi, .int .i64 s] 112)
 exact bodyPost_ret (v := .tuple #[.agg #[.int .i64 y, .int .i64 m, .int .i64 d, .int .i64 h, .int .i64 mi, .int .i64 s], .int .i64 0]) (by simp [results, Tryz.results46, go_sem, s0, s1, s2, s3, s4, s5]) rfl ⟨rfl, set6_below hB4 (Nat.le_refl _) (.int .i64 y) (.int .i64 m) (.int .i64 d) (.int .i64 h) (.int .i64 mi) (.int .i64 s)⟩
def InsTxt (t : Int) (s : ByteArray) : Prop := if insT t = true then ∃ y m d, Cv.validB y m d = true ∧ Cv.count y m d = t / 86400 ∧ s = momT y m d (t % 86400 / 3600) (t % 86400 / 60 % 60) (t % 86400 % 60) ++ ⟨#[90]⟩ else s = ⟨#[]⟩
set_option maxRecDepth 100000 in
set_option maxHeartbeats 2000000 in
theorem stext_g (t : Int) (w : World) : Calls Tryz.prog 26 #[.agg #[.int .i64 t, .string ⟨#[]⟩, .int .i64 0, .int .i64 0]] w fun e w' => ∃ s, e = .returned (.string s) ∧ InsTxt t s ∧ Below w.heap.size w w' := by
 have HV := Lib.hid (fun W => stm_valid ⟨t, ⟨#[]⟩, 0, 0⟩ W)
 have hsb : stmB ⟨t, ⟨#[]⟩, 0, 0⟩ = insT t := by
  unfold stmB
  rw [if_pos (by kernel_rfl)]
  simp
 rw [hsb] at HV
 clear hsb
 unfold encStm at HV
 have b0 := Blk.new w #[.int .i64 t, .string ⟨#[]⟩, .int .i64 0, .int .i64 0] 38
 have hB1 : Below w.heap.size w (w.alloc (.cells #[.int .i64 t, .string ⟨#[]⟩, .int .i64 0, .int .i64 0] 38)) := (Below.refl _ _).alloc (Nat.le_refl _) _
 suffices HPOST : ∀ Post : Ending → World → Prop, Hid (∀ s w', InsTxt t s → Below w.heap.size w w' → Post (.returned (.string s)) w') → Calls Tryz.prog 26 #[.agg #[.int .i64 t, .string ⟨#[]⟩, .int .i64 0, .int .i64 0]] w Post from HPOST _ (Lib.hid fun s w' h1 h2 => ⟨s, rfl, h1, h2⟩)
 intro Post HP
 have v0 := blk_cl b0 0 _ rfl
 have v1 := blk_cl b0 1 _ rfl
 have v2 := blk_cl b0 2 _ rfl
 have v3 := blk_cl b0 3 _ rfl
 have vl := b0.lt
 cases hi : insT t
 ·rw [hi] at HV
  have HI := Lib.hid (show InsTxt t ⟨#[]⟩ by unfold InsTxt; rw [if_neg (by rw [hi]; decide)])
  clear hi
  go_enter Tryz.func26, Tryz.ntmps26
  go_wp2_with (go_at_call 45; refine (HV.out _).mono ?_; rintro e w1 ⟨rfl, hb1⟩)
  exact HP.out _ _ HI.out (hB1.trans (hb1.mono hB1.size))
 rw [hi] at HV
 have ht : -62135596800 ≤ t ∧ t < 253402300800 := by
  unfold insT at hi
  simpa using hi
 obtain ⟨y, m, d, hv, hc, _, _⟩ := day_exists (D := t / 86400) (by omega) (by omega)
 have HM := Lib.hid (fun W => moment_g t ht y m d hv hc W)
 have HC := Lib.hid (fun W => ctime_g y m d (t % 86400 / 3600) (t % 86400 / 60 % 60) (t % 86400 % 60) hv (by omega) (by omega) (by omega) W)
 have HI := Lib.hid (show InsTxt t (momT y m d (t % 86400 / 3600) (t % 86400 / 60 % 60) (t % 86400 % 60) ++ ⟨#[90]⟩) by unfold InsTxt; rw [if_pos hi]; exact ⟨y, m, d, hv, hc, rfl⟩)
 have hz : (momT y m d (t % 86400 / 3600) (t % 86400 / 60 % 60) (t % 86400 % 60)).size = 19 := by
  unfold momT
  simp [ByteArray.size_append, dateT_size, dig2_size]
  rfl
 generalize momT y m d (t % 86400 / 3600) (t % 86400 / 60 % 60) (t % 86400 % 60) = M at *
 clear hi hv hc ht
 generalize t % 86400 / 3600 = h at *
 generalize t % 86400 / 60 % 60 = mi at *
 generalize t % 86400 % 60 = s at *
 go_enter Tryz.func26, Tryz.ntmps26
 go_wp2_with fail
 clear v0 v1 v2 v3 vl
 generalize w.alloc (.cells #[.int .i64 t, .string ⟨#[]⟩, .int .i64 0, .int .i64 0] 38) = W at *
 refine (HV.out _).mono ?_
 rintro e w1 ⟨rfl, hb1⟩
 have b0 := b0.below hb1 b0.lt
 have hB2 := hB1.trans (hb1.mono hB1.size)
 have v0 := blk_cl b0 0 _ rfl
 have v1 := blk_cl b0 1 _ rfl
 have v2 := blk_cl b0 2 _ rfl
 have v3 := blk_cl b0 3 _ rfl
 have vl := b0.lt
 go_wp2_with fail
 clear v0 v1 v2 v3 vl
 refine (HM.out _).mono ?_
 rintro e w2 ⟨rfl, hb2⟩
 have b0 := (b0.below hb2 b0.lt).alloc (.cells #[.int .i64 y, .int .i64 m, .int .i64 d, .int .i64 h, .int .i64 mi, .int .i64 s] 114)
 have b1 := Blk.new w2 #[.int .i64 y, .int .i64 m, .int .i64 d, .int .i64 h, .int .i64 mi, .int .i64 s] 114
 have hB3 := (hB2.trans (hb2.mono hB2.size)).alloc (by have := hB2.size; have := hb2.size; omega) (.cells #[.int .i64 y, .int .i64 m, .int .i64 d, .int .i64 h, .int .i64 mi, .int .i64 s] 114)
 have v0 := blk_cl b1 0 _ rfl
 have v1 := blk_cl b1 1 _ rfl
 have v2 := blk_cl b1 2 _ rfl
 have v3 := blk_cl b1 3 _ rfl
 have v4 := blk_cl b1 4 _ rfl
 have v5 := blk_cl b1 5 _ rfl
 have vl := b1.lt
 go_wp2_with fail
 clear v0 v1 v2 v3 v4 v5 vl
 generalize w2.alloc (.cells #[.int .i64 y, .int .i64 m, .int .i64 d, .int .i64 h, .int .i64 mi, .int .i64 s] 114) = W2 at *
 refine (HC.out _).mono ?_
 rintro e w3 ⟨rfl, hb3⟩
 have b0 := b0.below hb3 b0.lt
 have hB4 := hB3.trans (hb3.mono hB3.size)
 have v0 := blk_cl b0 0 _ rfl
 have v1 := blk_cl b0 1 _ rfl
 have v2 := blk_cl b0 2 _ rfl
 have v3 := blk_cl b0 3 _ rfl
 have vl := b0.lt
 go_wp2
 exact HP.out _ _ HI.out hB4
end Go.Proofs.YtdpbhjaicgkblaaGreatDoor

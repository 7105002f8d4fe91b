/- The reference of layer 33: Moment. -/
import Derived.Test.YtdpbhjaicgkblaaGreatDoorJTxt2
import Derived.Test.YtdpbhjaicgkblaaGreatDoorJCntI
import Derived.Test.YtdpbhjaicgkblaaGreatDoorGFd
import Derived.Test.YtdpbhjaicgkblaaGreatDoorGTw
namespace Go.Proofs.YtdpbhjaicgkblaaGreatDoor
set_option linter.unusedSimpArgs false
set_option linter.unusedVariables false
open Go.ChangeShapes Go.WideShapes Go.ChangeAt Go.RowKit
theorem textR {n k : Int} {s : ByteArray} (h : TxtG n k s) (W : World) : Calls Tryz.prog 54 #[.int .i64 n, .int .i64 k] W fun e w' => e = .returned (.string s) ∧ Below W.heap.size W w' := by
 rcases h with ⟨rfl, hn, rfl⟩ | ⟨rfl, hn, rfl⟩
 ·exact r01_two n hn W
 ·exact r01_four n hn W
set_option maxRecDepth 100000 in
set_option maxHeartbeats 2000000 in
theorem r33_moment (t : Int) (ht : -62135596800 ≤ t ∧ t < 253402300800) (y m d : Int) (hv : Cv.validB y m d = true) (hc : Cv.count y m d = t / 86400) (w : World) : Calls Tryz.prog 32 #[.int .i64 t] w fun e w' => e = .returned (.string (momT y m d (t % 86400 / 3600) (t % 86400 / 60 % 60) (t % 86400 % 60))) ∧ Below w.heap.size w w' := by
 have H := Lib.hid (fun W => show Calls Tryz.prog 52 #[.int .i64 t, .int .i64 86400] W fun e w' => e = .returned (.tuple #[.int .i64 (t / 86400), .int .i64 (t % 86400), .int .i64 0]) ∧ Below W.heap.size W w' from (r01_Div t 86400 W (by decide) (by omega) (by decide)).mono (by rintro e w' ⟨rfl, n, rfl⟩; exact ⟨rfl, below_drewN (Below.refl _ _) n⟩))
 obtain ⟨g1, g2, _⟩ := day_year hv
 have HF := Lib.hid (fun W => r05_Fields y m d hv g1 g2 (Cv.count_in hv) W)
 rw [hc] at HF
 have hbd := vb_bd hv
 have hr : 0 ≤ t % 86400 ∧ t % 86400 < 86400 := by omega
 clear hv hc g1 g2
 generalize t / 86400 = D at *
 generalize t % 86400 = r at *
 have HX := Lib.hid (fun n k s (h : TxtG n k s) W => textR h W)
 have T1 := Lib.hid (tg4 (n := y) (by omega))
 have T2 := Lib.hid (tg2 (n := m) (by omega))
 have T3 := Lib.hid (tg2 (n := d) (by omega))
 have T4 := Lib.hid (tg2 (n := r / 3600) (by omega))
 have T5 := Lib.hid (tg2 (n := r / 60 % 60) (by omega))
 have T6 := Lib.hid (tg2 (n := r % 60) (by omega))
 have z1 := dig4_size y
 have z2 := dig2_size m
 have z3 := dig2_size d
 have z4 := dig2_size (r / 3600)
 have z5 := dig2_size (r / 60 % 60)
 have z6 := dig2_size (r % 60)
 unfold momT dateT
 generalize dig4 y = a1 at *
 generalize dig2 m = a2 at *
 generalize dig2 d = a3 at *
 generalize dig2 (r / 3600) = a4 at *
 generalize dig2 (r / 60 % 60) = a5 at *
 generalize dig2 (r % 60) = a6 at *
 clear hbd
 go_enter Tryz.func32, Tryz.ntmps32
 go_wp2_with fail
 refine (H.out _).mono ?_
 rintro e w1 ⟨rfl, hb1⟩
 go_wp2_with fail
 refine (HF.out _).mono ?_
 rintro e w2 ⟨rfl, hb2⟩
 have b0 := Blk.new w2 #[.int .i64 y, .int .i64 m, .int .i64 d] 110
 have hB2 := hb1.trans (hb2.mono hb1.size)
 have hB3 := hB2.alloc hB2.size (.cells #[.int .i64 y, .int .i64 m, .int .i64 d] 110)
 go_wp2_with fail
 generalize hq : w2.heap.size = q at *
 generalize w2.alloc (.cells #[.int .i64 y, .int .i64 m, .int .i64 d] 110) = W at *
 have p0 : ∀ q' : Bel W.heap.size W, q'.w1.cell? ⟨q, 0, none⟩ = some (.int .i64 y) := fun q' => (bel_cell q' _ _ b0.lt).trans (b0.cell 0 rfl)
 have p1 : ∀ q' : Bel W.heap.size W, q'.w1.cell? ⟨q, 1, none⟩ = some (.int .i64 m) := fun q' => (bel_cell q' _ _ b0.lt).trans (b0.cell 1 rfl)
 have p2 : ∀ q' : Bel W.heap.size W, q'.w1.cell? ⟨q, 2, none⟩ = some (.int .i64 d) := fun q' => (bel_cell q' _ _ b0.lt).trans (b0.cell 2 rfl)
 refine wp_region_bel (by kernel_rfl) (by kernel_rfl) ?_
 repeat (go_big_quiet_step ((go_at_call 54; exact bel_of (Nat.le_refl _) (HX.out _ _ _ (by first | exact T1.out | exact T2.out | exact T3.out) _))))
 refine wpQuiet_nil ?_
 intro w3 hw'
 obtain ⟨⟨w3', hb3⟩, e3⟩ := hw'
 subst e3
 have hB4 := hB3.trans (hb3.mono hB3.size)
 clear p0 p1 p2 b0
 go_wp2_with (go_at_call 54; refine (HX.out _ _ _ (by first | exact T4.out | exact T5.out | exact T6.out) _).mono ?_; rintro e w4 ⟨rfl, hb4⟩; have hB4 := hB4.trans (hb4.mono hB4.size); clear hb4)
 go_ret
 exact ⟨rfl, hB4⟩
end Go.Proofs.YtdpbhjaicgkblaaGreatDoor

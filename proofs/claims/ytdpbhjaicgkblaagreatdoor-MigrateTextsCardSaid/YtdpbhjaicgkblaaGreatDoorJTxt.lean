/- integer.Text at two and four digits. Printed by gen_txt.py. -/
import Derived.Test.YtdpbhjaicgkblaaGreatDoorGSt1
import Derived.Laws.BytesArg
namespace Go.Proofs.YtdpbhjaicgkblaaGreatDoor
set_option linter.unusedSimpArgs false
set_option linter.unusedVariables false
open Go.ChangeShapes Go.WideShapes Go.ChangeAt Go.RowKit
def dig2 (n : Int) : ByteArray := strOfNums [48 + n / 10 % 10, 48 + n % 10]
set_option maxRecDepth 100000 in
set_option maxHeartbeats 4000000 in
theorem text2 (n : Int) (hn : 0 ≤ n ∧ n < 100) (w : World) : Calls Tryz.prog 69 #[.int .i64 n, .int .i64 2] w fun e w' => e = .returned (.string (dig2 n)) ∧ Below w.heap.size w w' := by
 have HS := Lib.hid (fun W => size_any n (by omega) W)
 suffices HPOST : ∀ Post : Ending → World → Prop, Hid (∀ w', Below w.heap.size w w' → Post (.returned (.string (dig2 n))) w') → Calls Tryz.prog 69 #[.int .i64 n, .int .i64 2] w Post from HPOST _ (Lib.hid fun w' h => ⟨rfl, h⟩)
 intro Post HP
 unfold dig2 at HP
 have b0 := Blk.new w #[.int .u8 0, .int .u8 0, .int .u8 0, .int .u8 0, .int .u8 0, .int .u8 0, .int .u8 0, .int .u8 0, .int .u8 0, .int .u8 0, .int .u8 0, .int .u8 0, .int .u8 0, .int .u8 0, .int .u8 0, .int .u8 0, .int .u8 0, .int .u8 0, .int .u8 0, .int .u8 0, .int .u8 0, .int .u8 0, .int .u8 (48 + n / 10 % 10), .int .u8 (48 + n % 10)] 161
 have hcv : (convert 80 9 (.slice (some ⟨w.heap.size, 22, none⟩) 2 2)).run Tryz.prog (w.alloc (.cells #[.int .u8 0, .int .u8 0, .int .u8 0, .int .u8 0, .int .u8 0, .int .u8 0, .int .u8 0, .int .u8 0, .int .u8 0, .int .u8 0, .int .u8 0, .int .u8 0, .int .u8 0, .int .u8 0, .int .u8 0, .int .u8 0, .int .u8 0, .int .u8 0, .int .u8 0, .int .u8 0, .int .u8 0, .int .u8 0, .int .u8 (48 + n / 10 % 10), .int .u8 (48 + n % 10)] 161)) = .ok (.string (strOfNums [48 + n / 10 % 10, 48 + n % 10])) (w.alloc (.cells #[.int .u8 0, .int .u8 0, .int .u8 0, .int .u8 0, .int .u8 0, .int .u8 0, .int .u8 0, .int .u8 0, .int .u8 0, .int .u8 0, .int .u8 0, .int .u8 0, .int .u8 0, .int .u8 0, .int .u8 0, .int .u8 0, .int .u8 0, .int .u8 0, .int .u8 0, .int .u8 0, .int .u8 0, .int .u8 0, .int .u8 (48 + n / 10 % 10), .int .u8 (48 + n % 10)] 161)) :=
  run_convert_bytes_arg _ _ 5 Tryz.underlying80 Tryz.underlying5 w.heap.size 22 2 2 [48 + n / 10 % 10, 48 + n % 10] rfl (fun i hi => by
   match i, hi with
   | 0, _ => exact blk_cl b0 22 _ rfl
   | 1, _ => exact blk_cl b0 23 _ rfl) _ Tryz.underlying9
 have hB : Below w.heap.size w (w.alloc (.cells #[.int .u8 0, .int .u8 0, .int .u8 0, .int .u8 0, .int .u8 0, .int .u8 0, .int .u8 0, .int .u8 0, .int .u8 0, .int .u8 0, .int .u8 0, .int .u8 0, .int .u8 0, .int .u8 0, .int .u8 0, .int .u8 0, .int .u8 0, .int .u8 0, .int .u8 0, .int .u8 0, .int .u8 0, .int .u8 0, .int .u8 (48 + n / 10 % 10), .int .u8 (48 + n % 10)] 161)) := (Below.refl _ _).alloc (Nat.le_refl _) _
 have hz : (n / 10 / 10 != 0) = false := by rw [bne_eq_false_iff_eq]; omega
 clear b0
 generalize hv : strOfNums [48 + n / 10 % 10, 48 + n % 10] = sv at *
 clear hv
 go_enter Tryz.func69, Tryz.ntmps69
 go_wp2_with (go_at_call 91; refine (HS.out _).mono ?_; rintro e w1 ⟨rfl, rfl⟩)
 refine wp_loop_rounds 3 ?_
 by_cases h0 : n = 0
 ·have d0 : (n != 0) = false := by rw [bne_eq_false_iff_eq]; exact h0
  have d1 : (n / 10 != 0) = false := by rw [bne_eq_false_iff_eq]; omega
  clear h0
  rw [rounds_succ]
  go_wp2
  rw [rounds_succ]
  go_wp2
  rw [rounds_succ]
  go_wp2
  exact HP.out _ hB
 have d0 : (n != 0) = true := bne_iff_ne.2 h0
 clear h0
 rw [rounds_succ]
 go_wp2
 by_cases h1 : n / 10 = 0
 ·have d1 : (n / 10 != 0) = false := by rw [bne_eq_false_iff_eq]; exact h1
  clear h1
  rw [rounds_succ]
  go_wp2
  rw [rounds_succ]
  go_wp2
  exact HP.out _ hB
 have d1 : (n / 10 != 0) = true := bne_iff_ne.2 h1
 clear h1
 rw [rounds_succ]
 go_wp2
 rw [rounds_succ]
 go_wp2
 exact HP.out _ hB
def dig4 (n : Int) : ByteArray := strOfNums [48 + n / 10 / 10 / 10 % 10, 48 + n / 10 / 10 % 10, 48 + n / 10 % 10, 48 + n % 10]
set_option maxRecDepth 100000 in
set_option maxHeartbeats 4000000 in
theorem text4 (n : Int) (hn : 0 ≤ n ∧ n < 10000) (w : World) : Calls Tryz.prog 69 #[.int .i64 n, .int .i64 4] w fun e w' => e = .returned (.string (dig4 n)) ∧ Below w.heap.size w w' := by
 have HS := Lib.hid (fun W => size_any n (by omega) W)
 suffices HPOST : ∀ Post : Ending → World → Prop, Hid (∀ w', Below w.heap.size w w' → Post (.returned (.string (dig4 n))) w') → Calls Tryz.prog 69 #[.int .i64 n, .int .i64 4] w Post from HPOST _ (Lib.hid fun w' h => ⟨rfl, h⟩)
 intro Post HP
 unfold dig4 at HP
 have b0 := Blk.new w #[.int .u8 0, .int .u8 0, .int .u8 0, .int .u8 0, .int .u8 0, .int .u8 0, .int .u8 0, .int .u8 0, .int .u8 0, .int .u8 0, .int .u8 0, .int .u8 0, .int .u8 0, .int .u8 0, .int .u8 0, .int .u8 0, .int .u8 0, .int .u8 0, .int .u8 0, .int .u8 0, .int .u8 (48 + n / 10 / 10 / 10 % 10), .int .u8 (48 + n / 10 / 10 % 10), .int .u8 (48 + n / 10 % 10), .int .u8 (48 + n % 10)] 161
 have hcv : (convert 80 9 (.slice (some ⟨w.heap.size, 20, none⟩) 4 4)).run Tryz.prog (w.alloc (.cells #[.int .u8 0, .int .u8 0, .int .u8 0, .int .u8 0, .int .u8 0, .int .u8 0, .int .u8 0, .int .u8 0, .int .u8 0, .int .u8 0, .int .u8 0, .int .u8 0, .int .u8 0, .int .u8 0, .int .u8 0, .int .u8 0, .int .u8 0, .int .u8 0, .int .u8 0, .int .u8 0, .int .u8 (48 + n / 10 / 10 / 10 % 10), .int .u8 (48 + n / 10 / 10 % 10), .int .u8 (48 + n / 10 % 10), .int .u8 (48 + n % 10)] 161)) = .ok (.string (strOfNums [48 + n / 10 / 10 / 10 % 10, 48 + n / 10 / 10 % 10, 48 + n / 10 % 10, 48 + n % 10])) (w.alloc (.cells #[.int .u8 0, .int .u8 0, .int .u8 0, .int .u8 0, .int .u8 0, .int .u8 0, .int .u8 0, .int .u8 0, .int .u8 0, .int .u8 0, .int .u8 0, .int .u8 0, .int .u8 0, .int .u8 0, .int .u8 0, .int .u8 0, .int .u8 0, .int .u8 0, .int .u8 0, .int .u8 0, .int .u8 (48 + n / 10 / 10 / 10 % 10), .int .u8 (48 + n / 10 / 10 % 10), .int .u8 (48 + n / 10 % 10), .int .u8 (48 + n % 10)] 161)) :=
  run_convert_bytes_arg _ _ 5 Tryz.underlying80 Tryz.underlying5 w.heap.size 20 4 4 [48 + n / 10 / 10 / 10 % 10, 48 + n / 10 / 10 % 10, 48 + n / 10 % 10, 48 + n % 10] rfl (fun i hi => by
   match i, hi with
   | 0, _ => exact blk_cl b0 20 _ rfl
   | 1, _ => exact blk_cl b0 21 _ rfl
   | 2, _ => exact blk_cl b0 22 _ rfl
   | 3, _ => exact blk_cl b0 23 _ rfl) _ Tryz.underlying9
 have hB : Below w.heap.size w (w.alloc (.cells #[.int .u8 0, .int .u8 0, .int .u8 0, .int .u8 0, .int .u8 0, .int .u8 0, .int .u8 0, .int .u8 0, .int .u8 0, .int .u8 0, .int .u8 0, .int .u8 0, .int .u8 0, .int .u8 0, .int .u8 0, .int .u8 0, .int .u8 0, .int .u8 0, .int .u8 0, .int .u8 0, .int .u8 (48 + n / 10 / 10 / 10 % 10), .int .u8 (48 + n / 10 / 10 % 10), .int .u8 (48 + n / 10 % 10), .int .u8 (48 + n % 10)] 161)) := (Below.refl _ _).alloc (Nat.le_refl _) _
 have hz : (n / 10 / 10 / 10 / 10 != 0) = false := by rw [bne_eq_false_iff_eq]; omega
 clear b0
 generalize hv : strOfNums [48 + n / 10 / 10 / 10 % 10, 48 + n / 10 / 10 % 10, 48 + n / 10 % 10, 48 + n % 10] = sv at *
 clear hv
 go_enter Tryz.func69, Tryz.ntmps69
 go_wp2_with (go_at_call 91; refine (HS.out _).mono ?_; rintro e w1 ⟨rfl, rfl⟩)
 refine wp_loop_rounds 5 ?_
 by_cases h0 : n = 0
 ·have d0 : (n != 0) = false := by rw [bne_eq_false_iff_eq]; exact h0
  have d1 : (n / 10 != 0) = false := by rw [bne_eq_false_iff_eq]; omega
  have d2 : (n / 10 / 10 != 0) = false := by rw [bne_eq_false_iff_eq]; omega
  have d3 : (n / 10 / 10 / 10 != 0) = false := by rw [bne_eq_false_iff_eq]; omega
  clear h0
  rw [rounds_succ]
  go_wp2
  rw [rounds_succ]
  go_wp2
  rw [rounds_succ]
  go_wp2
  rw [rounds_succ]
  go_wp2
  rw [rounds_succ]
  go_wp2
  exact HP.out _ hB
 have d0 : (n != 0) = true := bne_iff_ne.2 h0
 clear h0
 rw [rounds_succ]
 go_wp2
 by_cases h1 : n / 10 = 0
 ·have d1 : (n / 10 != 0) = false := by rw [bne_eq_false_iff_eq]; exact h1
  have d2 : (n / 10 / 10 != 0) = false := by rw [bne_eq_false_iff_eq]; omega
  have d3 : (n / 10 / 10 / 10 != 0) = false := by rw [bne_eq_false_iff_eq]; omega
  clear h1
  rw [rounds_succ]
  go_wp2
  rw [rounds_succ]
  go_wp2
  rw [rounds_succ]
  go_wp2
  rw [rounds_succ]
  go_wp2
  exact HP.out _ hB
 have d1 : (n / 10 != 0) = true := bne_iff_ne.2 h1
 clear h1
 rw [rounds_succ]
 go_wp2
 by_cases h2 : n / 10 / 10 = 0
 ·have d2 : (n / 10 / 10 != 0) = false := by rw [bne_eq_false_iff_eq]; exact h2
  have d3 : (n / 10 / 10 / 10 != 0) = false := by rw [bne_eq_false_iff_eq]; omega
  clear h2
  rw [rounds_succ]
  go_wp2
  rw [rounds_succ]
  go_wp2
  rw [rounds_succ]
  go_wp2
  exact HP.out _ hB
 have d2 : (n / 10 / 10 != 0) = true := bne_iff_ne.2 h2
 clear h2
 rw [rounds_succ]
 go_wp2
 by_cases h3 : n / 10 / 10 / 10 = 0
 ·have d3 : (n / 10 / 10 / 10 != 0) = false := by rw [bne_eq_false_iff_eq]; exact h3
  clear h3
  rw [rounds_succ]
  go_wp2
  rw [rounds_succ]
  go_wp2
  exact HP.out _ hB
 have d3 : (n / 10 / 10 / 10 != 0) = true := bne_iff_ne.2 h3
 clear h3
 rw [rounds_succ]
 go_wp2
 rw [rounds_succ]
 go_wp2
 exact HP.out _ hB
end Go.Proofs.YtdpbhjaicgkblaaGreatDoor

/- Joined by merge.py: DigP, Ref01t. -/
import Derived.Handy
import Derived.Laws.BytesArg
import Derived.Test.YtdpbhjaicgkblaaGreatDoorGFd
import Derived.Test.YtdpbhjaicgkblaaGreatDoorGZn
/- Plain: the digits of civiltimeref01.Text. No program in sight. -/
namespace Go.Proofs.YtdpbhjaicgkblaaGreatDoor
set_option linter.unusedSimpArgs false
set_option linter.unusedVariables false
def revD (n : Int) : Nat → List Int
 | 0 => []
 | k + 1 => (48 + n / 10 ^ k % 10) :: revD n k
theorem revD_len (n : Int) : ∀ k, (revD n k).length = k
 | 0 => rfl
 | k + 1 => by rw [revD, List.length_cons, revD_len n k]
theorem sonums_cons (a : Int) (l : List Int) : strOfNums [a] ++ strOfNums l = strOfNums (a :: l) := by
 unfold strOfNums
 apply ByteArray.ext
 simp [ByteArray.data_append]
theorem revD_two (n : Int) : revD n 2 = [48 + n / 10 % 10, 48 + n % 10] := by
 simp [revD]
theorem revD_four (n : Int) : revD n 4 = [48 + n / 10 / 10 / 10 % 10, 48 + n / 10 / 10 % 10, 48 + n / 10 % 10, 48 + n % 10] := by
 simp [revD]
 rw [Int.ediv_ediv_of_nonneg (by omega), Int.ediv_ediv_of_nonneg (by omega), Int.ediv_ediv_of_nonneg (by omega)]
 simp
theorem revD_pad {n : Int} {k : Nat} (h : n / 10 ^ k = 0) : revD n (k + 1) = 48 :: revD n k := by
 rw [revD, h]; rfl
theorem div_pad {n : Int} {k : Nat} (h : n / 10 ^ k = 0) : n / 10 ^ (k + 1) = 0 := by
 rw [Int.pow_succ, ← Int.ediv_ediv_of_nonneg (by exact Int.pow_nonneg (by omega)), h]; rfl
theorem div_next (n : Int) (k : Nat) : n / 10 ^ k / 10 = n / 10 ^ (k + 1) := by
 rw [Int.pow_succ, Int.ediv_ediv_of_nonneg (by exact Int.pow_nonneg (by omega))]
end Go.Proofs.YtdpbhjaicgkblaaGreatDoor
/- The reference's texts of numbers. -/
namespace Go.Proofs.YtdpbhjaicgkblaaGreatDoor
set_option linter.unusedSimpArgs false
set_option linter.unusedVariables false
open Go.ChangeShapes Go.WideShapes Go.ChangeAt Go.RowKit
theorem revD_size (n : Int) (k : Nat) : (strOfNums (revD n k)).size = k := by
 show (strOfNums (revD n k)).data.size = k
 simp [strOfNums, revD_len]
theorem one_byte (c : Int) (W : World) : (convert 80 9 (.slice (some ⟨W.heap.size, 0, none⟩) 1 1)).run Tryz.prog (W.alloc (.cells #[.int .u8 c] 5)) = .ok (.string (strOfNums [c])) (W.alloc (.cells #[.int .u8 c] 5)) :=
 run_convert_bytes_arg _ _ 5 Tryz.underlying80 Tryz.underlying5 W.heap.size 0 1 1 [c] rfl (fun i hi => by
  match i, hi with
  | 0, _ => exact (Blk.new W #[.int .u8 c] 5).cell 0 rfl) _ Tryz.underlying9
def lenS : Value → Nat
 | .string s => s.size
 | _ => 0
theorem empty_size {s : ByteArray} (h : 1 ≤ s.size) : s.toList.isEmpty = false := by
 cases e : s.toList.isEmpty with
 | false => rfl
 | true =>
  rw [List.isEmpty_iff, ByteArray.toList_eq] at e
  have h2 : s.data.toList.length = 0 := by rw [e]; rfl
  rw [Array.length_toList] at h2
  have : s.size = s.data.size := rfl
  omega
set_option maxRecDepth 100000 in
set_option maxHeartbeats 4000000 in
theorem r01_Text (n : Int) (K : Nat) (hK : 1 ≤ K ∧ K ≤ 18) (hn : 0 ≤ n ∧ n ≤ 1000000) (h0 : n / 10 ^ K = 0) (w : World) : Calls Tryz.prog 54 #[.int .i64 n, .int .i64 (K : Int)] w fun e w' => e = .returned (.string (strOfNums (revD n K))) ∧ Below w.heap.size w w' := by
 have HS := Lib.hid (revD_size n)
 have HR := Lib.hid (fun k => show revD n (k + 1) = (48 + n / 10 ^ k % 10) :: revD n k from rfl)
 have HC := Lib.hid (fun a l => sonums_cons a l)
 have HN := Lib.hid (div_next n)
 have HP := Lib.hid (fun k => show 0 ≤ n / 10 ^ k ∧ n / 10 ^ k ≤ 1000000 from ⟨Int.ediv_nonneg hn.1 (Int.pow_nonneg (by omega)), Int.le_trans (Int.ediv_le_self _ hn.1) hn.2⟩)
 have H0 := Lib.hid h0
 have d1 : decide ((K : Int) < 0) = false := decide_eq_false (by omega)
 have d2 : decide (20 < (K : Int)) = false := decide_eq_false (by omega)
 have d3 : decide (n < 0) = false := decide_eq_false (by omega)
 clear h0
 go_enter Tryz.func54, Tryz.ntmps54
 go_wp2
 go_loopw [5, 6] (fun v5 v6 wr => ∃ k : Nat, k ≤ K ∧ v5 = .string (strOfNums (revD n k)) ∧ v6 = .int .i64 (n / 10 ^ k) ∧ Below w.heap.size w wr) (fun _ v6 _ => (intOf v6).toNat)
 case atStart => exact ⟨0, by omega, rfl, by simp, Below.refl _ _⟩
 case round =>
  obtain ⟨k, hk, rfl, rfl, hbr⟩ := hrel
  have hq := HP.out k
  by_cases hz : n / 10 ^ k = 0
  ·have dz : (n / 10 ^ k != 0) = false := by rw [bne_eq_false_iff_eq]; exact hz
   have hz := Lib.hid hz
   clear H0 HN HP HC HR
   go_wp2
   generalize hq2 : wr = wq at *
   clear hq2
   go_loop [5] (fun v5 => ∃ j : Nat, j ≤ K ∧ Hid (n / 10 ^ j = 0) ∧ v5 = .string (strOfNums (revD n j))) (fun v5 => K - lenS v5)
   case atStart => exact ⟨k, hk, hz, rfl⟩
   case round =>
    obtain ⟨j, hj, HJ, rfl⟩ := hrel
    have hsz := HS.out j
    by_cases hjK : j = K
    ·subst hjK
     have he := empty_size (s := strOfNums (revD n j)) (by omega)
     clear HJ HS
     obtain ⟨s, HQ⟩ : ∃ s, Hid (strOfNums (revD n j) = s) := ⟨_, Lib.hid rfl⟩
     rw [HQ.out] at he hsz ⊢
     have dl : decide ((s.size : Int) < (j : Int)) = false := decide_eq_false (by omega)
     go_wp2
     go_ret
     exact ⟨congrArg Ending.returned (congrArg Value.string HQ.out.symm), hbr⟩
    ·have hst : strOfNums (revD n (j + 1)) = ⟨#[48]⟩ ++ strOfNums (revD n j) := by
      rw [revD_pad HJ.out, ← sonums_cons]
      rfl
     have hs2 := HS.out (j + 1)
     have HJ2 := Lib.hid (div_pad HJ.out)
     by_cases hj0 : j = 0
     ·subst hj0
      clear HS HJ
      rw [hst] at hs2
      change Hid (n / 10 ^ (0 + 1) = 0) at HJ2
      have e0 : strOfNums (revD n 0) = ⟨#[]⟩ := rfl
      rw [e0] at hst hs2 ⊢
      clear e0
      go_wp2
      go_round
      case rel => exact ⟨1, by omega, HJ2, by rw [show (1 : Nat) = 0 + 1 from rfl, hst]⟩
      case measure =>
       have e5 : (⟨#[]⟩ : ByteArray).size = 0 := rfl
       have e6 : (⟨#[48]⟩ : ByteArray).size = 1 := rfl
       simp [lenS, e5, e6]
       omega
     ·have he := empty_size (s := strOfNums (revD n j)) (by omega)
      clear HS HJ
      rw [hst] at hs2
      generalize strOfNums (revD n j) = s at *
      have dl : decide ((s.size : Int) < (K : Int)) = true := decide_eq_true (by omega)
      go_wp2
      go_round
      case rel => exact ⟨j + 1, by omega, HJ2, by rw [hst]⟩
      case measure => simp [lenS, hs2]; omega
  ·have hkK : k < K := by
    rcases Nat.lt_or_ge k K with h | h
    ·exact h
    ·obtain rfl : k = K := by omega
     exact absurd H0.out hz
   have hnx : n / 10 ^ (k + 1) = n / 10 ^ k / 10 := (HN.out k).symm
   have hst : strOfNums (revD n (k + 1)) = strOfNums [48 + n / 10 ^ k % 10] ++ strOfNums (revD n k) := by rw [HR.out k, HC.out]
   have hsz := HS.out k
   generalize strOfNums (revD n k) = s at *
   generalize n / 10 ^ k = q at *
   have dz : (q != 0) = true := bne_iff_ne.2 hz
   have eq1 := tq_nonneg q 10 (by decide) hq.1
   obtain ⟨e1, e2, e3, e4, e5, e6⟩ := eq1
   have dn : decide (q % 10 < 0) = false := decide_eq_false (by omega)
   have hcv := one_byte (48 + q % 10) wr
   have hs1 : (strOfNums [48 + q % 10]).size = 1 := rfl
   clear HS HR HC HN HP H0
   generalize strOfNums [48 + q % 10] = a at *
   go_wp2
   go_roundw
   case rel => exact ⟨k + 1, hkK, by rw [hst], by rw [hnx], hbr.alloc hbr.size _⟩
   case measure => simp [intOf]; omega
theorem r01_two (n : Int) (hn : 0 ≤ n ∧ n < 100) (w : World) : Calls Tryz.prog 54 #[.int .i64 n, .int .i64 2] w fun e w' => e = .returned (.string (strOfNums [48 + n / 10 % 10, 48 + n % 10])) ∧ Below w.heap.size w w' := by
 rw [← revD_two]
 exact r01_Text n 2 (by omega) (by omega) (by show n / 100 = 0; omega) w
theorem r01_four (n : Int) (hn : 0 ≤ n ∧ n < 10000) (w : World) : Calls Tryz.prog 54 #[.int .i64 n, .int .i64 4] w fun e w' => e = .returned (.string (strOfNums [48 + n / 10 / 10 / 10 % 10, 48 + n / 10 / 10 % 10, 48 + n / 10 % 10, 48 + n % 10])) ∧ Below w.heap.size w w' := by
 rw [← revD_four]
 exact r01_Text n 4 (by omega) (by omega) (by show n / 10000 = 0; omega) w
end Go.Proofs.YtdpbhjaicgkblaaGreatDoor

/- Joined by merge.py: Ref22a. -/
import Derived.Test.YtdpbhjaicgkblaaGreatDoorGZa
import Derived.Test.YtdpbhjaicgkblaaGreatDoorGValid
/- The reference of layer 22: names, types. -/
namespace Go.Proofs.YtdpbhjaicgkblaaGreatDoor
set_option linter.unusedSimpArgs false
set_option linter.unusedVariables false
open Go.ChangeShapes Go.WideShapes Go.ChangeAt Go.RowKit
def spcI (c : Int) : Bool := c == 95 || c == 47 || c == 43 || c == 45
theorem namI_spc {c : Int} (h1 : Cv.ltrI c = false) (h2 : Cv.digI c = false) : Cv.namI c = spcI c := by unfold Cv.namI spcI; rw [h1, h2]; simp
theorem r18_letter (c : UInt8) (w : World) : Calls Tryz.prog 93 #[.int .u8 c.toNat] w fun e w' => e = .returned (.bool (Cv.ltrI c.toNat)) ∧ w' = w := by
 have hc := c.toNat_lt
 go_enter Tryz.func93, Tryz.ntmps93
 go_wp2
 all_goals (go_ret; exact ⟨ret1 (vbool (by unfold Cv.ltrI; rw [Bool.eq_iff_iff]; simp [*] <;> omega)), rfl⟩)
theorem r18_digit (c : UInt8) (w : World) : Calls Tryz.prog 94 #[.int .u8 c.toNat] w fun e w' => e = .returned (.bool (Cv.digI c.toNat)) ∧ w' = w := by
 have hc := c.toNat_lt
 go_enter Tryz.func94, Tryz.ntmps94
 go_wp2
 all_goals (go_ret; exact ⟨ret1 (vbool (by unfold Cv.digI; rw [Bool.eq_iff_iff]; simp [*] <;> omega)), rfl⟩)
set_option maxRecDepth 100000 in
set_option maxHeartbeats 1000000 in
theorem r18_Name (s : ByteArray) (w : World) : Calls Tryz.prog 72 #[.string s] w fun e w' => e = .returned (.bool (Cv.nameZ s)) ∧ w' = w := by
 by_cases h1 : 1 ≤ s.size
 ·by_cases h2 : s.size ≤ 30
  ·cases hl : Cv.ltrI (s.get! 0).toNat
   ·rw [show Cv.nameZ s = false by unfold Cv.nameZ; rw [hl]; simp]
    rw [Cv.get!_eq s 0 h1] at hl
    have HL := Lib.hid hl
    clear hl
    go_enter Tryz.func72, Tryz.ntmps72
    go_wp2_with (go_at_call 93; refine (r18_letter _ _).mono ?_; rintro e w1 ⟨rfl, rfl⟩; rw [HL.out])
    go_ret
    exact ⟨rfl, rfl⟩
   ·have hn : Cv.nameZ s = namAll s := by unfold Cv.nameZ; rw [hl, decide_eq_true ⟨h1, h2⟩]; rfl
    rw [hn]
    rw [Cv.get!_eq s 0 h1] at hl
    have HL := Lib.hid hl
    clear hl hn
    go_enter Tryz.func72, Tryz.ntmps72
    go_wp2_with (go_at_call 93; refine (r18_letter _ _).mono ?_; rintro e w1 ⟨rfl, rfl⟩; rw [HL.out])
    go_loop [3] (fun i => ∃ k : Nat, k ≤ s.size ∧ i = .int .i64 k ∧ (s.data.toList.take k).all (fun b => Cv.namI b.toNat) = true) (fun i => s.size - (intOf i).toNat)
    case atStart => exact ⟨0, Nat.zero_le _, rfl, by simp⟩
    case round =>
     obtain ⟨k, hk, rfl, hr⟩ := hrel
     have HR := Lib.hid hr
     clear hr
     by_cases hlt : k < s.size
     ·cases a1 : Cv.ltrI (s[k]'hlt).toNat
      ·cases a2 : Cv.digI (s[k]'hlt).toNat
       ·have A1 := Lib.hid a1
        have A2 := Lib.hid a2
        have NS := Lib.hid (namI_spc a1 a2)
        clear a1 a2
        go_wp2_with (first | (go_at_call 93; refine (r18_letter _ _).mono ?_; rintro e w1 ⟨rfl, rfl⟩; rw [A1.out]) | (go_at_call 94; refine (r18_digit _ _).mono ?_; rintro e w1 ⟨rfl, rfl⟩; rw [A2.out]))
        all_goals first
         | (
           go_round
           case rel => exact ⟨k + 1, by omega, by go_num, Cv.all_snoc hlt HR.out (by rw [NS.out]; clear NS HR A1 A2; (try simp only [bne_iff_ne, bne_eq_false_iff_eq, ne_eq] at *); simp [spcI]; omega)⟩
           case measure => simp [intOf]; omega)
         | (
           go_ret
           exact ⟨ret1 (vbool (Cv.all_bad hlt (by rw [NS.out]; clear NS HR A1 A2; (try simp only [bne_iff_ne, bne_eq_false_iff_eq, ne_eq] at *); simp [spcI]; omega)).symm), rfl⟩)
       ·have A1 := Lib.hid a1
        have A2 := Lib.hid a2
        clear a1 a2
        go_wp2_with (first | (go_at_call 93; refine (r18_letter _ _).mono ?_; rintro e w1 ⟨rfl, rfl⟩; rw [A1.out]) | (go_at_call 94; refine (r18_digit _ _).mono ?_; rintro e w1 ⟨rfl, rfl⟩; rw [A2.out]))
        go_round
        case rel => exact ⟨k + 1, by omega, by go_num, Cv.all_snoc hlt HR.out (by simp only [Cv.namI, A1.out, A2.out]; simp)⟩
        case measure => simp [intOf]; omega
      ·have A1 := Lib.hid a1
       clear a1
       go_wp2_with (go_at_call 93; refine (r18_letter _ _).mono ?_; rintro e w1 ⟨rfl, rfl⟩; rw [A1.out])
       go_round
       case rel => exact ⟨k + 1, by omega, by go_num, Cv.all_snoc hlt HR.out (by simp only [Cv.namI, A1.out]; simp)⟩
       case measure => simp [intOf]; omega
     ·go_wp2
      go_ret
      exact ⟨ret1 (vbool (Cv.all_end (by omega) HR.out).symm), rfl⟩
  ·rw [Cv.nameZ_no (by omega)]
   go_enter Tryz.func72, Tryz.ntmps72
   go_wp2
   go_ret
   exact ⟨rfl, rfl⟩
 ·rw [Cv.nameZ_no (by omega)]
  go_enter Tryz.func72, Tryz.ntmps72
  go_wp2
  go_ret
  exact ⟨rfl, rfl⟩
end Go.Proofs.YtdpbhjaicgkblaaGreatDoor

/- The law YearruleFormats: its walk. -/
import Derived.Test.YtjpjmlljgcpbkaaAwake
import Derived.Test.YtjpjmlljgcpbkaaRef20g
namespace Go.Proofs.Ytjpjmlljgcpbkaa
set_option linter.unusedSimpArgs false
set_option linter.unusedVariables false
open Go.ChangeShapes Go.WideShapes Go.ChangeAt Go.RowKit

set_option maxRecDepth 100000 in
set_option maxHeartbeats 4000000 in
theorem law_YearruleFormats (f l : ByteArray) (sv : Int) (w : World) (hm : HasMax w) : Calls Try.prog 3 #[.string f, .string l, .int .i64 sv] w fun e w' => e = .returned (.bool true) ∧ Below w.heap.size w w' := by
  have HAw := Lib.hid (fun W h => awake_any W h)
  have HM := Lib.hid hm
  clear hm
  by_cases h1 : f.size ≤ 200
  · by_cases h2 : l.size ≤ 200
    · have HF := Lib.hid (fun W h => Format_any f l sv W h (by omega))
      have HR := Lib.hid (fun W => r20_Format f l sv W (by omega))
      rw [rformat_eq] at HR
      obtain ⟨S, hS⟩ : ∃ S, Hid (formatF f l sv = S) := ⟨_, rfl⟩
      rw [hS.out] at HF HR
      obtain ⟨s1, s2⟩ := S
      dsimp only at HF HR
      go_enter Try.func3, Try.ntmps3
      go_wp2_with (first
        | (go_at_call 6; refine (HAw.out _ HM.out).mono ?_; rintro e w1 ⟨rfl, hb1⟩)
        | (go_at_call 7; refine (HF.out _ (HM.out.on hb1)).mono ?_; rintro e w2 ⟨rfl, hb2⟩)
        | (go_at_call 8; refine (HR.out _).mono ?_; rintro e w3 ⟨rfl, hb3⟩))
      all_goals go_ret
      all_goals exact ⟨rfl, (hb1.trans (hb2.mono hb1.size)).trans (hb3.mono (Nat.le_trans hb1.size hb2.size))⟩
    · go_enter Try.func3, Try.ntmps3
      go_wp2_with (go_at_call 6; refine (HAw.out _ HM.out).mono ?_; rintro e w1 ⟨rfl, hb1⟩)
      all_goals go_ret
      all_goals exact ⟨rfl, hb1⟩
  · go_enter Try.func3, Try.ntmps3
    go_wp2_with (go_at_call 6; refine (HAw.out _ HM.out).mono ?_; rintro e w1 ⟨rfl, hb1⟩)
    all_goals go_ret
    all_goals exact ⟨rfl, hb1⟩

end Go.Proofs.Ytjpjmlljgcpbkaa

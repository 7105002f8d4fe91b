/- The law YearruleSpaces: its walk. -/
import Derived.Test.YtjpjmlljgcpbkaaGreatAwake
import Derived.Test.YtjpjmlljgcpbkaaGreatRefSpaced
import Derived.Test.YtjpjmlljgcpbkaaGreatYears
namespace Go.Proofs.YtjpjmlljgcpbkaaGreat
set_option linter.unusedSimpArgs false
set_option linter.unusedVariables false
open Go.ChangeShapes Go.WideShapes Go.ChangeAt Go.RowKit

set_option maxRecDepth 100000 in
set_option maxHeartbeats 1000000 in
theorem law_YearruleSpaces (rs : List Rule) (v : Value) (w : World) (h : Rd Rule.cells 11 w v rs) (hm : HasMax w) :
    Calls Tryz.prog 4 #[v] w fun e w' => e = .returned (.bool true) ∧ Below w.heap.size w w' := by
  obtain ⟨A, c, rfl⟩ := rd_vform h
  have HR := Lib.hid h
  clear h
  have HAw := Lib.hid (fun W h => awake_any W h)
  have HM := Lib.hid hm
  clear hm
  by_cases g1 : 6 < rs.length
  · go_enter Tryz.func4, Tryz.ntmps4
    go_wp2_with (go_at_call 9; refine (HAw.out _ HM.out).mono ?_; rintro e w1 ⟨rfl, hb1⟩)
    go_ret
    exact ⟨rfl, hb1⟩
  have HY := Lib.hid (fun W h => years_any rs (.slice A rs.length c) W (by omega) h)
  have hmb := mxF_bd rs
  have hyb : 0 ≤ mxF rs * (rs.length : Int) ∧ mxF rs * (rs.length : Int) ≤ 9999 * 6 := ⟨Int.mul_nonneg hmb.1 (by omega), Int.mul_le_mul hmb.2 (by omega) (by omega) (by omega)⟩
  by_cases g2 : 600 < mxF rs * (rs.length : Int)
  · clear hmb
    generalize mxF rs * (rs.length : Int) = Y at *
    go_enter Tryz.func4, Tryz.ntmps4
    go_wp2_with (first
      | (go_at_call 9; refine (HAw.out _ HM.out).mono ?_; rintro e w1 ⟨rfl, hb1⟩)
      | (go_at_call 15; refine (HY.out _ (HR.out.on hb1)).mono ?_; rintro e w2 ⟨rfl, hb2⟩; have hB2 := hb1.trans (hb2.mono hb1.size)))
    all_goals go_ret
    all_goals exact ⟨rfl, hB2⟩
  have hg2 : mxF rs * (rs.length : Int) ≤ 600 := by omega
  have HS := Lib.hid (fun W h => Spaced_any rs (.slice A rs.length c) W (by omega) h)
  have HT := Lib.hid (fun W h => r20_Spaced rs (.slice A rs.length c) W (by omega) h hg2)
  clear g2 hmb
  generalize mxF rs * (rs.length : Int) = Y at HY hyb hg2
  generalize spacedF rs = B at HS HT
  have z1 : decide (6 < (rs.length : Int)) = false := decide_eq_false (by omega)
  have z2 : decide (600 < Y) = false := decide_eq_false (by omega)
  cases B
  all_goals
    go_enter Tryz.func4, Tryz.ntmps4
    go_wp2_with (first
      | (go_at_call 9; refine (HAw.out _ HM.out).mono ?_; rintro e w1 ⟨rfl, hb1⟩)
      | (go_at_call 15; refine (HY.out _ (HR.out.on hb1)).mono ?_; rintro e w2 ⟨rfl, hb2⟩; have hB2 := hb1.trans (hb2.mono hb1.size))
      | (go_at_call 16; refine (HS.out _ (HR.out.on hB2)).mono ?_; rintro e w3 ⟨rfl, hb3⟩; have hB3 := hB2.trans (hb3.mono hB2.size))
      | (go_at_call 17; refine (HT.out _ (HR.out.on hB3)).mono ?_; rintro e w4 ⟨rfl, hb4⟩; have hB4 := hB3.trans (hb4.mono hB3.size)))
    go_ret
    exact ⟨ret1 (vbool (by simp)), hB4⟩

end Go.Proofs.YtjpjmlljgcpbkaaGreat

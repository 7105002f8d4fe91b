/- The reference of layer 20: All, Range. -/
import Derived.Test.YtjpjmlljgcpbkaaGreatRefYear
import Derived.Test.YtjpjmlljgcpbkaaGreatAll
namespace Go.Proofs.YtjpjmlljgcpbkaaGreat
set_option linter.unusedSimpArgs false
set_option linter.unusedVariables false
open Go.ChangeShapes Go.WideShapes Go.ChangeAt Go.RowKit

theorem r20_Year_none (y : Int) (A : Option Addr) (c : Nat) (w : World) :
    Calls Tryz.prog 22 #[.slice A 0 c, .int .i64 y] w fun e w' => ∃ v, e = .returned v ∧ Ins w' v (yearF [] y) ∧ Below w.heap.size w w' := by
  go_enter Tryz.func22, Tryz.ntmps22
  go_wp2
  refine wp_loop_rounds 1 ?_
  rw [rounds_succ]
  go_wp2
  go_ret
  exact ⟨_, rfl, .inl ⟨rfl, List.mergeSort_nil⟩, Below.refl _ _⟩
theorem r20_Year (rs : List Rule) (y : Int) (v : Value) (w : World) (hl : rs.length ≤ 1000000) (h : Rd Rule.cells 11 w v rs) :
    Calls Tryz.prog 22 #[v, .int .i64 y] w fun e w' => ∃ v, e = .returned v ∧ Ins w' v (yearF rs y) ∧ Below w.heap.size w w' := by
  by_cases h0 : rs = []
  · subst h0
    rcases h with ⟨_, A, c, rfl⟩ | ⟨g, off, c, rfl, _⟩
    · exact r20_Year_none y A c w
    · exact r20_Year_none y _ c w
  · rcases h with ⟨h1, _⟩ | ⟨g, off, c, rfl, hg, hc⟩
    · exact absurd h1 h0
    · exact r20_Year_some rs y g off c w hg hl (List.length_pos_iff.2 h0) hc

set_option maxRecDepth 100000 in
set_option maxHeartbeats 1000000 in
theorem r20_All_some (rs : List Rule) (b off c : Nat) (w : World) (hb : b < w.heap.size) (hl : rs.length ≤ 1000000) (h0 : 0 < rs.length)
    (hc : ∀ j, j < rs.length → ∀ i u, (Rule.cells rs[j]!)[i]? = some u → w.cell? ⟨b, off + j * 11 + i, none⟩ = some u) :
    Calls Tryz.prog 47 #[.slice (some ⟨b, off, none⟩) rs.length c] w fun e w' => e = .returned (.bool (allV rs)) ∧ Below w.heap.size w w' := by
  have HC := Lib.hid hc
  clear hc
  go_enter Tryz.func47, Tryz.ntmps47
  go_wp2
  go_loopw [3] (fun i wr => ∃ k : Nat, k ≤ rs.length ∧ i = .int .i64 k ∧ Hid (∀ j, j < k → (rs[j]!).valid = true) ∧ Below w.heap.size w wr) (fun i _ => rs.length - (intOf i).toNat)
  case atStart => exact ⟨0, Nat.zero_le _, rfl, fun j h => absurd h (by omega), Below.refl _ _⟩
  case round =>
    obtain ⟨k, hk, rfl, HJ, hbw⟩ := hrel
    by_cases hlt : k < rs.length
    · have hcell : ∀ i u, (Rule.cells rs[k]!)[i]? = some u → wr.cell? ⟨b, off + k * 11 + i, none⟩ = some u := fun i u hu => (hbw.cell (p := ⟨b, off + k * 11 + i, none⟩) hb).trans (HC.out k hlt i u hu)
      have HK := Lib.hid (show (rs[k]!).valid = true → ∀ j, j < k + 1 → (rs[j]!).valid = true from fun h1 j h2 => by
        rcases Nat.lt_or_eq_of_le (show j ≤ k by omega) with h3 | rfl
        · exact HJ.out j h3
        · exact h1)
      have HN := Lib.hid (show (rs[k]!).valid = false → allV rs = false from fun h1 => by
        rw [getElem!_pos rs k hlt] at h1
        exact List.all_eq_false.2 ⟨_, List.getElem_mem hlt, by rw [h1]; simp⟩)
      generalize hrr : rs[k]! = r at *
      have c0 : wr.cell? ⟨b, off + k * 11, none⟩ = _ := hcell 0 _ rfl
      have c1 := hcell 1 _ rfl
      have c2 := hcell 2 _ rfl
      have c3 := hcell 3 _ rfl
      have c4 := hcell 4 _ rfl
      have c5 := hcell 5 _ rfl
      have c6 := hcell 6 _ rfl
      have c7 := hcell 7 _ rfl
      have c8 := hcell 8 _ rfl
      have c9 := hcell 9 _ rfl
      have c10 := hcell 10 _ rfl
      have HV := Lib.hid (fun W => r20_Valid r W)
      clear hcell hrr
      cases hv : r.valid
      · rw [hv] at HV
        have HN2 := Lib.hid (HN.out hv)
        go_wp2_with (go_at_call 14; refine (HV.out _).mono ?_; rintro e w1 ⟨rfl, hb1⟩)
        go_ret
        exact ⟨by rw [HN2.out]; rfl, hbw.trans (hb1.mono hbw.size)⟩
      · rw [hv] at HV
        have HK2 := Lib.hid (HK.out hv)
        go_wp2_with (go_at_call 14; refine (HV.out _).mono ?_; rintro e w1 ⟨rfl, hb1⟩)
        go_roundw
        case rel => exact ⟨k + 1, by omega, by go_num, HK2.out, hbw.trans (hb1.mono hbw.size)⟩
        case measure => simp [intOf]; omega
    · have hk' : k = rs.length := by omega
      subst hk'
      have hA : allV rs = true := List.all_eq_true.2 fun r hr => by
        obtain ⟨j, hj, rfl⟩ := List.getElem_of_mem hr
        have := HJ.out j hj
        rwa [getElem!_pos rs j hj] at this
      have HA := Lib.hid hA
      clear hA
      go_wp2
      go_ret
      exact ⟨by rw [HA.out]; rfl, hbw⟩
theorem r20_All (rs : List Rule) (v : Value) (w : World) (hl : rs.length ≤ 1000000) (h : Rd Rule.cells 11 w v rs) :
    Calls Tryz.prog 47 #[v] w fun e w' => e = .returned (.bool (allV rs)) ∧ Below w.heap.size w w' := by
  by_cases h0 : rs = []
  · subst h0
    have hn : ∀ A c, Calls Tryz.prog 47 #[.slice A 0 c] w fun e w' => e = .returned (.bool true) ∧ Below w.heap.size w w' := by
      intro A c
      go_enter Tryz.func47, Tryz.ntmps47
      go_wp2
      refine wp_loop_rounds 1 ?_
      rw [rounds_succ]
      go_wp2
      go_ret
      exact ⟨rfl, Below.refl _ _⟩
    rcases h with ⟨_, A, c, rfl⟩ | ⟨g, off, c, rfl, _⟩
    · exact hn A c
    · exact hn _ c
  · rcases h with ⟨h1, _⟩ | ⟨g, off, c, rfl, hg, hc⟩
    · exact absurd h1 h0
    · exact r20_All_some rs g off c w hg hl (List.length_pos_iff.2 h0) hc

end Go.Proofs.YtjpjmlljgcpbkaaGreat

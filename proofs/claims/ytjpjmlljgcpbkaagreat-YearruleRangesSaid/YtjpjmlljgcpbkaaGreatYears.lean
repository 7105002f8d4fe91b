/- The law's own guard: years. -/
import Derived.Test.YtjpjmlljgcpbkaaGreatSpaced
import Derived.Test.YtjpjmlljgcpbkaaGreatRef20v
namespace Go.Proofs.YtjpjmlljgcpbkaaGreat
set_option linter.unusedSimpArgs false
set_option linter.unusedVariables false
open Go.ChangeShapes Go.WideShapes Go.ChangeAt Go.RowKit

def mx1 (n : Int) (r : Rule) : Int := if r.valid then max n (r.to - r.fr + 1) else n
def mxF (rs : List Rule) : Int := rs.foldl mx1 0
theorem mxF_take {rs : List Rule} {k : Nat} (h : k < rs.length) : mxF (rs.take (k + 1)) = mx1 (mxF (rs.take k)) rs[k]! := by
  unfold mxF
  rw [List.take_succ_eq_append_getElem h, List.foldl_append, getElem!_pos rs k h]; rfl
theorem valid_years {r : Rule} (h : r.valid = true) : 1 ≤ r.fr ∧ r.fr ≤ r.to ∧ r.to ≤ 9999 := by
  have ho := Rule.valid_ok h
  exact ⟨ho.fr, ho.to, ho.max⟩
theorem mx1_bd {n : Int} {r : Rule} (h0 : 0 ≤ n) (h1 : n ≤ 9999) : n ≤ mx1 n r ∧ mx1 n r ≤ 9999 := by
  unfold mx1
  cases hv : r.valid
  · simp; exact h1
  · have := valid_years hv
    simp only [if_true]
    omega
theorem foldl_bd : ∀ (rs : List Rule) (n : Int), 0 ≤ n → n ≤ 9999 → n ≤ rs.foldl mx1 n ∧ rs.foldl mx1 n ≤ 9999
  | [], n, _, h => ⟨Int.le_refl _, h⟩
  | r :: rs, n, h0, h1 => by
    have h2 := mx1_bd (r := r) h0 h1
    have h3 := foldl_bd rs (mx1 n r) (by omega) h2.2
    exact ⟨Int.le_trans h2.1 h3.1, h3.2⟩
theorem mxF_bd (rs : List Rule) : 0 ≤ mxF rs ∧ mxF rs ≤ 9999 := foldl_bd rs 0 (by decide) (by decide)
theorem foldl_ge : ∀ (rs : List Rule) (n : Int), 0 ≤ n → n ≤ 9999 → ∀ r ∈ rs, r.valid = true → r.to - r.fr + 1 ≤ rs.foldl mx1 n
  | [], _, _, _, r, hr, _ => by cases hr
  | r :: rs, n, h0, h1, x, hx, hv => by
    have h2 := mx1_bd (r := r) h0 h1
    rcases List.mem_cons.1 hx with rfl | hx
    · have h3 := (foldl_bd rs (mx1 n x) (by omega) h2.2).1
      have h4 : x.to - x.fr + 1 ≤ mx1 n x := by unfold mx1; rw [if_pos hv]; omega
      exact Int.le_trans h4 h3
    · exact foldl_ge rs (mx1 n r) (by omega) h2.2 x hx hv
theorem mxF_ge {rs : List Rule} {r : Rule} (h : r ∈ rs) (hv : r.valid = true) : r.to - r.fr + 1 ≤ mxF rs := foldl_ge rs 0 (by decide) (by decide) r h hv
/-- the guard of the laws on spaced lists -/
theorem years_guard {rs : List Rule} (h : mxF rs * (rs.length : Int) ≤ 600) (hv : allV rs = true) : rs.length ≤ 1 ∨ ∀ r ∈ rs, r.to - r.fr + 1 ≤ 300 := by
  by_cases h1 : rs.length ≤ 1
  · exact .inl h1
  · refine .inr fun r hr => ?_
    have h2 := mxF_ge hr ((List.all_eq_true.1 hv) r hr)
    have h3 := (mxF_bd rs).1
    have h4 : mxF rs * 2 ≤ mxF rs * (rs.length : Int) := Int.mul_le_mul_of_nonneg_left (by omega) h3
    omega

set_option maxRecDepth 100000 in
set_option maxHeartbeats 2000000 in
theorem years_some (rs : List Rule) (b off c : Nat) (w : World) (hb : b < w.heap.size) (hl : rs.length ≤ 1000000) (h0 : 0 < rs.length)
    (hc : ∀ j, j < rs.length → ∀ i u, (Rule.cells rs[j]!)[i]? = some u → w.cell? ⟨b, off + j * 11 + i, none⟩ = some u) :
    Calls Tryz.prog 15 #[.slice (some ⟨b, off, none⟩) rs.length c] w fun e w' => e = .returned (.int .i64 (mxF rs * (rs.length : Int))) ∧ Below w.heap.size w w' := by
  have HC := Lib.hid hc
  clear hc
  go_enter Tryz.func15, Tryz.ntmps15
  go_wp2
  go_loopw [3, 8] (fun n i wr => ∃ k : Nat, k ≤ rs.length ∧ i = .int .i64 k ∧ n = .int .i64 (mxF (rs.take k)) ∧ Below w.heap.size w wr) (fun _ i _ => rs.length - (intOf i).toNat)
  case atStart => exact ⟨0, Nat.zero_le _, rfl, rfl, Below.refl _ _⟩
  case round =>
    obtain ⟨k, hk, rfl, rfl, hbw⟩ := hrel
    have hm := mxF_bd (rs.take k)
    by_cases hlt : k < rs.length
    · have hcell : ∀ i u, (Rule.cells rs[k]!)[i]? = some u → wr.cell? ⟨b, off + k * 11 + i, none⟩ = some u := fun i u hu => (hbw.cell (p := ⟨b, off + k * 11 + i, none⟩) hb).trans (HC.out k hlt i u hu)
      have HT := Lib.hid (mxF_take hlt)
      generalize hrr : rs[k]! = r at *
      have c0 : wr.cell? ⟨b, off + k * 11, none⟩ = _ := hcell 0 _ rfl
      have c1 := hcell 1 _ rfl
      have c2 := hcell 2 _ rfl
      have c3 := hcell 3 _ rfl
      have c4 := hcell 4 _ rfl
      have c5 := hcell 5 _ rfl
      have c6 := hcell 6 _ rfl
      have c7 := hcell 7 _ rfl
      have c8 := hcell 8 _ rfl
      have c9 := hcell 9 _ rfl
      have c10 := hcell 10 _ rfl
      have HV := Lib.hid (fun W => r20_Valid r W)
      clear hcell hrr
      generalize mxF (rs.take k) = N at *
      cases hv : r.valid
      · rw [hv] at HV
        have HN := Lib.hid (show mx1 N r = N by unfold mx1; rw [hv]; rfl)
        clear hv
        go_wp2_with (go_at_call 14; refine (HV.out _).mono ?_; rintro e w1 ⟨rfl, hb1⟩; obtain ⟨hc1, hf1⟩ := bcell hb1)
        go_roundw
        case rel => exact ⟨k + 1, by omega, by go_num, by rw [HT.out, HN.out], (hbw.alloc hbw.size _).trans (hb1.mono (by have := hbw.size; simp; omega))⟩
        case measure => simp [intOf]; omega
      · rw [hv] at HV
        have hy := valid_years hv
        have HN := Lib.hid (show mx1 N r = max N (r.to - r.fr + 1) by unfold mx1; rw [hv]; rfl)
        clear hv
        go_wp2_with (go_at_call 14; refine (HV.out _).mono ?_; rintro e w1 ⟨rfl, hb1⟩; obtain ⟨hc1, hf1⟩ := bcell hb1)
        go_roundw
        case rel => exact ⟨k + 1, by omega, by go_num, by rw [HT.out, HN.out], (hbw.alloc hbw.size _).trans (hb1.mono (by have := hbw.size; simp; omega))⟩
        case measure => simp [intOf]; omega
    · have hk' : k = rs.length := by omega
      subst hk'
      rw [List.take_length] at *
      have hmul : 0 ≤ mxF rs * (rs.length : Int) ∧ mxF rs * (rs.length : Int) ≤ 9999 * 1000000 := ⟨Int.mul_nonneg hm.1 (by omega), Int.mul_le_mul hm.2 (by omega) (by omega) (by omega)⟩
      go_wp2
      go_ret
      exact ⟨ret1 (by go_num), hbw⟩

theorem years_any (rs : List Rule) (v : Value) (w : World) (hl : rs.length ≤ 1000000) (h : Rd Rule.cells 11 w v rs) :
    Calls Tryz.prog 15 #[v] w fun e w' => e = .returned (.int .i64 (mxF rs * (rs.length : Int))) ∧ Below w.heap.size w w' := by
  by_cases h0 : rs = []
  · subst h0
    have hn : ∀ A c, Calls Tryz.prog 15 #[.slice A 0 c] w fun e w' => e = .returned (.int .i64 0) ∧ Below w.heap.size w w' := by
      intro A c
      go_enter Tryz.func15, Tryz.ntmps15
      go_wp2
      refine wp_loop_rounds 1 ?_
      rw [rounds_succ]
      go_wp2
      go_ret
      exact ⟨rfl, Below.refl _ _⟩
    rcases h with ⟨_, A, c, rfl⟩ | ⟨g, off, c, rfl, _⟩
    · exact hn A c
    · exact hn _ c
  · rcases h with ⟨h1, _⟩ | ⟨g, off, c, rfl, hg, hc⟩
    · exact absurd h1 h0
    · exact years_some rs g off c w hg hl (List.length_pos_iff.2 h0) hc

end Go.Proofs.YtjpjmlljgcpbkaaGreat

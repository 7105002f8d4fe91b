/- The law YearruleApart: its walk. -/
import Derived.Test.YtjpjmlljgcpbkaaGreatAwake
import Derived.Test.YtjpjmlljgcpbkaaGreatBack
import Derived.Test.YtjpjmlljgcpbkaaGreatApartP
namespace Go.Proofs.YtjpjmlljgcpbkaaGreat
set_option linter.unusedSimpArgs false
set_option linter.unusedVariables false
open Go.ChangeShapes Go.WideShapes Go.ChangeAt Go.RowKit

theorem rd_shape {α : Type} [Inhabited α] {enc : α → List Value} {k : Nat} {w : World} {v : Value} {es : List α} (h : Rd enc k w v es) : ∃ A c, v = .slice A es.length c := by
  rcases h with ⟨rfl, A, c, rfl⟩ | ⟨g, off, c, rfl, _⟩
  · exact ⟨A, c, rfl⟩
  · exact ⟨_, c, rfl⟩
theorem rd_tl {r : Rule} {rs : List Rule} {w : World} {g off c cc : Nat} (hcap : (r :: rs).length ≤ c) (hg : g < w.heap.size) (h : ∀ j, j < (r :: rs).length → ∀ i u, (Rule.cells (r :: rs)[j]!)[i]? = some u → w.cell? ⟨g, off + j * 11 + i, none⟩ = some u) :
    Rd Rule.cells 11 w (.slice (if c = 1 then some ⟨g, off, none⟩ else some ⟨g, off + 11, none⟩) rs.length cc) rs := by
  by_cases hc : c = 1
  · have h0 : rs = [] := List.eq_nil_of_length_eq_zero (by simp at hcap; omega)
    subst h0
    exact .inl ⟨rfl, _, _, rfl⟩
  · rw [if_neg hc]
    refine .inr ⟨g, off + 11, cc, rfl, hg, fun j hj i u hu => ?_⟩
    have h1 := h (j + 1) (by simp; omega) i u (by simpa using hu)
    rw [show off + 11 + j * 11 + i = off + (j + 1) * 11 + i by omega]
    exact h1

set_option maxRecDepth 100000 in
set_option maxHeartbeats 1000000 in
theorem law_YearruleApart (rs : List Rule) (v : Value) (a b : Int) (w : World) (h : Rd Rule.cells 11 w v rs) (hcp : ∀ A l c, v = .slice A l c → l ≤ c) (hm : HasMax w) :
    Calls Tryz.prog 7 #[v, .int .i64 a, .int .i64 b] w fun e w' => e = .returned (.bool true) ∧ Below w.heap.size w w' := by
  obtain ⟨A, c, rfl⟩ := rd_shape h
  have hcap := hcp _ _ _ rfl
  clear hcp
  have HR := Lib.hid h
  clear h
  have HAw := Lib.hid (fun W h => awake_any W h)
  have HM := Lib.hid hm
  clear hm
  by_cases g1 : 6 < rs.length
  · go_enter Tryz.func7, Tryz.ntmps7
    go_wp2_with (go_at_call 9; refine (HAw.out _ HM.out).mono ?_; rintro e w1 ⟨rfl, hb1⟩)
    go_ret
    exact ⟨rfl, hb1⟩
  have HY := Lib.hid (fun W h => years_any rs (.slice A rs.length c) W (by omega) h)
  have hmb := mxF_bd rs
  have hyb : 0 ≤ mxF rs * (rs.length : Int) ∧ mxF rs * (rs.length : Int) ≤ 9999 * 6 := ⟨Int.mul_nonneg hmb.1 (by omega), Int.mul_le_mul hmb.2 (by omega) (by omega) (by omega)⟩
  by_cases g2 : 600 < mxF rs * (rs.length : Int)
  · clear hmb
    generalize mxF rs * (rs.length : Int) = Y at *
    go_enter Tryz.func7, Tryz.ntmps7
    go_wp2_with (first
      | (go_at_call 9; refine (HAw.out _ HM.out).mono ?_; rintro e w1 ⟨rfl, hb1⟩)
      | (go_at_call 15; refine (HY.out _ (HR.out.on hb1)).mono ?_; rintro e w2 ⟨rfl, hb2⟩; have hB2 := hb1.trans (hb2.mono hb1.size)))
    all_goals go_ret
    all_goals exact ⟨rfl, hB2⟩
  have hg2 : mxF rs * (rs.length : Int) ≤ 600 := by omega
  have HG2 := Lib.hid hg2
  clear g2 hmb
  generalize mxF rs * (rs.length : Int) = Y at HY hyb hg2
  have HS := Lib.hid (fun W h => Spaced_any rs (.slice A rs.length c) W (by omega) h)
  cases g4 : spacedF rs
  · rw [g4] at HS
    clear g4
    go_enter Tryz.func7, Tryz.ntmps7
    go_wp2_with (first
      | (go_at_call 9; refine (HAw.out _ HM.out).mono ?_; rintro e w1 ⟨rfl, hb1⟩)
      | (go_at_call 15; refine (HY.out _ (HR.out.on hb1)).mono ?_; rintro e w2 ⟨rfl, hb2⟩; have hB2 := hb1.trans (hb2.mono hb1.size))
      | (go_at_call 16; refine (HS.out _ (HR.out.on hB2)).mono ?_; rintro e w3 ⟨rfl, hb3⟩; have hB3 := hB2.trans (hb3.mono hB2.size)))
    all_goals go_ret
    all_goals first
      | exact ⟨ret1 (vbool (by simp)), hB3⟩
      | exact ⟨ret1 (vbool (by simp)), hB2⟩
  rw [g4] at HS
  by_cases g30 : 30 < wrap64 (b - a)
  · go_enter Tryz.func7, Tryz.ntmps7
    go_wp2_with (first
      | (go_at_call 9; refine (HAw.out _ HM.out).mono ?_; rintro e w1 ⟨rfl, hb1⟩)
      | (go_at_call 15; refine (HY.out _ (HR.out.on hb1)).mono ?_; rintro e w2 ⟨rfl, hb2⟩; have hB2 := hb1.trans (hb2.mono hb1.size)))
    all_goals go_ret
    all_goals exact ⟨ret1 (vbool (by simp)), hB2⟩
  by_cases g31 : a < 1
  · go_enter Tryz.func7, Tryz.ntmps7
    go_wp2_with (first
      | (go_at_call 9; refine (HAw.out _ HM.out).mono ?_; rintro e w1 ⟨rfl, hb1⟩)
      | (go_at_call 15; refine (HY.out _ (HR.out.on hb1)).mono ?_; rintro e w2 ⟨rfl, hb2⟩; have hB2 := hb1.trans (hb2.mono hb1.size)))
    all_goals go_ret
    all_goals exact ⟨ret1 (vbool (by simp)), hB2⟩
  by_cases g32 : 9999 < b
  · go_enter Tryz.func7, Tryz.ntmps7
    go_wp2_with (first
      | (go_at_call 9; refine (HAw.out _ HM.out).mono ?_; rintro e w1 ⟨rfl, hb1⟩)
      | (go_at_call 15; refine (HY.out _ (HR.out.on hb1)).mono ?_; rintro e w2 ⟨rfl, hb2⟩; have hB2 := hb1.trans (hb2.mono hb1.size)))
    all_goals go_ret
    all_goals exact ⟨ret1 (vbool (by simp)), hB2⟩
  have hg := spaced_all HG2.out g4
  have hv := hg.1
  have HF := Lib.hid hg.2
  have hrev : spacedF rs.reverse = true := spaced_rev HG2.out g4
  have hd : a ≤ b → b - a ≤ 30 := fun h => by unfold wrap64 at g30; omega
  have hn : (b - a + 1).toNat ≤ 31 := by omega
  have hmul : rs.length * (b - a + 1).toNat ≤ 1000 := Nat.le_trans (Nat.mul_le_mul (show rs.length ≤ 6 by omega) hn) (by decide)
  clear hg
  have HRg := Lib.hid (fun W h => Range_any rs a b (.slice A rs.length c) W (by omega) h (fun _ _ => hmul))
  have HSr := Lib.hid (fun v W h => Spaced_any rs.reverse v W (by rw [List.length_reverse]; omega) h)
  rw [hrev] at HSr
  have HCl := Lib.hid (fun W h => Clone_any rs A c W (by omega) h)
  have HRv := Lib.hid (fun A c B W hB h => Reverse_any rs A c B W (by omega) hB h)
  clear hn hrev
  obtain ⟨⟨X, E⟩, hP⟩ : ∃ P, rangeF rs a b = P := ⟨_, rfl⟩
  have HX : Hid (E ≠ 0 ∨ (E = 0 ∧ X = srt (evY rs a (b - a + 1).toNat))) := by
    unfold rangeF at hP
    rw [if_neg (by simp [hv])] at hP
    split at hP
    · cases hP; exact .inl (by decide)
    · cases hP; exact .inr ⟨rfl, rfl⟩
  have HGap : Hid (E = 0 → ∀ j, j + 1 < X.length → (604800 ≤ (X[j + 1]!).1 - (X[j]!).1 ∧ -300000000000 ≤ (X[j]!).1 ∧ (X[j]!).1 ≤ 300000000000 ∧ -300000000000 ≤ (X[j + 1]!).1 ∧ (X[j + 1]!).1 ≤ 300000000000)) := by
    intro hE j hj
    rcases HX.out with h | ⟨_, rfl⟩
    · exact absurd hE h
    · have h1 := srt_bd rs a (b - a + 1).toNat j (by omega)
      have h2 := srt_bd rs a (b - a + 1).toNat (j + 1) hj
      exact ⟨srt_gap HF.out a (b - a + 1).toNat j hj, h1.1, h1.2, h2.1, h2.2⟩
  have HXl : Hid (E = 0 → X.length ≤ 1000) := by
    intro hE
    rcases HX.out with h | ⟨_, rfl⟩
    · exact absurd hE h
    · have h1 := evY_len rs a (b - a + 1).toNat
      unfold srt
      rw [List.length_mergeSort]
      rw [Nat.mul_comm] at h1
      omega
  have HRg2 : Hid (∀ W, Rd Rule.cells 11 W (.slice A rs.length c) rs → Calls Tryz.prog 23 #[.slice A rs.length c, .int .i64 a, .int .i64 b] W fun e w' => ∃ v, e = .returned (.tuple #[v, .int .i64 E]) ∧ Rd encE 2 w' v X ∧ Below W.heap.size W w') := by
    intro W hW
    have h1 := HRg.out W hW
    unfold RangeOut at h1
    rw [hP] at h1
    exact h1
  clear HRg hP HX HF hmul
  have z1 : decide (6 < (rs.length : Int)) = false := decide_eq_false (by omega)
  have z2 : decide (600 < Y) = false := decide_eq_false (by omega)
  have z3 : decide (30 < wrap64 (b - a)) = false := decide_eq_false g30
  have z4 : decide (a < 1) = false := decide_eq_false g31
  have z5 : decide (9999 < b) = false := decide_eq_false g32
  cases rs with
  | nil =>
    have z1 : decide (6 < (0 : Int)) = false := decide_eq_false (by omega)
    by_cases hE : E = 0
    · subst hE
      have HG := Lib.hid (HGap.out rfl)
      have hxl := HXl.out rfl
      clear HGap HXl
      go_enter Tryz.func7, Tryz.ntmps7
      go_wp2_with (first
        | (go_at_call 9; refine (HAw.out _ HM.out).mono ?_; rintro e w1 ⟨rfl, hb1⟩)
        | (go_at_call 15; refine (HY.out _ (HR.out.on hb1)).mono ?_; rintro e w2 ⟨rfl, hb2⟩; have hB2 := hb1.trans (hb2.mono hb1.size))
        | (go_at_call 16; refine (HS.out _ (HR.out.on hB2)).mono ?_; rintro e w3 ⟨rfl, hb3⟩; have hB3 := hB2.trans (hb3.mono hB2.size); clear HS)
        | (go_at_call 25; refine (HCl.out _ (HR.out.on hB3)).mono ?_; rintro e w4 ⟨A4, c4, rfl, hC, hb4⟩)
        | (go_at_call 26; refine (HRv.out _ _ w3.heap.size _ hb4.size hC).mono ?_; rintro e w5 ⟨rfl, hR5, hb5⟩; have hB5 := hB3.trans ((hb5 _ hb4).mono hB3.size))
        | (go_at_call 16; refine (HSr.out _ _ hR5).mono ?_; rintro e w6 ⟨rfl, hb6⟩; have hB6 := hB5.trans (hb6.mono hB5.size); clear HSr)
        | (go_at_call 23; refine (HRg2.out _ (HR.out.on hB6)).mono ?_; rintro e w8 ⟨v8, rfl, hRx, hb8⟩; have hB8 := Below.trans hB6 (hb8.mono hB6.size); obtain ⟨A8, c8, rfl⟩ := rd_shape hRx))
      all_goals (
        rcases hRx with ⟨rfl, _⟩ | ⟨g8, o8, c8', hv8, hg8, hc8⟩
        · refine wp_loop_rounds 1 ?_
          rw [rounds_succ]
          go_wp2
          go_ret
          exact ⟨rfl, hB8⟩
        · cases hv8
          have HC8 := Lib.hid hc8
          clear hc8
          go_loopw [10] (fun i wr => ∃ k : Nat, 1 ≤ k ∧ i = .int .i64 k ∧ Below w8.heap.size w8 wr) (fun i _ => X.length - (intOf i).toNat)
          case atStart => exact ⟨1, by omega, rfl, Below.refl _ _⟩
          case round =>
            obtain ⟨k, hk, rfl, hbw⟩ := hrel
            by_cases hlt : k < X.length
            · obtain ⟨k, rfl⟩ : ∃ q, k = q + 1 := ⟨k - 1, by omega⟩
              have hgap := HG.out k hlt
              have c0 : wr.cell? ⟨g8, o8 + (k + 1) * 2, none⟩ = some (.int .i64 (X[k + 1]!).1) := (hbw.cell (p := ⟨g8, o8 + (k + 1) * 2, none⟩) hg8).trans (HC8.out (k + 1) hlt 0 _ rfl)
              have d0 : wr.cell? ⟨g8, o8 + k * 2, none⟩ = some (.int .i64 (X[k]!).1) := (hbw.cell (p := ⟨g8, o8 + k * 2, none⟩) hg8).trans (HC8.out k (by omega) 0 _ rfl)
              generalize (X[k + 1]!).1 = T1 at *
              generalize (X[k]!).1 = T0 at *
              have hw1 : IntKind.i64.wrap (k : Int) = (k : Int) := by rw [IntKind.wrap_i64]; omega
              have hw2 : (0 : Int) ≤ (k : Int) := by omega
              have hw3 : (k : Int) < (X.length : Int) := by omega
              have hw4 : IntKind.i64.wrap (T1 - T0) = T1 - T0 := by rw [IntKind.wrap_i64]; omega
              have z7 : decide (T1 - T0 < 604800) = false := decide_eq_false (by omega)
              go_wp2_with fail
              go_quiet (fail)
              have hbn := below_drewN hbw nq
              clear hbw c0 d0
              generalize wr.drewN nq = wq at hbn ⊢
              go_wp2
              go_roundw
              case rel => exact ⟨k + 1 + 1, by omega, by go_num, hbn⟩
              case measure => simp [intOf]; omega
            · go_wp2
              go_ret
              exact ⟨rfl, hB8.trans (hbw.mono hB8.size)⟩)
    · have hE' : (E == 0) = false := by simpa using hE
      clear hE
      go_enter Tryz.func7, Tryz.ntmps7
      go_wp2_with (first
        | (go_at_call 9; refine (HAw.out _ HM.out).mono ?_; rintro e w1 ⟨rfl, hb1⟩)
        | (go_at_call 15; refine (HY.out _ (HR.out.on hb1)).mono ?_; rintro e w2 ⟨rfl, hb2⟩; have hB2 := hb1.trans (hb2.mono hb1.size))
        | (go_at_call 16; refine (HS.out _ (HR.out.on hB2)).mono ?_; rintro e w3 ⟨rfl, hb3⟩; have hB3 := hB2.trans (hb3.mono hB2.size); clear HS)
        | (go_at_call 25; refine (HCl.out _ (HR.out.on hB3)).mono ?_; rintro e w4 ⟨A4, c4, rfl, hC, hb4⟩)
        | (go_at_call 26; refine (HRv.out _ _ w3.heap.size _ hb4.size hC).mono ?_; rintro e w5 ⟨rfl, hR5, hb5⟩; have hB5 := hB3.trans ((hb5 _ hb4).mono hB3.size))
        | (go_at_call 16; refine (HSr.out _ _ hR5).mono ?_; rintro e w6 ⟨rfl, hb6⟩; have hB6 := hB5.trans (hb6.mono hB5.size); clear HSr)
        | (go_at_call 23; refine (HRg2.out _ (HR.out.on hB6)).mono ?_; rintro e w8 ⟨v8, rfl, hRx, hb8⟩; have hB8 := Below.trans hB6 (hb8.mono hB6.size); obtain ⟨A8, c8, rfl⟩ := rd_shape hRx))
      all_goals go_ret
      all_goals exact ⟨rfl, hB8⟩
  | cons r rs =>
    have htl : spacedF rs = true := spaced_tail HG2.out g4
    have HSt := Lib.hid (fun v W h => Spaced_any rs v W (by simp at g1; omega) h)
    rw [htl] at HSt
    obtain ⟨g, off, hA, hg, hcr⟩ : ∃ g off, A = some ⟨g, off, none⟩ ∧ g < w.heap.size ∧ ∀ j, j < (r :: rs).length → ∀ i u, (Rule.cells (r :: rs)[j]!)[i]? = some u → w.cell? ⟨g, off + j * 11 + i, none⟩ = some u := by
      rcases HR.out with ⟨h0, _⟩ | ⟨g, off, c', hv', hg, hc⟩
      · cases h0
      · cases hv'; exact ⟨g, off, rfl, hg, hc⟩
    subst hA
    have HCr := Lib.hid hcr
    clear hcr htl
    rw [List.length_cons] at *
    have z6 : decide (0 < ((rs.length + 1 : Nat) : Int)) = true := decide_eq_true (by omega)
    by_cases hE : E = 0
    · subst hE
      have HG := Lib.hid (HGap.out rfl)
      have hxl := HXl.out rfl
      clear HGap HXl
      go_enter Tryz.func7, Tryz.ntmps7
      go_wp2_with (first
        | (go_at_call 9; refine (HAw.out _ HM.out).mono ?_; rintro e w1 ⟨rfl, hb1⟩)
        | (go_at_call 15; refine (HY.out _ (HR.out.on hb1)).mono ?_; rintro e w2 ⟨rfl, hb2⟩; have hB2 := hb1.trans (hb2.mono hb1.size))
        | (go_at_call 16; refine (HS.out _ (HR.out.on hB2)).mono ?_; rintro e w3 ⟨rfl, hb3⟩; have hB3 := hB2.trans (hb3.mono hB2.size); clear HS)
        | (go_at_call 25; refine (HCl.out _ (HR.out.on hB3)).mono ?_; rintro e w4 ⟨A4, c4, rfl, hC, hb4⟩)
        | (go_at_call 26; refine (HRv.out _ _ w3.heap.size _ hb4.size hC).mono ?_; rintro e w5 ⟨rfl, hR5, hb5⟩; have hB5 := hB3.trans ((hb5 _ hb4).mono hB3.size))
        | (go_at_call 16; refine (HSr.out _ _ hR5).mono ?_; rintro e w6 ⟨rfl, hb6⟩; have hB6 := hB5.trans (hb6.mono hB5.size); clear HSr)
        | (go_at_call 16; refine (HSt.out _ _ (rd_tl (r := r) hcap (by have := hB6.size; omega) (fun j hj i u hu => (hB6.cell (p := ⟨g, off + j * 11 + i, none⟩) hg).trans (HCr.out j hj i u hu)))).mono ?_; rintro e w7 ⟨rfl, hb7⟩; have hB7 := hB6.trans (hb7.mono hB6.size))
        | (go_at_call 23; refine (HRg2.out _ (HR.out.on hB7)).mono ?_; rintro e w8 ⟨v8, rfl, hRx, hb8⟩; have hB8 := Below.trans hB7 (hb8.mono hB7.size); obtain ⟨A8, c8, rfl⟩ := rd_shape hRx))
      all_goals (
        rcases hRx with ⟨rfl, _⟩ | ⟨g8, o8, c8', hv8, hg8, hc8⟩
        · refine wp_loop_rounds 1 ?_
          rw [rounds_succ]
          go_wp2
          go_ret
          exact ⟨rfl, hB8⟩
        · cases hv8
          have HC8 := Lib.hid hc8
          clear hc8
          go_loopw [10] (fun i wr => ∃ k : Nat, 1 ≤ k ∧ i = .int .i64 k ∧ Below w8.heap.size w8 wr) (fun i _ => X.length - (intOf i).toNat)
          case atStart => exact ⟨1, by omega, rfl, Below.refl _ _⟩
          case round =>
            obtain ⟨k, hk, rfl, hbw⟩ := hrel
            by_cases hlt : k < X.length
            · obtain ⟨k, rfl⟩ : ∃ q, k = q + 1 := ⟨k - 1, by omega⟩
              have hgap := HG.out k hlt
              have c0 : wr.cell? ⟨g8, o8 + (k + 1) * 2, none⟩ = some (.int .i64 (X[k + 1]!).1) := (hbw.cell (p := ⟨g8, o8 + (k + 1) * 2, none⟩) hg8).trans (HC8.out (k + 1) hlt 0 _ rfl)
              have d0 : wr.cell? ⟨g8, o8 + k * 2, none⟩ = some (.int .i64 (X[k]!).1) := (hbw.cell (p := ⟨g8, o8 + k * 2, none⟩) hg8).trans (HC8.out k (by omega) 0 _ rfl)
              generalize (X[k + 1]!).1 = T1 at *
              generalize (X[k]!).1 = T0 at *
              have hw1 : IntKind.i64.wrap (k : Int) = (k : Int) := by rw [IntKind.wrap_i64]; omega
              have hw2 : (0 : Int) ≤ (k : Int) := by omega
              have hw3 : (k : Int) < (X.length : Int) := by omega
              have hw4 : IntKind.i64.wrap (T1 - T0) = T1 - T0 := by rw [IntKind.wrap_i64]; omega
              have z7 : decide (T1 - T0 < 604800) = false := decide_eq_false (by omega)
              go_wp2_with fail
              go_quiet (fail)
              have hbn := below_drewN hbw nq
              clear hbw c0 d0
              generalize wr.drewN nq = wq at hbn ⊢
              go_wp2
              go_roundw
              case rel => exact ⟨k + 1 + 1, by omega, by go_num, hbn⟩
              case measure => simp [intOf]; omega
            · go_wp2
              go_ret
              exact ⟨rfl, hB8.trans (hbw.mono hB8.size)⟩)
    · have hE' : (E == 0) = false := by simpa using hE
      clear hE
      go_enter Tryz.func7, Tryz.ntmps7
      go_wp2_with (first
        | (go_at_call 9; refine (HAw.out _ HM.out).mono ?_; rintro e w1 ⟨rfl, hb1⟩)
        | (go_at_call 15; refine (HY.out _ (HR.out.on hb1)).mono ?_; rintro e w2 ⟨rfl, hb2⟩; have hB2 := hb1.trans (hb2.mono hb1.size))
        | (go_at_call 16; refine (HS.out _ (HR.out.on hB2)).mono ?_; rintro e w3 ⟨rfl, hb3⟩; have hB3 := hB2.trans (hb3.mono hB2.size); clear HS)
        | (go_at_call 25; refine (HCl.out _ (HR.out.on hB3)).mono ?_; rintro e w4 ⟨A4, c4, rfl, hC, hb4⟩)
        | (go_at_call 26; refine (HRv.out _ _ w3.heap.size _ hb4.size hC).mono ?_; rintro e w5 ⟨rfl, hR5, hb5⟩; have hB5 := hB3.trans ((hb5 _ hb4).mono hB3.size))
        | (go_at_call 16; refine (HSr.out _ _ hR5).mono ?_; rintro e w6 ⟨rfl, hb6⟩; have hB6 := hB5.trans (hb6.mono hB5.size); clear HSr)
        | (go_at_call 16; refine (HSt.out _ _ (rd_tl (r := r) hcap (by have := hB6.size; omega) (fun j hj i u hu => (hB6.cell (p := ⟨g, off + j * 11 + i, none⟩) hg).trans (HCr.out j hj i u hu)))).mono ?_; rintro e w7 ⟨rfl, hb7⟩; have hB7 := hB6.trans (hb7.mono hB6.size))
        | (go_at_call 23; refine (HRg2.out _ (HR.out.on hB7)).mono ?_; rintro e w8 ⟨v8, rfl, hRx, hb8⟩; have hB8 := Below.trans hB7 (hb8.mono hB7.size); obtain ⟨A8, c8, rfl⟩ := rd_shape hRx))
      all_goals go_ret
      all_goals exact ⟨rfl, hB8⟩

end Go.Proofs.YtjpjmlljgcpbkaaGreat

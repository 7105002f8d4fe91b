/- The reference of layer 20: near, Spaced. -/
import Derived.Test.YtjpjmlljgcpbkaaGreatRefRange
import Derived.Test.YtjpjmlljgcpbkaaGreatRefSpacedP
import Derived.Test.YtjpjmlljgcpbkaaGreatEqE
namespace Go.Proofs.YtjpjmlljgcpbkaaGreat
set_option linter.unusedSimpArgs false
set_option linter.unusedVariables false
open Go.ChangeShapes Go.WideShapes Go.ChangeAt Go.RowKit

theorem near_yes (a b : Int) (w : World) (h1 : a - b < 604800) (h2 : -604800 < a - b) : Calls Tryz.prog 48 #[.int .i64 a, .int .i64 b] w fun e w' => e = .returned (.bool true) ∧ w' = w := by
  go_enter Tryz.func48, Tryz.ntmps48
  have hw : wrap64 (a - b) = a - b := by unfold wrap64; omega
  go_wp2
  go_ret
  exact ⟨rfl, rfl⟩
theorem near_no (a b : Int) (w : World) (h0 : -700000000000 ≤ a - b) (h00 : a - b ≤ 700000000000) (h : nearB a b = false) : Calls Tryz.prog 48 #[.int .i64 a, .int .i64 b] w fun e w' => e = .returned (.bool false) ∧ w' = w := by
  unfold nearB at h
  by_cases h1 : a - b < 604800
  · have h2 : ¬ -604800 < a - b := by simp [h1] at h; omega
    have hw : wrap64 (a - b) = a - b := by unfold wrap64; omega
    clear h
    go_enter Tryz.func48, Tryz.ntmps48
    go_wp2
    go_ret
    exact ⟨rfl, rfl⟩
  · have hd : decide (a - b < 604800) = false := decide_eq_false h1
    have hw : wrap64 (a - b) = a - b := by unfold wrap64; omega
    clear h
    go_enter Tryz.func48, Tryz.ntmps48
    go_wp2
    go_ret
    exact ⟨rfl, rfl⟩

set_option maxRecDepth 100000 in
set_option maxHeartbeats 2000000 in
theorem r20_Spaced_some (rs : List Rule) (b off c : Nat) (w : World) (hb : b < w.heap.size) (hl : rs.length ≤ 1000) (h0 : 0 < rs.length)
    (hc : ∀ j, j < rs.length → ∀ i u, (Rule.cells rs[j]!)[i]? = some u → w.cell? ⟨b, off + j * 11 + i, none⟩ = some u)
    (hv : allV rs = true) (B : Bool) (HVi : Hid (∀ y, Viol rs y → B = false)) (HNo : Hid ((∀ y, loF rs ≤ y → y ≤ hiF rs → ¬ Viol rs y) → B = true)) :
    Calls Tryz.prog 17 #[.slice (some ⟨b, off, none⟩) rs.length c] w fun e w' => e = .returned (.bool B) ∧ Below w.heap.size w w' := by
  have hR : Rd Rule.cells 11 w (.slice (some ⟨b, off, none⟩) rs.length c) rs := .inr ⟨b, off, c, rfl, hb, hc⟩
  have HA := Lib.hid (fun W h => r20_All rs (.slice (some ⟨b, off, none⟩) rs.length c) W (by omega) h)
  rw [hv] at HA
  have HR := Lib.hid hR
  have HC := Lib.hid hc
  have HY := Lib.hid (fun y W h => r20_Year rs y (.slice (some ⟨b, off, none⟩) rs.length c) W (by omega) h)
  have HT := Lib.hid (fun k => lohi_bd (allV_take hv k))
  clear hc hR hv
  go_enter Tryz.func17, Tryz.ntmps17
  go_wp2_with (go_at_call 47; refine (HA.out _ HR.out).mono ?_; rintro e w1 ⟨rfl, hb1⟩)
  go_loopw [3, 4, 5] (fun lo hi i wr => ∃ k : Nat, k ≤ rs.length ∧ i = .int .i64 k ∧ lo = .int .i64 (loF (rs.take k)) ∧ hi = .int .i64 (hiF (rs.take k)) ∧ Below w.heap.size w wr) (fun _ _ i _ => rs.length - (intOf i).toNat)
  case atStart => exact ⟨0, Nat.zero_le _, rfl, rfl, rfl, hb1⟩
  case round =>
    obtain ⟨k, hk, rfl, rfl, rfl, hbw⟩ := hrel
    by_cases hlt : k < rs.length
    · have hcell : ∀ i u, (Rule.cells rs[k]!)[i]? = some u → wr.cell? ⟨b, off + k * 11 + i, none⟩ = some u := fun i u hu => (hbw.cell (p := ⟨b, off + k * 11 + i, none⟩) hb).trans (HC.out k hlt i u hu)
      have hlo := loF_take hlt
      have hhi := hiF_take hlt
      generalize hrr : rs[k]! = r at *
      have c1 : wr.cell? ⟨b, off + k * 11 + 1, none⟩ = some (.int .i64 r.fr) := hcell 1 _ rfl
      have c2 : wr.cell? ⟨b, off + k * 11 + 2, none⟩ = some (.int .i64 r.to) := hcell 2 _ rfl
      clear hcell hrr
      generalize loF (rs.take k) = L at *
      generalize hiF (rs.take k) = H at *
      by_cases q1 : r.fr < L
      all_goals by_cases q2 : H < r.to
      all_goals
        first | rw [if_pos q1] at hlo | rw [if_neg q1] at hlo
        first | rw [if_pos q2] at hhi | rw [if_neg q2] at hhi
        have HLo := Lib.hid hlo
        have HHi := Lib.hid hhi
        clear hlo hhi
        go_wp2
        go_roundw
        case rel => exact ⟨k + 1, by omega, by go_num, by rw [HLo.out], by rw [HHi.out], hbw⟩
        case measure => simp [intOf]; omega
    · have hk' : k = rs.length := by omega
      subst hk'
      have hbd := HT.out rs.length
      rw [List.take_length] at *
      clear HT HC HA
      generalize hLo : loF rs = L at *
      generalize hHi : hiF rs = H at *
      obtain ⟨bd1, bd2, bd3, bd4⟩ := hbd
      have HLo := Lib.hid hLo
      have HHi := Lib.hid hHi
      clear hLo hHi
      have hB4 := hbw
      clear hbw hb1 hlt hk
      go_wp2_with fail
      go_loopw [6, 7] (fun v6 y wr => ∃ n : Nat, (n : Int) ≤ H + 1 - L + 20000 ∧ y = .int .i64 (L + n) ∧ Hid (Rd encE 2 wr v6 (yearF rs (L + n - 1))) ∧ Hid (∀ j : Nat, j < n → ¬ Viol rs (L + j)) ∧ Below w.heap.size w wr) (fun _ y _ => (30000 - intOf y).toNat)
      case atStart =>
        refine ⟨0, by omega, by go_num, ?_, fun j hj => absurd hj (by omega), hB4⟩
        have h1 := before_none rs
        rw [HLo.out] at h1
        rw [RowKit.Hid, show L + ((0 : Nat) : Int) - 1 = L - 1 by omega, h1]
        exact .inl ⟨rfl, _, _, rfl⟩
      case round =>
        obtain ⟨n, hn, rfl, R6, HN, hbw⟩ := hrel
        by_cases hlt : L + (n : Int) ≤ H
        · have hEl := crowd_len rs (L + n)
          have hPl := crowd_len rs (L + n - 1)
          obtain ⟨E, hE⟩ : ∃ E, yearF rs (L + n) = E := ⟨_, rfl⟩
          obtain ⟨P, hP⟩ : ∃ P, yearF rs (L + n - 1) = P := ⟨_, rfl⟩
          have HEb := Lib.hid (yearF_bd rs (L + n))
          have HPb := Lib.hid (yearF_bd rs (L + n - 1))
          have HYn := Lib.hid (fun W h => HY.out (L + n) W h)
          have HOK := Lib.hid (fun h1 h2 => viol_split hE hP h1 h2)
          have HV1 := Lib.hid (fun (p k : Nat) h1 h2 h3 => HVi.out (L + n) (viol_one hE (i := p) (k := k) h1 h2 h3))
          have HV2 := Lib.hid (fun (p k : Nat) h1 h2 h3 => HVi.out (L + n) (viol_two hE hP (i := p) (k := k) h1 h2 h3))
          rw [hE] at hEl HEb HYn
          rw [hP] at hPl HPb R6
          have HE := Lib.hid hE
          clear hE hP
          obtain ⟨A6, c6, hv6⟩ := rd_len R6.out
          subst hv6
          go_wp2_with (go_at_call 22; refine (HYn.out _ (HR.out.on hbw)).mono ?_; rintro e w2 ⟨v8, rfl, hi8, hb2⟩; have R8 := Lib.hid hi8.rd; clear hi8; obtain ⟨A8, c8, rfl⟩ := rd_len R8.out)
          have hB2 := hbw.trans (hb2.mono hbw.size)
          have R62 := Lib.hid (R6.out.on hb2)
          clear R6 hb2 hbw
          go_loopw [9] (fun i wr => ∃ p : Nat, p ≤ E.length ∧ i = .int .i64 p ∧ Hid (NoA E p) ∧ Hid (NoB E P p) ∧ Below w2.heap.size w2 wr) (fun i _ => E.length - (intOf i).toNat)
          case atStart => exact ⟨0, Nat.zero_le _, rfl, fun p k hp => absurd hp (by omega), fun p k hp => absurd hp (by omega), Below.refl _ _⟩
          case round =>
            obtain ⟨p, hp, rfl, NA, NB, hbp⟩ := hrel
            by_cases hpl : p < E.length
            · obtain ⟨g8, o8, hA8, hg8, hc8⟩ : ∃ g off, A8 = some ⟨g, off, none⟩ ∧ g < w2.heap.size ∧ ∀ j, j < E.length → ∀ i u, (encE E[j]!)[i]? = some u → w2.cell? ⟨g, off + j * 2 + i, none⟩ = some u := by
                rcases R8.out with ⟨h0, _⟩ | ⟨g, off, c', hv', hg, hc⟩
                · rw [h0] at hpl; simp at hpl
                · cases hv'; exact ⟨g, off, rfl, hg, hc⟩
              subst hA8
              have HC8 := Lib.hid hc8
              clear hc8
              have be := HEb.out.at hpl
              have HX := Lib.hid (HC8.out p hpl 0 _ rfl)
              have HVp := Lib.hid (fun k h1 h2 h3 => HV1.out p k h1 h2 h3)
              have HWp := Lib.hid (fun k h2 h3 => HV2.out p k hpl h2 h3)
              have NA' := Lib.hid (fun q h2 hq => NoA.succ (q := q) NA.out h2 hq)
              have NB' := Lib.hid (fun q h2 hq => NoB.succ (q := q) NB.out h2 hq)
              generalize (E[p]!).1 = X at *
              go_wp2_with fail
              go_loopw [10] (fun i wr => ∃ q : Nat, p + 1 ≤ q ∧ q ≤ E.length + 1 ∧ i = .int .i64 q ∧ Hid (∀ k, p < k → k < q → nearB X (E[k]!).1 = false) ∧ Below w2.heap.size w2 wr) (fun i _ => E.length + 1 - (intOf i).toNat)
              case atStart => exact ⟨p + 1, Nat.le_refl _, by omega, by go_num, fun k h1 h2 => absurd h2 (by omega), hbp⟩
              case round =>
                obtain ⟨q, hq1, hq2, rfl, HQ, hbq⟩ := hrel
                by_cases hql : q < E.length
                · have bq := HEb.out.at hql
                  have cp : wr.cell? ⟨g8, o8 + p * 2, none⟩ = some (.int .i64 X) := (hbq.cell (p := ⟨g8, o8 + p * 2, none⟩) hg8).trans HX.out
                  have cq : wr.cell? ⟨g8, o8 + q * 2, none⟩ = some (.int .i64 (E[q]!).1) := (hbq.cell (p := ⟨g8, o8 + q * 2, none⟩) hg8).trans (HC8.out q hql 0 _ rfl)
                  have HVq := Lib.hid (fun h => HVp.out q (by omega) hql h)
                  have HQ' := Lib.hid (fun h => all_succ (Q := fun k => nearB X (E[k]!).1 = false) HQ.out h)
                  have i1 : (0 : Int) ≤ (p : Int) := by omega
                  have i2 : (p : Int) < (E.length : Int) := by omega
                  have i3 : (0 : Int) ≤ (q : Int) := by omega
                  have i4 : (q : Int) < (E.length : Int) := by omega
                  generalize (E[q]!).1 = Y at *
                  cases hn : nearB X Y
                  · have HQ2 := Lib.hid (HQ'.out hn)
                    have hno := fun W => near_no X Y W (by omega) (by omega) hn
                    have HNO := Lib.hid hno
                    clear hn hno
                    go_wp2_with fail
                    go_quiet ((go_at_call 48; exact Calls.quiet_of_same (HNO.out _)))
                    have hbn := below_drewN hbq nq
                    clear hbq cp cq
                    generalize wr.drewN nq = wq at hbn ⊢
                    go_wp2
                    go_roundw
                    case rel => exact ⟨q + 1, by omega, by omega, by go_num, HQ2.out, hbn⟩
                    case measure => simp [intOf]; omega
                  · have HB := Lib.hid (HVq.out hn)
                    have hno := fun W => near_yes X Y W (by unfold nearB at hn; simp at hn; omega) (by unfold nearB at hn; simp at hn; omega)
                    have HNO := Lib.hid hno
                    clear hn hno
                    go_wp2_with fail
                    go_quiet ((go_at_call 48; exact Calls.quiet_of_same (HNO.out _)))
                    have hbn := below_drewN hbq nq
                    clear hbq cp cq
                    generalize wr.drewN nq = wq at hbn ⊢
                    go_wp2
                    go_ret
                    exact ⟨by rw [HB.out]; rfl, hB2.trans (hbn.mono hB2.size)⟩
                · have NA2 := Lib.hid (NA'.out q HQ.out hql)
                  clear NA'
                  go_wp2_with fail
                  go_loopw [11] (fun i wr => ∃ q : Nat, q ≤ P.length ∧ i = .int .i64 q ∧ Hid (∀ k, k < q → 604800 ≤ X - (P[k]!).1) ∧ Below w2.heap.size w2 wr) (fun i _ => P.length - (intOf i).toNat)
                  case atStart => exact ⟨0, Nat.zero_le _, rfl, fun k h2 => absurd h2 (by omega), hbq⟩
                  case round =>
                    obtain ⟨m, hm, rfl, HM, hbm⟩ := hrel
                    by_cases hml : m < P.length
                    · obtain ⟨g6, o6, hA6, hg6, hc6⟩ : ∃ g off, A6 = some ⟨g, off, none⟩ ∧ g < w2.heap.size ∧ ∀ j, j < P.length → ∀ i u, (encE P[j]!)[i]? = some u → w2.cell? ⟨g, off + j * 2 + i, none⟩ = some u := by
                        rcases R62.out with ⟨h0, _⟩ | ⟨g, off, c', hv', hg, hc⟩
                        · rw [h0] at hml; simp at hml
                        · cases hv'; exact ⟨g, off, rfl, hg, hc⟩
                      subst hA6
                      have bm := HPb.out.at hml
                      have cp : wr.cell? ⟨g8, o8 + p * 2, none⟩ = some (.int .i64 X) := (hbm.cell (p := ⟨g8, o8 + p * 2, none⟩) hg8).trans HX.out
                      have cm : wr.cell? ⟨g6, o6 + m * 2, none⟩ = some (.int .i64 (P[m]!).1) := (hbm.cell (p := ⟨g6, o6 + m * 2, none⟩) hg6).trans (hc6 m hml 0 _ rfl)
                      have HWm := Lib.hid (fun h => HWp.out m hml h)
                      have HM' := Lib.hid (fun h => all_succ0 (Q := fun k => 604800 ≤ X - (P[k]!).1) HM.out h)
                      have i1 : (0 : Int) ≤ (p : Int) := by omega
                      have i2 : (p : Int) < (E.length : Int) := by omega
                      have i3 : (0 : Int) ≤ (m : Int) := by omega
                      have i4 : (m : Int) < (P.length : Int) := by omega
                      clear hc6
                      generalize (P[m]!).1 = Y at *
                      have hw4 : IntKind.i64.wrap (X - Y) = X - Y := by rw [IntKind.wrap_i64]; omega
                      by_cases hd : X - Y < 604800
                      · have HB := Lib.hid (HWm.out hd)
                        have z7 : decide (X - Y < 604800) = true := decide_eq_true hd
                        go_wp2_with fail
                        go_quiet (fail)
                        have hbn := below_drewN hbm nq
                        clear hbm cp cm
                        generalize wr.drewN nq = wq at hbn ⊢
                        go_wp2
                        go_ret
                        exact ⟨by rw [HB.out]; rfl, hB2.trans (hbn.mono hB2.size)⟩
                      · have HM2 := Lib.hid (HM'.out (by omega))
                        have z7 : decide (X - Y < 604800) = false := decide_eq_false hd
                        go_wp2_with fail
                        go_quiet (fail)
                        have hbn := below_drewN hbm nq
                        clear hbm cp cm
                        generalize wr.drewN nq = wq at hbn ⊢
                        go_wp2
                        go_roundw
                        case rel => exact ⟨m + 1, by omega, by go_num, HM2.out, hbn⟩
                        case measure => simp [intOf]; omega
                    · have NB2 := Lib.hid (NB'.out m HM.out hml)
                      clear NB'
                      go_wp2
                      go_roundw
                      case rel => exact ⟨p + 1, by omega, by go_num, NA2.out, NB2.out, hbm⟩
                      case measure => simp [intOf]; omega
            · have hpe : p = E.length := by omega
              subst hpe
              have HNn := Lib.hid (all_succ0 (Q := fun j => ¬ Viol rs (L + (j : Int))) HN.out (HOK.out NA.out NB.out))
              have RE := Lib.hid (R8.out.on hbp)
              go_wp2
              go_roundw
              case rel => exact ⟨n + 1, by omega, by go_num, by rw [RowKit.Hid, show L + ((n + 1 : Nat) : Int) - 1 = L + (n : Int) by omega, HE.out]; exact RE.out, HNn.out, hB2.trans (hbp.mono hB2.size)⟩
              case measure => simp [intOf]; omega
        · have hlt' : H < L + (n : Int) := by omega
          have HB := Lib.hid (HNo.out fun y h1 h2 => by
            have := HN.out (y - L).toNat (by omega)
            rwa [show L + ((y - L).toNat : Int) = y by omega] at this)
          clear HNo HVi
          go_wp2
          go_ret
          exact ⟨by rw [HB.out]; rfl, hbw⟩

theorem r20_Spaced (rs : List Rule) (v : Value) (w : World) (hl : rs.length ≤ 1000) (h : Rd Rule.cells 11 w v rs) (hg : mxF rs * (rs.length : Int) ≤ 600) :
    Calls Tryz.prog 17 #[v] w fun e w' => e = .returned (.bool (spacedF rs)) ∧ Below w.heap.size w w' := by
  cases hv : allV rs
  · have HA := Lib.hid (r20_All rs v w (by omega) h)
    rw [hv] at HA
    rw [spacedF_no hv]
    clear hg hv
    go_enter Tryz.func17, Tryz.ntmps17
    go_wp2_with (go_at_call 47; refine HA.out.mono ?_; rintro e w1 ⟨rfl, hb1⟩)
    go_ret
    exact ⟨rfl, hb1⟩
  by_cases h0 : rs = []
  · subst h0
    have HA := Lib.hid (r20_All [] v w (by simp) h)
    rw [hv] at HA
    rw [show spacedF [] = true by decide +kernel]
    clear hg hv
    obtain ⟨A, c, rfl⟩ := rd_vform h
    rw [List.length_nil] at *
    go_enter Tryz.func17, Tryz.ntmps17
    go_wp2_with (go_at_call 47; refine HA.out.mono ?_; rintro e w1 ⟨rfl, hb1⟩)
    refine wp_loop_rounds 1 ?_
    rw [rounds_succ]
    go_wp2
    refine wp_loop_rounds 1 ?_
    rw [rounds_succ]
    go_wp2
    go_ret
    exact ⟨rfl, hb1⟩
  · rcases h with ⟨h1, _⟩ | ⟨g, off, c, rfl, hgg, hc⟩
    · exact absurd h1 h0
    · exact r20_Spaced_some rs g off c w hgg hl (List.length_pos_iff.2 h0) hc hv _ (fun y h => spaced_viol hv hg h) (fun h => spaced_free hv hg h)

end Go.Proofs.YtjpjmlljgcpbkaaGreat

/- runs.Union. Printed by gen_comb.py. -/
import Derived.Test.YtdpkolnfbimheaaGreatJCombA
import Derived.IntWalk
namespace Go.Proofs.YtdpkolnfbimheaaGreat
set_option linter.unusedSimpArgs false
set_option linter.unusedVariables false
open Go.ChangeShapes Go.WideShapes Go.ChangeAt Go.RowKit

set_option maxRecDepth 100000 in
set_option maxHeartbeats 16000000 in
theorem combine_Union (a b : List Spn) (va vb : Value) (w : World) (hva : validR a = true) (hvb : validR b = true) (hRa : Rd encN 2 w va a) (hRb : Rd encN 2 w vb b) : Calls Tryz.prog 91 #[va, vb, .func (.func 92) #[] #[]] w (CombEnd (fun u v => u || v) a b w) := by
  obtain ⟨ra, la⟩ := validR_runs hva
  obtain ⟨rb, lb⟩ := validR_runs hvb
  have HVA := Lib.hid (rValid_any va a w hRa)
  have HVB := Lib.hid (fun W (hb : Below w.heap.size w W) => rValid_any vb b W (hRb.on hb))
  rw [hva] at HVA
  rw [hvb] at HVB
  have HEA := Lib.hid (fun i hi W (hb : Below w.heap.size w W) => endC_any a va i W (hRa.on hb) hi la)
  have HEB := Lib.hid (fun i hi W (hb : Below w.heap.size w W) => endC_any b vb i W (hRb.on hb) hi lb)
  have HRA := Lib.hid ra
  have HRB := Lib.hid rb
  obtain ⟨Aa, ca, rfl⟩ := rd_vf hRa
  obtain ⟨Ab, cb, rfl⟩ := rd_vf hRb
  clear hRa hRb hva hvb ra rb
  obtain ⟨i0, hi0, hz0, hz1, hz2⟩ := info_parts info_span
  unfold CombEnd
  go_enter Tryz.func91, Tryz.ntmps91
  go_wp2_with fail
  refine HVA.out.mono ?_
  rintro e w1 ⟨rfl, hb1⟩
  go_wp2_with fail
  refine (HVB.out w1 hb1).mono ?_
  rintro e w2 ⟨rfl, hb2⟩
  have hb2 := hb1.trans (hb2.mono hb1.size)
  clear HVA HVB hb1
  go_wp2
  go_loopw [8, 9, 10, 12, 13] (fun v8 v9 v10 v12 v13 wr => CombRel (fun u v => u || v) a b w v8 v9 v10 v12 v13 wr) (fun _ v9 v10 _ _ _ => 2 * a.length + 2 * b.length - ((intOf v9).toNat + (intOf v10).toNat))
  case atStart => exact ⟨0, 0, false, 0, _, [], rfl, rfl, rfl, rfl, comb_start HRA.out HRB.out rfl, World.ownsRow_nil _ _ _ _, hb2⟩
  case round =>
    obtain ⟨i, k, ins, fr, p, O, rfl, rfl, rfl, rfl, hinv, hown, hbr⟩ := hrel
    have hia := hinv.ba.le
    have hkb := hinv.bb.le
    have hol := hinv.l
    have hszr := hbr.size
    obtain ⟨A8, c8, rfl⟩ := own_formN hown
    have HO := Lib.hid hown
    have HI := Lib.hid hinv
    by_cases hg : i < 2 * a.length ∨ k < 2 * b.length
    · have HAT := Lib.hid (comb_at HRA.out HRB.out hinv hg)
      have HA := Lib.hid (HEA.out i hia)
      have HB := Lib.hid (HEB.out k hkb)
      obtain ⟨t, ht⟩ : ∃ t, min (endF a i) (endF b k) = t := ⟨_, rfl⟩
      rw [ht] at HAT
      have hbi := HRA.out.bd' hia
      have hbk := HRB.out.bd' hkb
      have htx : t = endF a i ∨ t = endF b k := by omega
      clear hown hinv
      have dg : decide ((i : Int) < 2 * (a.length : Int)) = true ∨ (decide ((i : Int) < 2 * (a.length : Int)) = false ∧ decide ((k : Int) < 2 * (b.length : Int)) = true) := by
        by_cases h : i < 2 * a.length
        · exact .inl (decide_eq_true (by omega))
        · exact .inr ⟨decide_eq_false (by omega), decide_eq_true (by omega)⟩
      by_cases ea : endF a i = t
      · by_cases eb : endF b k = t
        · have HNA := Lib.hid (show nxtF a i t = i + 1 from nxt_yes ea)
          have HNB := Lib.hid (show nxtF b k t = k + 1 from nxt_yes eb)
          have hi3 : i < 2 * a.length := by
            rcases Nat.lt_or_eq_of_le hia with h | h
            · exact h
            · have h1 := HAT.out.bd; rw [← ea] at h1; unfold endF at h1; rw [if_pos h] at h1; omega
          have dg : decide ((i : Int) < 2 * (a.length : Int)) = true := decide_eq_true (by omega)
          have da : (endF a i == t) = true := beq_iff_eq.2 ea
          have db : (endF b k == t) = true := beq_iff_eq.2 eb
          obtain ⟨oa, hoa⟩ : ∃ oa, odd (i + 1) = oa := ⟨_, rfl⟩
          obtain ⟨ob, hob⟩ : ∃ ob, odd (k + 1) = ob := ⟨_, rfl⟩
          have pa : ((((i : Int) + 1) % 2) == 1) = oa := by
            have h := odd_eq (i + 1)
            rw [hoa] at h
            first | exact h | (push_cast at h; exact h)
          have pa2 : ((((i : Int) + 1).tmod 2) == 1) = oa := by rw [Int.tmod_eq_emod_of_nonneg (by omega)]; exact pa
          have pb : ((((k : Int) + 1) % 2) == 1) = ob := by
            have h := odd_eq (k + 1)
            rw [hob] at h
            first | exact h | (push_cast at h; exact h)
          have pb2 : ((((k : Int) + 1).tmod 2) == 1) = ob := by rw [Int.tmod_eq_emod_of_nonneg (by omega)]; exact pb
          have HR := Lib.hid (fun W => ruleU oa ob W)
          obtain ⟨nw, hnw⟩ : ∃ nw, (oa || ob) = nw := ⟨_, rfl⟩
          have HRL := Lib.hid (show (fun u v => u || v) (odd (nxtF a i t)) (odd (nxtF b k t)) = nw from by rw [HNA.out, HNB.out, hoa, hob]; exact hnw)
          rw [hnw] at HR
          clear ea eb hoa hob hnw
          cases hin : ins
          · subst hin
            cases hnn : nw
            · subst hnn
              go_wp2_with fail
              refine (HA.out _ hbr).mono ?_
              rintro e w9 ⟨rfl, rfl⟩
              go_wp2_with fail
              refine (HB.out _ hbr).mono ?_
              rintro e w9 ⟨rfl, rfl⟩
              go_wp2_with fail
              refine (HA.out _ hbr).mono ?_
              rintro e w9 ⟨rfl, rfl⟩
              go_wp2_with fail
              refine (HB.out _ hbr).mono ?_
              rintro e w9 ⟨rfl, rfl⟩
              go_wp2_with fail
              refine (HR.out _).mono ?_
              rintro e w9 ⟨rfl, rfl⟩
              go_wp2
              go_roundw
              case rel => exact ⟨_, _, false, fr, t, O, by rw [HNA.out]; first | done | go_num, by rw [HNB.out]; first | done | go_num, rfl, rfl, comb_same HI.out HAT.out HRL.out, HO.out, hbr⟩
              case measure => have h1 := HAT.out.n; rw [HNA.out, HNB.out] at h1; simp [intOf]; omega
            · subst hnn
              go_wp2_with fail
              refine (HA.out _ hbr).mono ?_
              rintro e w9 ⟨rfl, rfl⟩
              go_wp2_with fail
              refine (HB.out _ hbr).mono ?_
              rintro e w9 ⟨rfl, rfl⟩
              go_wp2_with fail
              refine (HA.out _ hbr).mono ?_
              rintro e w9 ⟨rfl, rfl⟩
              go_wp2_with fail
              refine (HB.out _ hbr).mono ?_
              rintro e w9 ⟨rfl, rfl⟩
              go_wp2_with fail
              refine (HR.out _).mono ?_
              rintro e w9 ⟨rfl, rfl⟩
              go_wp2
              go_roundw
              case rel => exact ⟨_, _, true, t, t, O, by rw [HNA.out]; first | done | go_num, by rw [HNB.out]; first | done | go_num, rfl, rfl, comb_open HI.out HAT.out HRL.out, HO.out, hbr⟩
              case measure => have h1 := HAT.out.n; rw [HNA.out, HNB.out] at h1; simp [intOf]; omega
          · subst hin
            cases hnn : nw
            · subst hnn
              go_wp2_with fail
              refine (HA.out _ hbr).mono ?_
              rintro e w9 ⟨rfl, rfl⟩
              go_wp2_with fail
              refine (HB.out _ hbr).mono ?_
              rintro e w9 ⟨rfl, rfl⟩
              go_wp2_with fail
              refine (HA.out _ hbr).mono ?_
              rintro e w9 ⟨rfl, rfl⟩
              go_wp2_with fail
              refine (HB.out _ hbr).mono ?_
              rintro e w9 ⟨rfl, rfl⟩
              go_wp2_with fail
              refine (HR.out _).mono ?_
              rintro e w9 ⟨rfl, rfl⟩
              go_wp2_with (at_builtin; go_loud (refine wpList_append_own _ rfl _ _ 46 rfl w.heap.size 34 i0 _ 2 16 Tryz.underlying46 hi0 hz0 hz1 hz2 rfl (by decide) _ _ _ rfl (HO.out.alloc _) ⟨_, 0, none⟩ 1 1 (encN ⟨fr, t⟩) rfl rfl (new_row_at (by simp) _) (encN_one _) (by simp only [maxLen]; omega) (by omega) (by simp; omega) ?_); intro v' w5 hown5 hg5 _)
              have hB5 : Below w.heap.size w w5 := below_app HO.out (Nat.le_refl _) (hbr.alloc hbr.size _) hg5
              go_roundw
              case rel => exact ⟨_, _, false, t, t, O ++ [⟨fr, t⟩], by rw [HNA.out]; first | done | go_num, by rw [HNB.out]; first | done | go_num, rfl, rfl, comb_close HI.out HAT.out HRL.out, own_snoc (es := O) (x := (⟨fr, t⟩ : Spn)) hown5, hB5⟩
              case measure => have h1 := HAT.out.n; rw [HNA.out, HNB.out] at h1; simp [intOf]; omega
            · subst hnn
              go_wp2_with fail
              refine (HA.out _ hbr).mono ?_
              rintro e w9 ⟨rfl, rfl⟩
              go_wp2_with fail
              refine (HB.out _ hbr).mono ?_
              rintro e w9 ⟨rfl, rfl⟩
              go_wp2_with fail
              refine (HA.out _ hbr).mono ?_
              rintro e w9 ⟨rfl, rfl⟩
              go_wp2_with fail
              refine (HB.out _ hbr).mono ?_
              rintro e w9 ⟨rfl, rfl⟩
              go_wp2_with fail
              refine (HR.out _).mono ?_
              rintro e w9 ⟨rfl, rfl⟩
              go_wp2
              go_roundw
              case rel => exact ⟨_, _, true, fr, t, O, by rw [HNA.out]; first | done | go_num, by rw [HNB.out]; first | done | go_num, rfl, rfl, comb_same HI.out HAT.out HRL.out, HO.out, hbr⟩
              case measure => have h1 := HAT.out.n; rw [HNA.out, HNB.out] at h1; simp [intOf]; omega
        · have HNA := Lib.hid (show nxtF a i t = i + 1 from nxt_yes ea)
          have HNB := Lib.hid (show nxtF b k t = k from nxt_no eb)
          have hi3 : i < 2 * a.length := by
            rcases Nat.lt_or_eq_of_le hia with h | h
            · exact h
            · have h1 := HAT.out.bd; rw [← ea] at h1; unfold endF at h1; rw [if_pos h] at h1; omega
          have dg : decide ((i : Int) < 2 * (a.length : Int)) = true := decide_eq_true (by omega)
          have da : (endF a i == t) = true := beq_iff_eq.2 ea
          have db : (endF b k == t) = false := beq_eq_false_iff_ne.2 eb
          obtain ⟨oa, hoa⟩ : ∃ oa, odd (i + 1) = oa := ⟨_, rfl⟩
          obtain ⟨ob, hob⟩ : ∃ ob, odd (k) = ob := ⟨_, rfl⟩
          have pa : ((((i : Int) + 1) % 2) == 1) = oa := by
            have h := odd_eq (i + 1)
            rw [hoa] at h
            first | exact h | (push_cast at h; exact h)
          have pa2 : ((((i : Int) + 1).tmod 2) == 1) = oa := by rw [Int.tmod_eq_emod_of_nonneg (by omega)]; exact pa
          have pb : ((((k : Int)) % 2) == 1) = ob := by
            have h := odd_eq (k)
            rw [hob] at h
            first | exact h | (push_cast at h; exact h)
          have pb2 : ((((k : Int)).tmod 2) == 1) = ob := by rw [Int.tmod_eq_emod_of_nonneg (by omega)]; exact pb
          have HR := Lib.hid (fun W => ruleU oa ob W)
          obtain ⟨nw, hnw⟩ : ∃ nw, (oa || ob) = nw := ⟨_, rfl⟩
          have HRL := Lib.hid (show (fun u v => u || v) (odd (nxtF a i t)) (odd (nxtF b k t)) = nw from by rw [HNA.out, HNB.out, hoa, hob]; exact hnw)
          rw [hnw] at HR
          clear ea eb hoa hob hnw
          cases hin : ins
          · subst hin
            cases hnn : nw
            · subst hnn
              go_wp2_with fail
              refine (HA.out _ hbr).mono ?_
              rintro e w9 ⟨rfl, rfl⟩
              go_wp2_with fail
              refine (HB.out _ hbr).mono ?_
              rintro e w9 ⟨rfl, rfl⟩
              go_wp2_with fail
              refine (HA.out _ hbr).mono ?_
              rintro e w9 ⟨rfl, rfl⟩
              go_wp2_with fail
              refine (HB.out _ hbr).mono ?_
              rintro e w9 ⟨rfl, rfl⟩
              go_wp2_with fail
              refine (HR.out _).mono ?_
              rintro e w9 ⟨rfl, rfl⟩
              go_wp2
              go_roundw
              case rel => exact ⟨_, _, false, fr, t, O, by rw [HNA.out]; first | done | go_num, by rw [HNB.out]; first | done | go_num, rfl, rfl, comb_same HI.out HAT.out HRL.out, HO.out, hbr⟩
              case measure => have h1 := HAT.out.n; rw [HNA.out, HNB.out] at h1; simp [intOf]; omega
            · subst hnn
              go_wp2_with fail
              refine (HA.out _ hbr).mono ?_
              rintro e w9 ⟨rfl, rfl⟩
              go_wp2_with fail
              refine (HB.out _ hbr).mono ?_
              rintro e w9 ⟨rfl, rfl⟩
              go_wp2_with fail
              refine (HA.out _ hbr).mono ?_
              rintro e w9 ⟨rfl, rfl⟩
              go_wp2_with fail
              refine (HB.out _ hbr).mono ?_
              rintro e w9 ⟨rfl, rfl⟩
              go_wp2_with fail
              refine (HR.out _).mono ?_
              rintro e w9 ⟨rfl, rfl⟩
              go_wp2
              go_roundw
              case rel => exact ⟨_, _, true, t, t, O, by rw [HNA.out]; first | done | go_num, by rw [HNB.out]; first | done | go_num, rfl, rfl, comb_open HI.out HAT.out HRL.out, HO.out, hbr⟩
              case measure => have h1 := HAT.out.n; rw [HNA.out, HNB.out] at h1; simp [intOf]; omega
          · subst hin
            cases hnn : nw
            · subst hnn
              go_wp2_with fail
              refine (HA.out _ hbr).mono ?_
              rintro e w9 ⟨rfl, rfl⟩
              go_wp2_with fail
              refine (HB.out _ hbr).mono ?_
              rintro e w9 ⟨rfl, rfl⟩
              go_wp2_with fail
              refine (HA.out _ hbr).mono ?_
              rintro e w9 ⟨rfl, rfl⟩
              go_wp2_with fail
              refine (HB.out _ hbr).mono ?_
              rintro e w9 ⟨rfl, rfl⟩
              go_wp2_with fail
              refine (HR.out _).mono ?_
              rintro e w9 ⟨rfl, rfl⟩
              go_wp2_with (at_builtin; go_loud (refine wpList_append_own _ rfl _ _ 46 rfl w.heap.size 34 i0 _ 2 16 Tryz.underlying46 hi0 hz0 hz1 hz2 rfl (by decide) _ _ _ rfl (HO.out.alloc _) ⟨_, 0, none⟩ 1 1 (encN ⟨fr, t⟩) rfl rfl (new_row_at (by simp) _) (encN_one _) (by simp only [maxLen]; omega) (by omega) (by simp; omega) ?_); intro v' w5 hown5 hg5 _)
              have hB5 : Below w.heap.size w w5 := below_app HO.out (Nat.le_refl _) (hbr.alloc hbr.size _) hg5
              go_roundw
              case rel => exact ⟨_, _, false, t, t, O ++ [⟨fr, t⟩], by rw [HNA.out]; first | done | go_num, by rw [HNB.out]; first | done | go_num, rfl, rfl, comb_close HI.out HAT.out HRL.out, own_snoc (es := O) (x := (⟨fr, t⟩ : Spn)) hown5, hB5⟩
              case measure => have h1 := HAT.out.n; rw [HNA.out, HNB.out] at h1; simp [intOf]; omega
            · subst hnn
              go_wp2_with fail
              refine (HA.out _ hbr).mono ?_
              rintro e w9 ⟨rfl, rfl⟩
              go_wp2_with fail
              refine (HB.out _ hbr).mono ?_
              rintro e w9 ⟨rfl, rfl⟩
              go_wp2_with fail
              refine (HA.out _ hbr).mono ?_
              rintro e w9 ⟨rfl, rfl⟩
              go_wp2_with fail
              refine (HB.out _ hbr).mono ?_
              rintro e w9 ⟨rfl, rfl⟩
              go_wp2_with fail
              refine (HR.out _).mono ?_
              rintro e w9 ⟨rfl, rfl⟩
              go_wp2
              go_roundw
              case rel => exact ⟨_, _, true, fr, t, O, by rw [HNA.out]; first | done | go_num, by rw [HNB.out]; first | done | go_num, rfl, rfl, comb_same HI.out HAT.out HRL.out, HO.out, hbr⟩
              case measure => have h1 := HAT.out.n; rw [HNA.out, HNB.out] at h1; simp [intOf]; omega
      · by_cases eb : endF b k = t
        · have HNA := Lib.hid (show nxtF a i t = i from nxt_no ea)
          have HNB := Lib.hid (show nxtF b k t = k + 1 from nxt_yes eb)
          have da : (endF a i == t) = false := beq_eq_false_iff_ne.2 ea
          have db : (endF b k == t) = true := beq_iff_eq.2 eb
          obtain ⟨oa, hoa⟩ : ∃ oa, odd (i) = oa := ⟨_, rfl⟩
          obtain ⟨ob, hob⟩ : ∃ ob, odd (k + 1) = ob := ⟨_, rfl⟩
          have pa : ((((i : Int)) % 2) == 1) = oa := by
            have h := odd_eq (i)
            rw [hoa] at h
            first | exact h | (push_cast at h; exact h)
          have pa2 : ((((i : Int)).tmod 2) == 1) = oa := by rw [Int.tmod_eq_emod_of_nonneg (by omega)]; exact pa
          have pb : ((((k : Int) + 1) % 2) == 1) = ob := by
            have h := odd_eq (k + 1)
            rw [hob] at h
            first | exact h | (push_cast at h; exact h)
          have pb2 : ((((k : Int) + 1).tmod 2) == 1) = ob := by rw [Int.tmod_eq_emod_of_nonneg (by omega)]; exact pb
          have HR := Lib.hid (fun W => ruleU oa ob W)
          obtain ⟨nw, hnw⟩ : ∃ nw, (oa || ob) = nw := ⟨_, rfl⟩
          have HRL := Lib.hid (show (fun u v => u || v) (odd (nxtF a i t)) (odd (nxtF b k t)) = nw from by rw [HNA.out, HNB.out, hoa, hob]; exact hnw)
          rw [hnw] at HR
          clear ea eb hoa hob hnw
          rcases dg with dg | ⟨dg, dg2⟩
          all_goals
            cases hin : ins
            · subst hin
              cases hnn : nw
              · subst hnn
                go_wp2_with fail
                refine (HA.out _ hbr).mono ?_
                rintro e w9 ⟨rfl, rfl⟩
                go_wp2_with fail
                refine (HB.out _ hbr).mono ?_
                rintro e w9 ⟨rfl, rfl⟩
                go_wp2_with fail
                refine (HA.out _ hbr).mono ?_
                rintro e w9 ⟨rfl, rfl⟩
                go_wp2_with fail
                refine (HB.out _ hbr).mono ?_
                rintro e w9 ⟨rfl, rfl⟩
                go_wp2_with fail
                refine (HR.out _).mono ?_
                rintro e w9 ⟨rfl, rfl⟩
                go_wp2
                go_roundw
                case rel => exact ⟨_, _, false, fr, t, O, by rw [HNA.out]; first | done | go_num, by rw [HNB.out]; first | done | go_num, rfl, rfl, comb_same HI.out HAT.out HRL.out, HO.out, hbr⟩
                case measure => have h1 := HAT.out.n; rw [HNA.out, HNB.out] at h1; simp [intOf]; omega
              · subst hnn
                go_wp2_with fail
                refine (HA.out _ hbr).mono ?_
                rintro e w9 ⟨rfl, rfl⟩
                go_wp2_with fail
                refine (HB.out _ hbr).mono ?_
                rintro e w9 ⟨rfl, rfl⟩
                go_wp2_with fail
                refine (HA.out _ hbr).mono ?_
                rintro e w9 ⟨rfl, rfl⟩
                go_wp2_with fail
                refine (HB.out _ hbr).mono ?_
                rintro e w9 ⟨rfl, rfl⟩
                go_wp2_with fail
                refine (HR.out _).mono ?_
                rintro e w9 ⟨rfl, rfl⟩
                go_wp2
                go_roundw
                case rel => exact ⟨_, _, true, t, t, O, by rw [HNA.out]; first | done | go_num, by rw [HNB.out]; first | done | go_num, rfl, rfl, comb_open HI.out HAT.out HRL.out, HO.out, hbr⟩
                case measure => have h1 := HAT.out.n; rw [HNA.out, HNB.out] at h1; simp [intOf]; omega
            · subst hin
              cases hnn : nw
              · subst hnn
                go_wp2_with fail
                refine (HA.out _ hbr).mono ?_
                rintro e w9 ⟨rfl, rfl⟩
                go_wp2_with fail
                refine (HB.out _ hbr).mono ?_
                rintro e w9 ⟨rfl, rfl⟩
                go_wp2_with fail
                refine (HA.out _ hbr).mono ?_
                rintro e w9 ⟨rfl, rfl⟩
                go_wp2_with fail
                refine (HB.out _ hbr).mono ?_
                rintro e w9 ⟨rfl, rfl⟩
                go_wp2_with fail
                refine (HR.out _).mono ?_
                rintro e w9 ⟨rfl, rfl⟩
                go_wp2_with (at_builtin; go_loud (refine wpList_append_own _ rfl _ _ 46 rfl w.heap.size 34 i0 _ 2 16 Tryz.underlying46 hi0 hz0 hz1 hz2 rfl (by decide) _ _ _ rfl (HO.out.alloc _) ⟨_, 0, none⟩ 1 1 (encN ⟨fr, t⟩) rfl rfl (new_row_at (by simp) _) (encN_one _) (by simp only [maxLen]; omega) (by omega) (by simp; omega) ?_); intro v' w5 hown5 hg5 _)
                have hB5 : Below w.heap.size w w5 := below_app HO.out (Nat.le_refl _) (hbr.alloc hbr.size _) hg5
                go_roundw
                case rel => exact ⟨_, _, false, t, t, O ++ [⟨fr, t⟩], by rw [HNA.out]; first | done | go_num, by rw [HNB.out]; first | done | go_num, rfl, rfl, comb_close HI.out HAT.out HRL.out, own_snoc (es := O) (x := (⟨fr, t⟩ : Spn)) hown5, hB5⟩
                case measure => have h1 := HAT.out.n; rw [HNA.out, HNB.out] at h1; simp [intOf]; omega
              · subst hnn
                go_wp2_with fail
                refine (HA.out _ hbr).mono ?_
                rintro e w9 ⟨rfl, rfl⟩
                go_wp2_with fail
                refine (HB.out _ hbr).mono ?_
                rintro e w9 ⟨rfl, rfl⟩
                go_wp2_with fail
                refine (HA.out _ hbr).mono ?_
                rintro e w9 ⟨rfl, rfl⟩
                go_wp2_with fail
                refine (HB.out _ hbr).mono ?_
                rintro e w9 ⟨rfl, rfl⟩
                go_wp2_with fail
                refine (HR.out _).mono ?_
                rintro e w9 ⟨rfl, rfl⟩
                go_wp2
                go_roundw
                case rel => exact ⟨_, _, true, fr, t, O, by rw [HNA.out]; first | done | go_num, by rw [HNB.out]; first | done | go_num, rfl, rfl, comb_same HI.out HAT.out HRL.out, HO.out, hbr⟩
                case measure => have h1 := HAT.out.n; rw [HNA.out, HNB.out] at h1; simp [intOf]; omega
        · exact absurd htx (by rintro (h | h); exact ea h.symm; exact eb h.symm)
    · have hi2 : i = 2 * a.length := by omega
      have hk2 : k = 2 * b.length := by omega
      have HOK := Lib.hid (comb_end HRA.out HRB.out rfl hinv hg)
      have d1 : decide ((i : Int) < 2 * (a.length : Int)) = false := decide_eq_false (by omega)
      have d2 : decide ((k : Int) < 2 * (b.length : Int)) = false := decide_eq_false (by omega)
      clear hown hinv hi2 hk2
      by_cases hlim : O.length ≤ 2000
      · go_wp2_with (go_at_call 85; refine (done_any A8 O.length c8 _ hlim).mono ?_; rintro e w9 ⟨rfl, rfl⟩)
        go_ret2
        exact ⟨O, _, HOK.out, hbr, .inl ⟨hlim, rfl, HO.out⟩⟩
      · go_wp2_with (go_at_call 85; refine (done_full A8 O.length c8 _ (by omega)).mono ?_; rintro e w9 ⟨rfl, rfl⟩)
        go_ret2
        exact ⟨O, .slice none 0 0, HOK.out, hbr, .inr ⟨by omega, rfl⟩⟩
theorem Union_runs (a b : List Spn) (va vb : Value) (w : World) (hva : validR a = true) (hvb : validR b = true) (hRa : Rd encN 2 w va a) (hRb : Rd encN 2 w vb b) : Calls Tryz.prog 39 #[va, vb] w (CombEnd (fun u v => u || v) a b w) := by
  have HC := Lib.hid (combine_Union a b va vb w hva hvb hRa hRb)
  unfold CombEnd at HC ⊢
  obtain ⟨Aa, ca, rfl⟩ := rd_vf hRa
  obtain ⟨Ab, cb, rfl⟩ := rd_vf hRb
  clear hva hvb hRa hRb
  go_enter Tryz.func39, Tryz.ntmps39
  go_wp2_with fail
  refine HC.out.mono ?_
  rintro e w1 ⟨out, u, h1, h2, ⟨h3, rfl, h4⟩ | ⟨h3, rfl⟩⟩
  · go_wp2
    go_ret2
    exact ⟨out, u, h1, h2, .inl ⟨h3, rfl, h4⟩⟩
  · go_wp2
    go_ret2
    exact ⟨out, u, h1, h2, .inr ⟨h3, rfl⟩⟩

end Go.Proofs.YtdpkolnfbimheaaGreat

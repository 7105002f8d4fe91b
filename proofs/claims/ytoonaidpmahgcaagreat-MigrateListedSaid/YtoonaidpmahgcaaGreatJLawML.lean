/- The law MigrateListed. Printed by gen_lawml.py. -/
import Derived.Test.YtoonaidpmahgcaaGreatGFew
import Derived.Test.YtoonaidpmahgcaaGreatGAm
namespace Go.Proofs.YtoonaidpmahgcaaGreat
set_option linter.unusedSimpArgs false
set_option linter.unusedVariables false
open Go.ChangeShapes Go.WideShapes Go.ChangeAt Go.RowKit Go.Sort Go.Lib

set_option maxRecDepth 100000 in
set_option maxHeartbeats 4000000 in
theorem law_MigrateListed (L : List VV) (vH : Value) (a b : ByteArray) (E : List Ent) (vE : Value) (w : World) (hg : GoodH w vH L) (hE : Rd encEn 6 w vE E) (hm : HasMax w) :
    Calls Tryz.prog 7 #[.agg #[vH], .string a, .string b, vE] w fun e w' => e = .returned (.bool true) ∧ Below w.heap.size w w' := by
  have HA := Lib.hid (fun W (hb : Below w.heap.size w W) => awake53_any W (hm.on hb))
  have HF := Lib.hid (fun W (hb : Below w.heap.size w W) => few53_any L E vH vE W (hg.on hb) (hE.on hb))
  have HP := Lib.hid (fun (hk : OkH L) (hel : E.length ≤ 1000) W (hb : Below w.heap.size w W) => Report_any L vH a b E vE W (hm.on hb) (hg.on hb) hk (hE.on hb) hel)
  have HS := Lib.hid (fun (hk : OkH L) (v : ByteArray) (s : Stm) W (hb : Below w.heap.size w W) => Resolve_his L vH v s W (hm.on hb) (hg.on hb) hk)
  have HR := Lib.hid hE
  obtain ⟨A, c, rfl⟩ := rd_vf hg.r
  obtain ⟨AE, cE, rfl⟩ := rd_vf hE
  clear hg hE hm
  unfold RepEnd at HP
  have b0 := Blk.new w #[.slice A L.length c] 58
  have hB1 : Below w.heap.size w (w.alloc (.cells #[.slice A L.length c] 58)) := (Below.refl _ _).alloc (Nat.le_refl _) _
  go_enter Tryz.func7, Tryz.ntmps7
  go_wp2_with fail
  generalize w.alloc (.cells #[.slice A L.length c] 58) = W at *
  refine (HA.out W hB1).mono ?_
  rintro e w1 ⟨rfl, hb1⟩
  have hB2 := hB1.trans (hb1.mono hB1.size)
  have b1 := b0.below hb1 b0.lt
  have h0 := blk_cl b1 0 _ rfl
  have hl := b1.lt
  go_wp2_with fail
  refine (HF.out w1 hB2).mono ?_
  rintro e w2 ⟨rfl, hb2⟩
  have hB3 := hB2.trans (hb2.mono hB2.size)
  have b2 := b1.below hb2 b1.lt
  clear h0 hl b0 b1 hb1 hb2 HF
  cases hf : fewB L E
  case false =>
    clear hf
    go_wp2_with (go_at_call 27; refine (HA.out w2 hB3).mono ?_; rintro e w3 ⟨rfl, hb3⟩)
    go_ret
    exact ⟨rfl, hB3.trans (hb3.mono hB3.size)⟩
  obtain ⟨hok, _, hel, _⟩ := few_ok hf
  clear hf
  by_cases ha : (60 : Int) < (a.size : Int)
  · have da := decide_eq_true ha
    go_wp2_with (go_at_call 27; refine (HA.out w2 hB3).mono ?_; rintro e w3 ⟨rfl, hb3⟩)
    go_ret
    exact ⟨rfl, hB3.trans (hb3.mono hB3.size)⟩
  have da := decide_eq_false ha
  clear ha
  by_cases hb : (60 : Int) < (b.size : Int)
  · have db := decide_eq_true hb
    go_wp2_with (go_at_call 27; refine (HA.out w2 hB3).mono ?_; rintro e w3 ⟨rfl, hb3⟩)
    go_ret
    exact ⟨rfl, hB3.trans (hb3.mono hB3.size)⟩
  have db := decide_eq_false hb
  clear hb HA
  have HP := Lib.hid (HP.out hok (by omega))
  have HS := Lib.hid (HS.out hok)
  clear hok
  have h0 := blk_cl b2 0 _ rfl
  have hl := b2.lt
  go_wp2_with fail
  refine (HP.out w2 hB3).mono ?_
  rintro e w3 ⟨hb3, hR⟩
  have hB4 := hB3.trans (hb3.mono hB3.size)
  have b3 := b2.below hb3 b2.lt
  clear h0 hl b2 HP da db hB1 hB2
  generalize givF L E [a, b] = gv at *
  rcases hR with ⟨h0, rfl⟩ | ⟨rfl, u, rfl, hown⟩
  · have d0 : (gv != 0) = true := bne_iff_ne.2 h0
    go_wp2
    go_ret
    exact ⟨rfl, hB4⟩
  have HRM := Lib.hid (rd_of_own encM_len hown rfl)
  have HLEN := Lib.hid (repM_len (mgs L a b E) E.length)
  have HAT := Lib.hid (fun i (h : i < E.length) hk => repM_at (mgs L a b E) (i := i) (n := E.length) h hk)
  have HNOT := Lib.hid (fun i (h : i < E.length) hk hl => repM_not (mgs L a b E) (mgs_en L a b E) (i := i) (n := E.length) h hk hl)
  generalize hR : repM (mgs L a b E) E.length = R at *
  obtain ⟨AM, cM, rfl⟩ := own_formN hown
  have HRE := Lib.hid hR
  clear hown hb3 hR
  have hNl : R.length ≤ 12 := by have := HLEN.out; omega
  go_wp2
  go_loopw [11, 54] (fun v11 v54 wr => ∃ k : Nat, k ≤ E.length ∧ v54 = .int .i64 k ∧ v11 = .int .i64 (repM (mgs L a b E) k).length ∧ Below w3.heap.size w3 wr) (fun _ v54 _ => E.length - (intOf v54).toNat)
  case atStart => exact ⟨0, Nat.zero_le _, rfl, rfl, Below.refl _ _⟩
  case round =>
    obtain ⟨k, hkl, rfl, rfl, hbr⟩ := hrel
    have hbw := hB4.trans (hbr.mono hB4.size)
    by_cases hlt : k < E.length
    · obtain ⟨g, off, hA, hg, hcg⟩ : ∃ g off, AE = some ⟨g, off, none⟩ ∧ g < wr.heap.size ∧ ∀ i u, (encEn E[k]!)[i]? = some u → wr.cell? ⟨g, off + k * 6 + i, none⟩ = some u := by
        rcases HR.out.on hbw with ⟨e, _⟩ | ⟨g, off, c2, hv, hg, hc⟩
        · rw [e] at hlt; simp at hlt
        · injection hv with e1 _ _
          exact ⟨g, off, e1, hg, fun i u hu => hc k hlt i u hu⟩
      subst hA
      have hln : (repM (mgs L a b E) k).length ≤ 12 := Nat.le_trans (repM_len _ k) (by omega)
      have HST := Lib.hid (show repM (mgs L a b E) (k + 1) = if (mgs L a b E k).kd = 0 then repM (mgs L a b E) k else repM (mgs L a b E) k ++ [mgs L a b E k] from rfl)
      have HCX := Lib.hid (HAT.out k hlt)
      have HCN := Lib.hid (HNOT.out k hlt)
      have HSA := Lib.hid (fun W hb => HS.out a (E[k]!).st W hb)
      have HSB := Lib.hid (fun W hb => HS.out b (E[k]!).st W hb)
      have hMG : mgs L a b E k = migOf k (rsvF L a (E[k]!).st) (rsvF L b (E[k]!).st) := rfl
      have hEA := rsv_err L a (E[k]!).st
      have hEB := rsv_err L b (E[k]!).st
      have HKZ := Lib.hid (kind_zero hEA hEB)
      clear hEA hEB
      have HKO := Lib.hid (kind_of (rsvF L a (E[k]!).st) (rsvF L b (E[k]!).st))
      generalize rsvF L a (E[k]!).st = r at *
      generalize rsvF L b (E[k]!).st = s at *
      generalize E[k]! = x at *
      have hmk : (mgs L a b E k).kd = kindF r s := by rw [hMG]; rfl
      generalize mgs L a b E k = m at *
      generalize repM (mgs L a b E) k = Q at *
      obtain ⟨r1, r2⟩ := r
      obtain ⟨s1, s2⟩ := s
      dsimp only at HSA HSB HKZ HKO
      have e0 := hcg 0 _ rfl
      have e1 := hcg 1 _ rfl
      have e2 := hcg 2 _ rfl
      have e3 := hcg 3 _ rfl
      have e4 := hcg 4 _ rfl
      have e5 := hcg 5 _ rfl
      rw [Nat.add_zero] at e0
      have bx := Blk.new wr #[.string x.nm, .int .i64 x.st.at_, .string x.st.zn, .int .i64 x.st.gap, .int .i64 x.st.fold, .int .i64 x.ln] 67
      have bh := (b3.below hbr b3.lt).alloc (.cells #[.string x.nm, .int .i64 x.st.at_, .string x.st.zn, .int .i64 x.st.gap, .int .i64 x.st.fold, .int .i64 x.ln] 67)
      have hbx : Below w3.heap.size w3 (wr.alloc (.cells #[.string x.nm, .int .i64 x.st.at_, .string x.st.zn, .int .i64 x.st.gap, .int .i64 x.st.fold, .int .i64 x.ln] 67)) := hbr.alloc hbr.size _
      have h0 := blk_cl bh 0 _ rfl
      have hl := bh.lt
      have x1 := blk_cl bx 1 _ rfl
      have x2 := blk_cl bx 2 _ rfl
      have x3 := blk_cl bx 3 _ rfl
      have x4 := blk_cl bx 4 _ rfl
      have xl := bx.lt
      unfold encStm at HSA HSB
      clear hcg
      go_wp2_with fail
      generalize hqq : wr.heap.size = q at *
      generalize wr.alloc (.cells #[.string x.nm, .int .i64 x.st.at_, .string x.st.zn, .int .i64 x.st.gap, .int .i64 x.st.fold, .int .i64 x.ln] 67) = wx at *
      clear e0 e1 e2 e3 e4 e5 h0 hl x1 x2 x3 x4 xl
      refine (HSA.out wx (hB4.trans (hbx.mono hB4.size))).mono ?_
      rintro e w5 ⟨rfl, hb5⟩
      have hb35 := hbx.trans (hb5.mono hbx.size)
      have bx5 := bx.below hb5 bx.lt
      have bh5 := bh.below hb5 bh.lt
      have h0 := blk_cl bh5 0 _ rfl
      have hl := bh5.lt
      have x1 := blk_cl bx5 1 _ rfl
      have x2 := blk_cl bx5 2 _ rfl
      have x3 := blk_cl bx5 3 _ rfl
      have x4 := blk_cl bx5 4 _ rfl
      have xl := bx5.lt
      go_wp2_with fail
      clear h0 hl x1 x2 x3 x4 xl bx5 bh5 bx bh HSA
      refine (HSB.out w5 (hB4.trans (hb35.mono hB4.size))).mono ?_
      rintro e w6 ⟨rfl, hb6⟩
      have hb36 := hb35.trans (hb6.mono hb35.size)
      clear HSB hb6 hb5 hb35 hbx hqq
      have hfin : Below w3.heap.size w3 w6 := hb36
      have HRMX := Lib.hid (fun n (h : n < R.length) => show ∃ g off, AM = some ⟨g, off, none⟩ ∧ g < w6.heap.size ∧ ∀ i u, (encM R[n]!)[i]? = some u → w6.cell? ⟨g, off + n * 4 + i, none⟩ = some u from by
        rcases HRM.out.on hb36 with ⟨e, _⟩ | ⟨g, off, c2, hv, hg, hc⟩
        · rw [e] at h; simp at h
        · injection hv with e1 _ _
          exact ⟨g, off, e1, hg, fun i u hu => hc n h i u hu⟩)
      rw [hmk] at HST HCX HCN
      by_cases hkd : kindF (r1, r2) (s1, s2) = 0
      · have HE := Lib.hid (HST.out.trans (if_pos hkd))
        have hz := HKZ.out.1 hkd
        have HCN := Lib.hid (HCN.out hkd)
        clear hkd HKZ HKO HCX HST hmk hMG
        by_cases hn : Q.length < R.length
        · obtain ⟨g2, off2, rfl, hg2, hcm⟩ := HRMX.out _ hn
          have hne := HCN.out hn
          generalize R[Q.length]! = y at *
          have y0 := hcm 0 _ rfl
          have y1 := hcm 1 _ rfl
          have y2 := hcm 2 _ rfl
          have y3 := hcm 3 _ rfl
          rw [Nat.add_zero] at y0
          have dn : (y.en == (k : Int)) = false := by rw [beq_eq_false_iff_ne]; exact hne
          have dl : decide ((Q.length : Int) < (R.length : Int)) = true := decide_eq_true (by omega)
          have i1 : (0 : Int) ≤ (Q.length : Int) := by omega
          have i2 : (Q.length : Int) < (R.length : Int) := by omega
          clear hcm HCN hne hn
          rcases hz with ⟨rfl, rfl, rfl⟩ | ⟨h1, h2⟩
          · skip
            go_wp2
            go_roundw
            case rel => exact ⟨k + 1, by omega, by go_num, by rw [HE.out], hfin⟩
            case measure => simp [intOf]; omega
          · have d1 : (r2 == 0) = false := by rw [beq_eq_false_iff_ne]; exact h1
            have d2 : (s2 == 0) = false := by rw [beq_eq_false_iff_ne]; exact h2
            have d3 : (r2 != 0) = true := bne_iff_ne.2 h1
            have d4 : (s2 != 0) = true := bne_iff_ne.2 h2
            go_wp2
            go_roundw
            case rel => exact ⟨k + 1, by omega, by go_num, by rw [HE.out], hfin⟩
            case measure => simp [intOf]; omega
        · have dl : decide ((Q.length : Int) < (R.length : Int)) = false := decide_eq_false (by omega)
          clear HCN
          rcases hz with ⟨rfl, rfl, rfl⟩ | ⟨h1, h2⟩
          · skip
            go_wp2
            go_roundw
            case rel => exact ⟨k + 1, by omega, by go_num, by rw [HE.out], hfin⟩
            case measure => simp [intOf]; omega
          · have d1 : (r2 == 0) = false := by rw [beq_eq_false_iff_ne]; exact h1
            have d2 : (s2 == 0) = false := by rw [beq_eq_false_iff_ne]; exact h2
            have d3 : (r2 != 0) = true := bne_iff_ne.2 h1
            have d4 : (s2 != 0) = true := bne_iff_ne.2 h2
            go_wp2
            go_roundw
            case rel => exact ⟨k + 1, by omega, by go_num, by rw [HE.out], hfin⟩
            case measure => simp [intOf]; omega
      · have HE := Lib.hid (show (repM (mgs L a b E) (k + 1)).length = Q.length + 1 from by rw [HST.out, if_neg hkd, List.length_append]; rfl)
        obtain ⟨hn, hy⟩ := HCX.out hkd
        obtain ⟨g2, off2, rfl, hg2, hcm⟩ := HRMX.out _ hn
        rw [hy, hMG] at hcm
        clear hy hMG hmk HST HCX HCN HRMX
        have y0 := hcm 0 _ rfl
        have y1 := hcm 1 _ rfl
        have y2 := hcm 2 _ rfl
        have y3 := hcm 3 _ rfl
        rw [Nat.add_zero] at y0
        have dl : decide ((Q.length : Int) < (R.length : Int)) = true := decide_eq_true (by omega)
        have i1 : (0 : Int) ≤ (Q.length : Int) := by omega
        have i2 : (Q.length : Int) < (R.length : Int) := by omega
        clear hcm
        dsimp only [migOf] at y0 y1 y2 y3
        by_cases h1 : r2 = 0
        · subst h1
          by_cases h2 : s2 = 0
          · subst h2
            have h3 : r1 ≠ s1 := fun h => hkd (HKZ.out.2 (.inl ⟨rfl, rfl, h⟩))
            have d3 : (r1 == s1) = false := by rw [beq_eq_false_iff_ne]; exact h3
            rw [HKO.out.1 rfl rfl h3] at y1
            clear hkd HKZ HKO hn h3
            go_wp2
            go_roundw
            case rel => exact ⟨k + 1, by omega, by go_num, by rw [HE.out]; go_num, hfin⟩
            case measure => simp [intOf]; omega
          · have d2 : (s2 == 0) = false := by rw [beq_eq_false_iff_ne]; exact h2
            have d4 : (s2 != 0) = true := bne_iff_ne.2 h2
            rw [HKO.out.2.1 rfl h2] at y1
            clear hkd HKZ HKO hn h2
            go_wp2
            go_roundw
            case rel => exact ⟨k + 1, by omega, by go_num, by rw [HE.out]; go_num, hfin⟩
            case measure => simp [intOf]; omega
        · have h2 : s2 = 0 := by
            by_cases h2 : s2 = 0
            · exact h2
            · exact (hkd (HKZ.out.2 (.inr ⟨h1, h2⟩))).elim
          subst h2
          have d1 : (r2 == 0) = false := by rw [beq_eq_false_iff_ne]; exact h1
          have d3 : (r2 != 0) = true := bne_iff_ne.2 h1
          rw [HKO.out.2.2 h1 rfl] at y1
          clear hkd HKZ HKO hn h1
          go_wp2
          go_roundw
          case rel => exact ⟨k + 1, by omega, by go_num, by rw [HE.out]; go_num, hfin⟩
          case measure => simp [intOf]; omega
    · have hk' : k = E.length := by omega
      subst hk'
      rw [HRE.out]
      go_wp2
      go_ret
      exact ⟨ret1 (vbool (by simp)), hbw⟩

end Go.Proofs.YtoonaidpmahgcaaGreat

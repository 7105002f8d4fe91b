/- runs.Of. -/
import Derived.Test.YtoonaidpmahgcaaGreatJSpW
import Derived.BigQuiet
namespace Go.Proofs.YtoonaidpmahgcaaGreat
set_option linter.unusedSimpArgs false
set_option linter.unusedVariables false
open Go.ChangeShapes Go.WideShapes Go.ChangeAt Go.RowKit Go.Sort Go.Lib

def OfEnd (l : List Spn) (w : World) (e : Ending) (w' : World) : Prop := ∃ out u, Canon out ∧ (∀ x, hasL out x ↔ hasL l x) ∧ (∀ s ∈ out, s.ok = true) ∧ out.length ≤ l.length ∧ e = .returned (.tuple #[u, .int .i64 0]) ∧ w'.ownsRow w.heap.size 29 2 u out.length (out.flatMap encN) ∧ Below w.heap.size w w'
/-- the same, with what comes of too many runs -/
def OfEnd2 (l : List Spn) (w : World) (e : Ending) (w' : World) : Prop := ∃ out, Canon out ∧ (∀ x, hasL out x ↔ hasL l x) ∧ (∀ s ∈ out, s.ok = true) ∧ out.length ≤ l.length ∧ Below w.heap.size w w' ∧
  ((out.length ≤ 2000 ∧ ∃ u, e = .returned (.tuple #[u, .int .i64 0]) ∧ w'.ownsRow w.heap.size 29 2 u out.length (out.flatMap encN)) ∨ (2000 < out.length ∧ e = .returned (.tuple #[.slice none 0 0, .int .i64 5])))
theorem canon_ok {out l : List Spn} (hc : Canon out) (hm : ∀ x, hasL out x ↔ hasL l x) (hl : ∀ s ∈ l, s.ok = true) : ∀ s ∈ out, s.ok = true := fun s hs => by
  have hn := hc.ne s hs
  obtain ⟨a, ha, h1⟩ := (hm s.fr).1 ⟨s, hs, Int.le_refl _, hn⟩
  obtain ⟨b, hb, h2⟩ := (hm (s.to - 1)).1 ⟨s, hs, by omega, by omega⟩
  have ga := Spn.ok_iff.1 (hl a ha)
  have gb := Spn.ok_iff.1 (hl b hb)
  unfold Spn.has at h1 h2
  exact Spn.ok_iff.2 ⟨by omega, by omega, hn⟩
set_option maxRecDepth 100000 in
set_option maxHeartbeats 8000000 in
theorem Of_runs2 (l : List Spn) (v : Value) (w : World) (h0 : 0 < l.length) (hl : l.length ≤ 6000) (hok : ∀ s ∈ l, s.ok = true) (hR : Rd encN 2 w v l) : Calls Tryz.prog 60 #[v] w (OfEnd2 l w) := by
  have HCF := Lib.hid (cfS_no 125 (enters_of Tryz.func125 (by kernel_rfl) rfl) v l w (fun s => s.ok = true) hok ⟨0, 1⟩ (by decide) (fun W s hs => of1_any s W hs) (by omega) hR)
  have HCL := Lib.hid (fun W (hb : Below w.heap.size w W) => clone_S v l W h0 (by omega) (hR.on hb))
  have HOKL := Lib.hid hok
  obtain ⟨A, c, rfl⟩ := rd_vf hR
  clear hR hok
  unfold OfEnd2
  go_enter Tryz.func60, Tryz.ntmps60
  go_wp2_with fail
  refine HCF.out.mono ?_
  rintro e w1 ⟨rfl, hb1⟩
  clear HCF
  go_wp2_with fail
  refine (HCL.out w1 hb1).mono ?_
  rintro e w2 ⟨v', rfl, hv2, hne, hb2⟩
  clear HCL
  have hB2 : RowKit.Below w.heap.size w w2 := hb1.trans (hb2.mono hb1.size)
  have hvB : w2.ownsRow w1.heap.size 29 2 v' (toB l HOKL.out).length ((toB l HOKL.out).flatMap encG) := by rw [toB_len, flatG, toB_val]; exact hv2
  obtain ⟨g, cap, rfl, hg1, hg2, hg3, hg4, hH⟩ := holdsK_of_own encG_len hvB rfl hne
  have HS := Lib.hid (sortO (toB l HOKL.out) g cap _ hH hg2 (by rw [toB_len]; omega))
  unfold SortEnd at HS
  have HVAL := Lib.hid (toB_val l HOKL.out)
  rw [toB_len] at HS ⊢
  go_wp2_with fail
  refine HS.out.mono ?_
  rintro e ws ⟨rfl, L, hL1, hL2, hL3, hR, hbl, hot⟩
  have hBs : RowKit.Below w.heap.size w ws := hbl w.heap.size w hB2 (Nat.le_trans hb1.size hg1) hB2.size
  have hRR := rd_val hR
  have hRl : (L.map BSpn.s).length = l.length := by rw [List.length_map]; exact hL1
  have hRA : (L.map BSpn.s).Pairwise (fun s t => s.fr ≤ t.fr) := by rw [List.pairwise_map]; exact hL3
  have hRm : ∀ s, s ∈ L.map BSpn.s ↔ s ∈ l := fun s => by rw [← HVAL.out]; exact (hL2.map BSpn.s).mem_iff
  have HJD := Lib.hid (joined hRA fun s hs => (Spn.ok_iff.1 (HOKL.out s ((hRm s).1 hs))).2.2)
  have HRM := Lib.hid hRm
  have HRR := Lib.hid hRR
  clear HS hL1 hL2 hL3 hR hbl hot hRR hRA hRm HVAL hH hvB hv2 hg2 hne hg1 hg3 hg4 hb1 hb2 hB2
  generalize L.map BSpn.s = R at *
  have hszn := hBs.size
  obtain ⟨i0, hi0, hz0, hz1, hz2⟩ := info_parts info_span
  go_wp2
  go_loopw [5, 17] (fun v5 i wr => ∃ k : Nat, k ≤ R.length ∧ i = .int .i64 k ∧ wr.ownsRow ws.heap.size 29 2 v5 (joinF (R.take k)).length ((joinF (R.take k)).flatMap encN) ∧ RowKit.Below ws.heap.size ws wr) (fun _ i _ => l.length - (intOf i).toNat)
  case atStart => exact ⟨0, Nat.zero_le _, rfl, World.ownsRow_nil _ _ _ _, Below.refl _ _⟩
  case round =>
    obtain ⟨k, hk, rfl, hown, hbr⟩ := hrel
    have hlo : (joinF (R.take k)).length ≤ k := Nat.le_trans (joinF_len _) (List.length_take_le _ _)
    have hszr := hbr.size
    have hkl0 : k ≤ l.length := by omega
    have HRL := Lib.hid hRl
    by_cases hlt2 : k < l.length
    · have hlt : k < R.length := by omega
      obtain ⟨e0, e1⟩ : wr.cell? ⟨g, k * 2, none⟩ = some (.int .i64 (R[k]!).fr) ∧ wr.cell? ⟨g, k * 2 + 1, none⟩ = some (.int .i64 (R[k]!).to) := by
        obtain ⟨_, hR0 | ⟨g', o', hA, hg', hc⟩⟩ := rd_at (HRR.out.on hbr)
        · rw [hR0] at hlt; exact absurd hlt (Nat.not_lt_zero _)
        · injection hA with hA
          injection hA with h1 h2 _
          subst h1
          subst h2
          have := hc k hlt
          rwa [Nat.zero_add] at this
      have HJ := Lib.hid (show joinF (R.take (k + 1)) = addRun (joinF (R.take k)) R[k]! by rw [List.take_succ_eq_append_getElem hlt, joinF_snoc, getElem!_pos R k hlt])
      obtain ⟨x, hx⟩ : ∃ x, R[k]! = x := ⟨_, rfl⟩
      rw [hx] at e0 e1 HJ
      clear hx hRl
      generalize joinF (R.take k) = O at *
      obtain ⟨A6, c6, rfl⟩ := own_formN hown
      have hBA : RowKit.Below ws.heap.size ws (wr.alloc (.cells #[.int .i64 x.fr, .int .i64 x.to] 29)) := hbr.alloc hbr.size _
      have HOA := Lib.hid (own_on hown (alloc_below' wr (.cells #[.int .i64 x.fr, .int .i64 x.to] 29)))
      have bx := Blk.new wr #[.int .i64 x.fr, .int .i64 x.to] 29
      generalize hWA : wr.alloc (.cells #[.int .i64 x.fr, .int .i64 x.to] 29) = WA at *
      have y0 := bx.cl 0 _ rfl
      have y1 := bx.cl 1 _ rfl
      have hszA := hBA.size
      clear hown
      by_cases h0 : O.length = 0
      · have HADD := Lib.hid (show addRun O x = O ++ [x] by unfold addRun; rw [if_neg (by omega)])
        have dk : ¬ 0 < O.length := by omega
        have dk1 : decide ((0 : Int) < (O.length : Int)) = false := decide_eq_false (by omega)
        clear h0
        go_wp2_with fail
        go_quiet (fail)
        have hd3 : RowKit.Below WA.heap.size WA (WA.drewN nq) := below_drewN (Below.refl _ _) nq
        have hBW := hBA.trans (hd3.mono hBA.size)
        have HO4 := Lib.hid (own_on HOA.out hd3)
        have b3 : Blk (WA.drewN nq) wr.heap.size #[.int .i64 x.fr, .int .i64 x.to] 29 := bx.below hd3 bx.lt
        clear y0 y1 hWA bx
        generalize WA.drewN nq = W4 at *
        have y0 := b3.cl 0 _ rfl
        have y1 := b3.cl 1 _ rfl
        have hszB := hBW.size
        go_wp2_with (at_builtin; go_loud (refine wpList_append_own _ rfl _ _ 33 rfl ws.heap.size 29 i0 _ 2 16 Tryz.underlying33 hi0 hz0 hz1 hz2 rfl (by decide) _ _ _ rfl (HO4.out.alloc _) ⟨_, 0, none⟩ 1 1 (encN x) rfl rfl (new_row_at (by simp) _) (encN_one x) (by simp only [maxLen]; omega) (by omega) (by simp; omega) ?_); intro v' w5 hown5 hg5 _)
        have hB5 : RowKit.Below ws.heap.size ws w5 := below_app HO4.out (Nat.le_refl _) (hBW.alloc hBW.size _) hg5
        go_roundw
        case rel => exact ⟨k + 1, by omega, by go_num, by rw [HJ.out, HADD.out]; exact own_snoc (es := O) (x := x) hown5, hB5⟩
        case measure => simp [intOf]; omega
      · obtain ⟨q, hq⟩ : ∃ q, O.length = q + 1 := ⟨O.length - 1, by omega⟩
        have dk : 0 < O.length := by omega
        have dk1 : decide ((0 : Int) < (O.length : Int)) = true := decide_eq_true (by omega)
        have hwi : (O.length : Int) - 1 = (q : Int) := by omega
        have hql : q < O.length := by omega
        obtain ⟨g6, hA6⟩ : ∃ g6, A6 = some ⟨g6, 0, none⟩ := by
          rcases HOA.out.2 with ⟨e0, _⟩ | ⟨g', cap', cur, e0, _⟩
          · injection e0 with _ e1 _; omega
          · injection e0 with e1 _ _; exact ⟨g', e1⟩
        subst hA6
        have HLT := Lib.hid (fun (W : World) (h : W.ownsRow ws.heap.size 29 2 (.slice (some ⟨g6, 0, none⟩) O.length c6) O.length (O.flatMap encN)) => show W.cell? ⟨g6, q * 2 + 1, none⟩ = some (.int .i64 (O[q]!).to) from (h.cellAt (q * 2 + 1) (by omega)).trans (flat_get encN_len O q 1 hql (by omega)))
        clear h0
        have l1 := HLT.out WA HOA.out
        by_cases hle : x.fr ≤ (O[q]!).to
        · have HSE := Lib.hid (show addRun O x = O.set q ⟨(O[q]!).fr, max (O[q]!).to x.to⟩ by unfold addRun; rw [show O.length - 1 = q by omega, if_pos ⟨dk, hle⟩])
          have d1 : decide (x.fr ≤ (O[q]!).to) = true := decide_eq_true hle
          have HSF := Lib.hid (set_flat O q (max (O[q]!).to x.to) hql)
          have HSL := Lib.hid (show (O.set q ⟨(O[q]!).fr, max (O[q]!).to x.to⟩).length = O.length from List.length_set)
          generalize hlt3 : (O[q]!).to = lt at *
          go_wp2_with fail
          go_quiet (fail)
          have hd3 : RowKit.Below WA.heap.size WA (WA.drewN nq) := below_drewN (Below.refl _ _) nq
          have hBW := hBA.trans (hd3.mono hBA.size)
          have hO3 := own_on HOA.out hd3
          have b3 : Blk (WA.drewN nq) wr.heap.size #[.int .i64 x.fr, .int .i64 x.to] 29 := bx.below hd3 bx.lt
          clear y0 y1 l1 hWA bx
          generalize WA.drewN nq = W4 at *
          have y0 := b3.cl 0 _ rfl
          have y1 := b3.cl 1 _ rfl
          have l1 : W4.cell? ⟨g6, q * 2 + 1, none⟩ = some (.int .i64 lt) := HLT.out W4 hO3
          have lf := hO3.frozenAt (q * 2 + 1)
          have HO4 := Lib.hid hO3
          clear hO3
          go_wp2
          go_region
          have hst := (HO4.out.stored (q * 2 + 1) (.int .i64 (max lt x.to))).1
          have hfin : (W4.setCell ⟨g6, q * 2 + 1, none⟩ (.int .i64 (max lt x.to))).drew.ownsRow ws.heap.size 29 2 (.slice (some ⟨g6, 0, none⟩) (q + 1) c6) (addRun O x).length ((addRun O x).flatMap encN) := by
            have h5 := own_on hst (Below.refl _ _).drew
            rw [HSE.out, HSL.out, ← HSF.out]
            rw [hq] at h5 ⊢
            exact h5
          have hg6 : ws.heap.size ≤ g6 := by
            rcases HO4.out.2 with ⟨e0, _⟩ | ⟨g', cap', cur, e0, h6, _⟩
            · cases e0
            · injection e0 with e1 _ _
              injection e1 with e1
              injection e1 with e1 _ _
              rw [e1]; exact h6
          have hB5 : RowKit.Below ws.heap.size ws (W4.setCell ⟨g6, q * 2 + 1, none⟩ (.int .i64 (max lt x.to))).drew := (hBW.setCell (p := ⟨g6, q * 2 + 1, none⟩) hg6 _).drew
          generalize (W4.setCell ⟨g6, q * 2 + 1, none⟩ (.int .i64 (max lt x.to))).drew = W5 at *
          have HQ := Lib.hid hq
          clear hq hst l1 lf y0 y1 b3
          go_wp2
          go_roundw
          case rel => exact ⟨k + 1, by omega, by go_num, by rw [HJ.out, HQ.out]; exact hfin, hB5⟩
          case measure => simp [intOf]; omega
        · have HADD := Lib.hid (show addRun O x = O ++ [x] by unfold addRun; rw [show O.length - 1 = q by omega, if_neg (fun h => hle h.2)])
          have d1 : decide (x.fr ≤ (O[q]!).to) = false := decide_eq_false hle
          generalize (O[q]!).to = lt at *
          clear hq
          go_wp2_with fail
          go_quiet (fail)
          have hd3 : RowKit.Below WA.heap.size WA (WA.drewN nq) := below_drewN (Below.refl _ _) nq
          have hBW := hBA.trans (hd3.mono hBA.size)
          have HO4 := Lib.hid (own_on HOA.out hd3)
          have b3 : Blk (WA.drewN nq) wr.heap.size #[.int .i64 x.fr, .int .i64 x.to] 29 := bx.below hd3 bx.lt
          clear y0 y1 l1 hWA bx
          generalize WA.drewN nq = W4 at *
          have y0 := b3.cl 0 _ rfl
          have y1 := b3.cl 1 _ rfl
          have hszB := hBW.size
          go_wp2_with (at_builtin; go_loud (refine wpList_append_own _ rfl _ _ 33 rfl ws.heap.size 29 i0 _ 2 16 Tryz.underlying33 hi0 hz0 hz1 hz2 rfl (by decide) _ _ _ rfl (HO4.out.alloc _) ⟨_, 0, none⟩ 1 1 (encN x) rfl rfl (new_row_at (by simp) _) (encN_one x) (by simp only [maxLen]; omega) (by omega) (by simp; omega) ?_); intro v' w5 hown5 hg5 _)
          have hB5 : RowKit.Below ws.heap.size ws w5 := below_app HO4.out (Nat.le_refl _) (hBW.alloc hBW.size _) hg5
          go_roundw
          case rel => exact ⟨k + 1, by omega, by go_num, by rw [HJ.out, HADD.out]; exact own_snoc (es := O) (x := x) hown5, hB5⟩
          case measure => simp [intOf]; omega
    · have hkR : R.length ≤ k := by omega
      rw [List.take_of_length_le hkR] at hown hlo
      have HO := Lib.hid hown
      have HCO := Lib.hid (canon_ok HJD.out.c (fun x => (HJD.out.m x).trans ⟨fun ⟨s, hs, h⟩ => ⟨s, (HRM.out s).1 hs, h⟩, fun ⟨s, hs, h⟩ => ⟨s, (HRM.out s).2 hs, h⟩⟩) HOKL.out)
      have hll := hlo
      generalize hO : joinF R = O at *
      obtain ⟨A6, c6, rfl⟩ := own_formN hown
      have hBr : RowKit.Below w.heap.size w wr := hBs.trans (hbr.mono hszn)
      have hol : O.length ≤ l.length := by omega
      have HOF := Lib.hid hO
      have hkk : k = l.length := by omega
      subst hkk
      clear hown hO hkR hRl
      by_cases h2 : O.length ≤ 2000
      · have HDN := Lib.hid (fun W => done_any A6 O.length c6 W h2)
        go_wp2_with fail
        refine (HDN.out _).mono ?_
        rintro e w9 ⟨rfl, rfl⟩
        go_wp2
        go_ret2
        exact ⟨O, HJD.out.c, fun x => (HJD.out.m x).trans ⟨fun ⟨s, hs, h⟩ => ⟨s, (HRM.out s).1 hs, h⟩, fun ⟨s, hs, h⟩ => ⟨s, (HRM.out s).2 hs, h⟩⟩, HCO.out, hol, hBr, .inl ⟨h2, .slice A6 O.length c6, rfl, own_base HO.out hszn⟩⟩
      · have HDN := Lib.hid (fun W => done_full A6 O.length c6 W (by omega))
        go_wp2_with fail
        refine (HDN.out _).mono ?_
        rintro e w9 ⟨rfl, rfl⟩
        go_wp2
        go_ret2
        exact ⟨O, HJD.out.c, fun x => (HJD.out.m x).trans ⟨fun ⟨s, hs, h⟩ => ⟨s, (HRM.out s).1 hs, h⟩, fun ⟨s, hs, h⟩ => ⟨s, (HRM.out s).2 hs, h⟩⟩, HCO.out, hol, hBr, .inr ⟨by omega, rfl⟩⟩
theorem Of_runs (l : List Spn) (v : Value) (w : World) (h0 : 0 < l.length) (hl : l.length ≤ 2000) (hok : ∀ s ∈ l, s.ok = true) (hR : Rd encN 2 w v l) : Calls Tryz.prog 60 #[v] w (OfEnd l w) := by
  refine (Of_runs2 l v w h0 (by omega) hok hR).mono ?_
  rintro e w' ⟨out, h1, h2, h3, h4, h5, ⟨_, u, h6, h7⟩ | ⟨h6, _⟩⟩
  · exact ⟨out, u, h1, h2, h3, h4, h6, h7, h5⟩
  · omega

end Go.Proofs.YtoonaidpmahgcaaGreat

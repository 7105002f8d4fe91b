/- Joined by merge.py: Gaps, Marked. -/
import Derived.Test.YtdpkolnfbimheaaGreatGUn
import Derived.BigQuiet
/- What local.Gaps hands over: the skipped local times of a span. -/
namespace Go.Proofs.YtdpkolnfbimheaaGreat
set_option linter.unusedSimpArgs false
set_option linter.unusedVariables false
open Go.ChangeShapes Go.WideShapes Go.ChangeAt Go.RowKit

theorem skip_cells {w : World} {A : Option Addr} {n c : Nat} {L : List Skip} (h : Rd Skip.cells 3 w (.slice A n c) L) : n = L.length ∧ (L = [] ∨ ∃ g o, A = some ⟨g, o, none⟩ ∧ g < w.heap.size ∧ ∀ k, k < L.length → w.cell? ⟨g, o + k * 3, none⟩ = some (.int .i64 (L[k]!).at_) ∧ w.cell? ⟨g, o + k * 3 + 1, none⟩ = some (.int .i64 (L[k]!).bef) ∧ w.cell? ⟨g, o + k * 3 + 2, none⟩ = some (.int .i64 (L[k]!).aft)) := by
  rcases h with ⟨e, A', c', hv⟩ | ⟨g, o, c', hv, hg, hc⟩
  · injection hv with _ hn _
    subst e
    exact ⟨hn, .inl rfl⟩
  · injection hv with e1 hn _
    refine ⟨hn, .inr ⟨g, o, e1, hg, fun k hk => ⟨?_, ?_, ?_⟩⟩⟩
    · have := hc k hk 0 _ rfl
      rwa [Nat.add_zero] at this
    · exact hc k hk 1 _ rfl
    · exact hc k hk 2 _ rfl
/-- a row of one span -/
theorem one_row (w : World) (s : Spn) (B : Nat) (h : B = w.heap.size) : Rd encN 2 (w.alloc (.cells #[.int .i64 s.fr, .int .i64 s.to] 34)) (.slice (some ⟨B, 0, none⟩) 1 1) [s] := by
  subst h
  refine .inr ⟨w.heap.size, 0, 1, rfl, by simp, fun j hj i u hu => ?_⟩
  have h0 : j = 0 := by simpa using hj
  subst h0
  have := alloc_cells w [.int .i64 s.fr, .int .i64 s.to] 34 i u hu
  simpa using this
def minusL (R : List Spn) (s : Spn) : List Spn := R.flatMap fun r => minusF r s
theorem minusL_len (s : Spn) (R : List Spn) : (minusL R s).length ≤ 2 * R.length := flat_minus_len s R
theorem take_flat {s : Spn} {R : List Spn} {q : Nat} (hq : q < R.length) : minusL (R.take (q + 1)) s = minusL (R.take q) s ++ minusF R[q]! s := by
  unfold minusL
  rw [List.take_succ_eq_append_getElem hq, List.flatMap_append, getElem!_pos R q hq]
  simp
theorem drop_take {C : List Spn} {f m : Nat} (h : f + m < C.length) : (C.drop f).take (m + 1) = (C.drop f).take m ++ [C[f + m]!] := by
  rw [List.take_succ_eq_append_getElem (by rw [List.length_drop]; omega), List.getElem_drop, getElem!_pos C (f + m) h]
def GapEnd (z : Zn) (a b : Int) (w : World) (e : Ending) (w' : World) : Prop := ∃ v G, e = .returned v ∧ w'.ownsRow w.heap.size 34 2 v G.length (G.flatMap encN) ∧ GapsOk (z.pieces a b) (z.skips a b) G ∧ G.length ≤ 2000000 ∧ Below w.heap.size w w'
set_option maxRecDepth 100000 in
set_option maxHeartbeats 8000000 in
theorem gapL_any (z : Zn) (vT vR : Value) (a b : Int) (Bz : Nat) (w : World) (hm : HasMax w) (hT : Rd Trn.cells 4 w vT z.table) (hR : Rd Rule.cells 11 w vR z.tail) (hfs : z.form.size < 4294967281) (hll : z.tail.length ≤ 12) (hM : Mild z a b) (hP : Pcs (z.pieces a b) a b) (hS : Skips (z.pieces a b) a b (z.skips a b)) (hab : a < b) (hz : Blk w Bz (z.cellsL vT vR).toArray 27) :
    Calls Tryz.prog 70 #[.agg #[.int .i64 a, .int .i64 b], .pointer (some ⟨Bz, 0, none⟩)] w (GapEnd z a b w) := by
  have HIM := Lib.hid (fun W (hb : Below w.heap.size w W) => images_any z vT vR a b W (hm.on hb) (hT.on hb) (hR.on hb) hfs hll hM hP)
  have HSK := Lib.hid (fun W (hb : Below w.heap.size w W) => skips_any z vT vR a b W (hm.on hb) (hT.on hb) (hR.on hb) hfs hll hM)
  have HLN := Lib.hid (pieces_len hM)
  have HP := Lib.hid hP
  have HSS := Lib.hid hS
  have HIL := Lib.hid (imgs_len (z.pieces a b))
  have HSL := Lib.hid (show (z.skips a b).length ≤ (z.pieces a b).length from skipsF_len _ _ _)
  obtain ⟨AT, cT, rfl⟩ := rd_vf hT
  obtain ⟨AR, cR, rfl⟩ := rd_vf hR
  unfold GapEnd
  unfold Zn.v at HIM HSK
  unfold Zn.cellsL at hz
  clear hT hR hm hM hP hS
  generalize z.skips a b = SL at *
  generalize z.pieces a b = PL at *
  have bw := Blk.new w #[.int .i64 a, .int .i64 b] 34
  have hB : Below w.heap.size w (w.alloc (.cells #[.int .i64 a, .int .i64 b] 34)) := (Below.refl _ _).alloc (Nat.le_refl _) _
  have bz := hz.alloc (.cells #[.int .i64 a, .int .i64 b] 34)
  obtain ⟨i0, hi0, hz0, hz1, hz2⟩ := info_parts info_span
  have z0 := bz.cl 0 _ rfl
  have z1 := bz.cl 1 _ rfl
  have z2 := bz.cl 2 _ rfl
  have z3 := bz.cl 3 _ rfl
  have z4 := bz.cl 4 _ rfl
  have z5 := bz.cl 5 _ rfl
  have z6 := bz.cl 6 _ rfl
  have z7 := bz.cl 7 _ rfl
  have z8 := bz.cl 8 _ rfl
  have w0 := bw.cl 0 _ rfl
  have w1' := bw.cl 1 _ rfl
  go_enter Tryz.func70, Tryz.ntmps70
  go_wp2_with (first
    | (go_at_call 71; refine (HIM.out _ hB).mono ?_; rintro e w1 ⟨v1, rfl, hr1, hb1⟩; clear HIM z0 z1 z2 z3 z4 z5 z6 z7 z8 w0 w1'; obtain ⟨A1, c1, rfl⟩ := own_formN hr1; have bz1 := bz.below hb1 bz.lt; have bw1 := bw.below hb1 bw.lt; have hb1 := hB.trans (hb1.mono hB.size); have z0 := bz1.cl 0 _ rfl; have z1 := bz1.cl 1 _ rfl; have z2 := bz1.cl 2 _ rfl; have z3 := bz1.cl 3 _ rfl; have z4 := bz1.cl 4 _ rfl; have z5 := bz1.cl 5 _ rfl; have z6 := bz1.cl 6 _ rfl; have z7 := bz1.cl 7 _ rfl; have z8 := bz1.cl 8 _ rfl; have w0 := bw1.cl 0 _ rfl; have w1' := bw1.cl 1 _ rfl)
    | (go_at_call 66; refine (HSK.out _ hb1).mono ?_; rintro e w2 ⟨v2, rfl, hr2, hb2⟩; clear HSK z0 z1 z2 z3 z4 z5 z6 z7 z8 w0 w1'; obtain ⟨A2, c2, rfl⟩ := own_formN hr2))
  have hr12 := own_on hr1 hb2
  have hb2 := hb1.trans (hb2.mono hb1.size)
  have hRS := rd_of_own skip_len hr2 rfl
  generalize hC : imgs PL = C at *
  have HRC := Lib.hid (rd_of_own encN_len hr12 rfl)
  have HRS := Lib.hid hRS
  have hsz2 := hb2.size
  have hcap : C.length ≤ c1 := by
    rcases hr12.2 with ⟨e0, e1⟩ | ⟨g, cap, cur, e0, _, _, hnc, _⟩
    · omega
    · injection e0 with _ _ e3
      omega
  have hCl : C.length = PL.length := HIL.out
  have HCl := Lib.hid hCl
  have HOKC := Lib.hid (fun k (hk : k < C.length) => show (C[k]!).ok = true from img_ok HP.out C[k]! (by rw [← hC] at hk ⊢; rw [getElem!_pos _ k hk]; exact List.getElem_mem hk))
  have HMO := Lib.hid (fun i j (hij : i ≤ j) (hj : j < SL.length) => show (SL[i]!).at_ ≤ (SL[j]!).at_ from by
    rcases Nat.lt_or_eq_of_le hij with h | h
    · have := List.pairwise_iff_getElem.1 HSS.out.asc i j (by omega) hj h
      rwa [getElem!_pos SL i (by omega), getElem!_pos SL j hj]
    · rw [h]; exact Int.le_refl _)
  have HXB := Lib.hid (fun k (hk : k < SL.length) => HSS.out.bd SL[k]! (by rw [getElem!_pos SL k hk]; exact List.getElem_mem hk))
  have HONE := Lib.hid (fun (x : Skip) (hx : (-93600 < x.bef ∧ x.bef < 93600) ∧ (-93600 < x.aft ∧ x.aft < 93600)) f m r (h : RestInv x ((C.drop f).take m) r) (h1 : ∀ j, j < f → (C[j]!).to < x.at_ - 280800) (h2 : PL.length ≤ f + m ∨ x.at_ + 280800 < (C[f + m]!).fr) => show GapOne PL x r from gap_one HP.out hx (by rw [hC]; exact h) (by rw [hC]; exact h1) (by rw [hC]; exact h2))
  have hlo := HP.out.lo
  have hhi := HP.out.hi
  clear bw bz bz1 bw1 hB hz hr1 hr12 hr2 hRS hC hCl
  go_loopw [5, 6, 22] (fun v5 v6 i wr => ∃ (n f : Nat) (G : List Spn), n ≤ SL.length ∧ i = .int .i64 n ∧ v6 = .int .i64 f ∧ f ≤ C.length ∧ (∀ j, j < f → ∀ m, n ≤ m → m < SL.length → (C[j]!).to < (SL[m]!).at_ - 280800) ∧ wr.ownsRow w2.heap.size 34 2 v5 G.length (G.flatMap encN) ∧ GapsOk PL (SL.take n) G ∧ Below w2.heap.size w2 wr) (fun _ _ i _ => SL.length - (intOf i).toNat)
  case atStart => exact ⟨0, 0, [], Nat.zero_le _, rfl, rfl, Nat.zero_le _, fun j h => absurd h (Nat.not_lt_zero _), World.ownsRow_nil _ _ _ _, gaps_nil PL, Below.refl _ _⟩
  case round =>
    obtain ⟨n, f0, G, hn, rfl, rfl, hf0, hfst, hown, hG, hbr⟩ := hrel
    have hszr := hbr.size
    have hPL := HLN.out
    have hSL := HSL.out
    have hCb : C.length ≤ 1001 := by have := HCl.out; omega
    have hGl : G.length ≤ n * 1002 := Nat.le_trans hG.l (by rw [List.length_take_of_le hn]; exact Nat.mul_le_mul_left _ (by omega))
    obtain ⟨A5, c5, rfl⟩ := own_formN hown
    by_cases hlt : n < SL.length
    · obtain ⟨_, hS0 | ⟨gs, os, rfl, hgs, hcs⟩⟩ := skip_cells (HRS.out.on hbr)
      · rw [hS0] at hlt; exact absurd hlt (Nat.not_lt_zero _)
      · obtain ⟨e0, e1, e2⟩ := hcs n hlt
        obtain ⟨xb1, xb2, xb3, xb4, xb5⟩ := HXB.out n hlt
        have HGS := Lib.hid (fun r (h : GapOne PL SL[n]! r) => show GapsOk PL (SL.take (n + 1)) (G ++ r) from by
          rw [List.take_succ_eq_append_getElem hlt, ← getElem!_pos SL n hlt]
          exact gaps_snoc hG h)
        have HFST0 := Lib.hid (fun j hj => hfst j hj n (Nat.le_refl _) hlt)
        have HNXT := Lib.hid (fun (f : Nat) (h : ∀ j : Nat, j < f → (C[j]!).to < (SL[n]!).at_ - 280800) (j : Nat) (hj : j < f) (m : Nat) (hm : n + 1 ≤ m) (hml : m < SL.length) => show (C[j]!).to < (SL[m]!).at_ - 280800 from by
          have := h j hj
          have := HMO.out n m (by omega) hml
          omega)
        have HO := Lib.hid hown
        obtain ⟨x, hx⟩ : ∃ x, SL[n]! = x := ⟨_, rfl⟩
        rw [hx] at e0 e1 e2 xb1 xb2 xb3 xb4 xb5 HGS HFST0 HNXT
        have hw1 : wrap64 (x.at_ + x.bef) = x.at_ + x.bef := by unfold wrap64; omega
        have hw2 : wrap64 (x.at_ + x.aft) = x.at_ + x.aft := by unfold wrap64; omega
        have hxok : x.spn.ok = true := Spn.ok_iff.2 ⟨by unfold Skip.spn; dsimp only; omega, by unfold Skip.spn; dsimp only; omega, by unfold Skip.spn; dsimp only; omega⟩
        have HXOK := Lib.hid hxok
        clear hcs hfst hown hG hx hxok
        have bx := (Blk.new wr #[.int .i64 x.at_, .int .i64 x.bef, .int .i64 x.aft] 102).alloc (.cells #[.int .i64 (x.at_ + x.bef), .int .i64 (x.at_ + x.aft)] 34)
        have hRR := one_row (wr.alloc (.cells #[.int .i64 x.at_, .int .i64 x.bef, .int .i64 x.aft] 102)) x.spn (wr.heap.size + 1) (by simp)
        have hBB : Below wr.heap.size wr ((wr.alloc (.cells #[.int .i64 x.at_, .int .i64 x.bef, .int .i64 x.aft] 102)).alloc (.cells #[.int .i64 (x.at_ + x.bef), .int .i64 (x.at_ + x.aft)] 34)) := (alloc_below' wr _).alloc (by simp) _
        go_wp2
        unfold Skip.spn at hRR
        dsimp only at hRR
        generalize (wr.alloc (.cells #[.int .i64 x.at_, .int .i64 x.bef, .int .i64 x.aft] 102)).alloc (.cells #[.int .i64 (x.at_ + x.bef), .int .i64 (x.at_ + x.aft)] 34) = WB at *
        have hO' := own_on HO.out hBB
        have hbB := hbr.trans (hBB.mono hszr)
        have hlB := hBB.size
        generalize hBx : wr.heap.size = Bx at *
        clear e0 e1 e2 HO
        have HO := Lib.hid hO'
        generalize hq : wr = wq at *
        clear hq hO' hgs hBB hBx
        have HBX := Lib.hid bx
        have HRR := Lib.hid hRR
        have hBxl := bx.lt
        have hwl : wrap64 (x.at_ - 280800) = x.at_ - 280800 := by unfold wrap64; omega
        have hwh : wrap64 (x.at_ + 280800) = x.at_ + 280800 := by unfold wrap64; omega
        clear hRR
        go_loopw [6] (fun v6 wv => ∃ f : Nat, f ≤ C.length ∧ v6 = .int .i64 f ∧ (∀ j, j < f → (C[j]!).to < x.at_ - 280800) ∧ Below WB.heap.size WB wv) (fun v6 _ => C.length - (intOf v6).toNat)
        case atStart => exact ⟨f0, hf0, rfl, HFST0.out, Below.refl _ _⟩
        case round =>
          obtain ⟨f, hf, rfl, hfs, hbv⟩ := hrel
          have hbx := bx.below hbv hBxl
          have s0 := hbx.cl 0 _ rfl
          have hbw := hbB.trans (hbv.mono hbB.size)
          obtain ⟨_, hC0 | ⟨g, o, hA, hg, hc⟩⟩ := rd_at (HRC.out.on hbw)
          · exfalso
            have h1 := HCl.out
            have h2 := HSL.out
            rw [hC0] at h1
            simp at h1
            omega
          · subst hA
            have HCC := Lib.hid hc
            have HCW := Lib.hid (fun W (hb : Below WB.heap.size WB W) k (hk : k < C.length) => show W.cell? ⟨g, o + k * 2, none⟩ = some (.int .i64 (C[k]!).fr) ∧ W.cell? ⟨g, o + k * 2 + 1, none⟩ = some (.int .i64 (C[k]!).to) from by
              obtain ⟨_, h0 | ⟨g', o', hA', _, hc'⟩⟩ := rd_at (HRC.out.on (hbB.trans (hb.mono hbB.size)))
              · rw [h0] at hk; exact absurd hk (Nat.not_lt_zero _)
              · injection hA' with hA'
                injection hA' with h1 h2 _
                subst h1
                subst h2
                exact hc' k hk)
            clear hc
            by_cases hcont : f < C.length ∧ (C[f]!).to < x.at_ - 280800
            · have hfl := hcont.1
              have hf1 := (HCC.out f hfl).2
              obtain ⟨y, hy⟩ : ∃ y, C[f]! = y := ⟨_, rfl⟩
              have HNF := Lib.hid (fun (h : y.to < x.at_ - 280800) (j : Nat) (hj : j < f + 1) => show (C[j]!).to < x.at_ - 280800 from by
                rcases Nat.lt_or_eq_of_le (Nat.lt_succ_iff.1 hj) with h1 | h1
                · exact hfs j h1
                · rw [h1, hy]; exact h)
              rw [hy] at hf1 hcont
              have hyl := hcont.2
              clear hy hcont
              have d1 : decide (y.to < x.at_ - 280800) = true := decide_eq_true hyl
              go_wp2_with fail
              go_quiet (fail)
              have hd : Below wr.heap.size wr (wr.drewN nq) := below_drewN (Below.refl wr.heap.size wr) nq
              have hbd := hbv.trans (hd.mono hbv.size)
              generalize wr.drewN nq = wd at *
              go_wp2
              go_roundw
              case rel => exact ⟨f + 1, by omega, by go_num, HNF.out hyl, hbd⟩
              case measure => simp [intOf]; omega
            · have hend : (f < C.length ∧ ∃ t0, wr.cell? ⟨g, o + f * 2 + 1, none⟩ = some (.int .i64 t0) ∧ decide (t0 < x.at_ - 280800) = false) ∨ (¬ f < C.length ∧ f ≠ c1) ∨ (¬ f < C.length ∧ f = c1) := by
                by_cases hfl : f < C.length
                · exact .inl ⟨hfl, _, (HCC.out f hfl).2, decide_eq_false fun h => hcont ⟨hfl, h⟩⟩
                · by_cases hcc : f = c1
                  · exact .inr (.inr ⟨hfl, hcc⟩)
                  · exact .inr (.inl ⟨hfl, hcc⟩)
              clear hcont
              rcases hend with ⟨hfl, t0, hf1, d1⟩ | ⟨hfl, hcc⟩ | ⟨hfl, hcc⟩
              all_goals (try subst hcc)
              all_goals
                go_wp2_with fail
                go_quiet (fail)
                have hdd : Below wr.heap.size wr (wr.drewN nq) := below_drewN (Below.refl wr.heap.size wr) nq
                have hbd := hbv.trans (hdd.mono hbv.size)
                try clear hf1 d1
                generalize wr.drewN nq = wd at *
                have HFS := Lib.hid hfs
                clear hfs
                go_wp2
              all_goals
                go_loopw [9, 59] (fun v9 v59 wv => ∃ (m : Nat) (R : List Spn), m ≤ C.length - f ∧ v59 = .int .i64 m ∧ RestInv x ((C.drop f).take m) R ∧ Rd encN 2 wv v9 R ∧ Below WB.heap.size WB wv) (fun _ v59 _ => (C.length - f) - (intOf v59).toNat)
                case atStart => exact ⟨0, [x.spn], Nat.zero_le _, rfl, rest_start HXOK.out, HRR.out.on hbd, hbd⟩
                case round =>
                  obtain ⟨m, R, hm, rfl, hRI, hRd, hbv2⟩ := hrel
                  obtain ⟨A9, c9, rfl⟩ := rd_vf hRd
                  have hRl : R.length ≤ 1002 := by
                    have h1 := hRI.len
                    have h2 : ((C.drop f).take m).length ≤ C.length := Nat.le_trans (List.length_take_le' _ _) (by rw [List.length_drop]; omega)
                    omega
                  have hszw := hbv2.size
                  by_cases hml : m < C.length - f
                  · have hno : f < C.length := by omega
                    first | exact absurd hno hfl | skip
                    all_goals
                      clear hno
                      have hfm : f + m < C.length := by omega
                      have ea : o + f * 2 + m * 2 = o + (f + m) * 2 := by omega
                      obtain ⟨q0, q1⟩ := HCW.out wr hbv2 (f + m) hfm
                      rw [← ea] at q0 q1
                      have hsok := HOKC.out (f + m) hfm
                      have HDT := Lib.hid (drop_take hfm)
                      obtain ⟨s, hs⟩ : ∃ s, C[f + m]! = s := ⟨_, rfl⟩
                      rw [hs] at q0 q1 hsok HDT
                      have HGB := Lib.hid (fun (h : x.at_ + 280800 < s.fr) => HONE.out x ⟨xb4, xb5⟩ f m R hRI HFS.out (.inr (by rw [hs]; exact h)))
                      have HSOK := Lib.hid hsok
                      have x0 := (HBX.out.below hbv2 HBX.out.lt).cl 0 _ rfl
                      have bs := Blk.new wr #[.int .i64 s.fr, .int .i64 s.to] 34
                      have x0S := ((HBX.out.below hbv2 HBX.out.lt).alloc (.cells #[.int .i64 s.fr, .int .i64 s.to] 34)).cl 0 _ rfl
                      have hbS : Below WB.heap.size WB (wr.alloc (.cells #[.int .i64 s.fr, .int .i64 s.to] 34)) := hbv2.alloc hbv2.size _
                      have hRS := hRd.on (alloc_below' wr (.cells #[.int .i64 s.fr, .int .i64 s.to] 34))
                      clear hs hsok ea
                      have s0 := bs.cl 0 _ rfl
                      have s1 := bs.cl 1 _ rfl
                      by_cases hbrk : x.at_ + 280800 < s.fr
                      · have d2 : decide (x.at_ + 280800 < s.fr) = true := decide_eq_true hbrk
                        have HG1 := Lib.hid (HGB.out hbrk)
                        have HO9 := Lib.hid (own_on HO.out hbS)
                        have HR9 := Lib.hid hRS
                        have hb29 := hbB.trans (hbS.mono hbB.size)
                        have hsz9 := hb29.size
                        clear hRI hRd hRS HGB
                        go_wp2_with (at_builtin; go_loud (refine wpList_append_rd rfl (.tmp 83) (.tmp 84) _ rfl w2.heap.size 34 i0 _ 2 16 Tryz.underlying46 hi0 hz0 hz1 hz2 rfl (by decide) _ _ _ rfl HO9.out encN encN_len encN_one _ rfl R HR9.out (by simp only [maxLen]; omega) (by omega) (by omega) ?_); intro v' w5 hown5 hg5)
                        have hB5 : Below w2.heap.size w2 w5 := below_app HO9.out (Nat.le_refl _) hb29 hg5
                        go_roundw
                        case rel => exact ⟨n + 1, f, G ++ R, by omega, by go_num, rfl, hf, HNXT.out f HFS.out, by rw [List.length_append, List.flatMap_append]; exact hown5, HGS.out R HG1.out, hB5⟩
                        case measure => simp [intOf]; omega
                      · have d2 : decide (x.at_ + 280800 < s.fr) = false := decide_eq_false hbrk
                        have HRIS := Lib.hid (show RestInv x ((C.drop f).take (m + 1)) (minusL R s) from by rw [HDT.out]; exact rest_step hRI HSOK.out)
                        have HROK := Lib.hid hRI.ok
                        clear hRI hRd HGB
                        go_wp2
                        generalize wr.alloc (.cells #[.int .i64 s.fr, .int .i64 s.to] 34) = WS at *
                        generalize hBs : wr.heap.size = Bs at *
                        generalize hq : wr = wq at *
                        clear hq q0 q1 x0 s0 s1 x0S hBs
                        have HBS := Lib.hid bs
                        have HRS2 := Lib.hid hRS
                        have HBS2 := Lib.hid hbS
                        clear hRS
                        go_loopw [12, 71] (fun v12 v71 wy => ∃ q : Nat, q ≤ R.length ∧ v71 = .int .i64 q ∧ wy.ownsRow WS.heap.size 34 2 v12 (minusL (R.take q) s).length ((minusL (R.take q) s).flatMap encN) ∧ Below WS.heap.size WS wy) (fun _ v71 _ => R.length - (intOf v71).toNat)
                        case atStart => exact ⟨0, Nat.zero_le _, rfl, World.ownsRow_nil _ _ _ _, Below.refl _ _⟩
                        case round =>
                          obtain ⟨q, hq, rfl, hown3, hby⟩ := hrel
                          obtain ⟨A12, c12, rfl⟩ := own_formN hown3
                          have hnl : (minusL (R.take q) s).length ≤ 2004 := Nat.le_trans (minusL_len s _) (by have := List.length_take_le' q R; omega)
                          have hszy := hby.size
                          by_cases hql : q < R.length
                          · obtain ⟨_, hR0 | ⟨g9, o9, rfl, hg9, hc9⟩⟩ := rd_at (HRS2.out.on hby)
                            · rw [hR0] at hql; exact absurd hql (Nat.not_lt_zero _)
                            · obtain ⟨r0, r1⟩ := hc9 q hql
                              have hrok := HROK.out (R[q]!) (by rw [getElem!_pos R q hql]; exact List.getElem_mem hql)
                              have HMI := Lib.hid (fun W => Minus_any R[q]! s W hrok HSOK.out)
                              unfold MinusEnd at HMI
                              have HTF := Lib.hid (take_flat (s := s) hql)
                              obtain ⟨r, hr⟩ : ∃ r, R[q]! = r := ⟨_, rfl⟩
                              rw [hr] at r0 r1 HMI HTF
                              have hml2 := minus_len r s
                              have br := Blk.new wr #[.int .i64 r.fr, .int .i64 r.to] 34
                              have bsR := (HBS.out.below hby HBS.out.lt).alloc (.cells #[.int .i64 r.fr, .int .i64 r.to] 34)
                              have hbR : Below WS.heap.size WS (wr.alloc (.cells #[.int .i64 r.fr, .int .i64 r.to] 34)) := hby.alloc hby.size _
                              have HO3 := Lib.hid (own_on hown3 (alloc_below' wr (.cells #[.int .i64 r.fr, .int .i64 r.to] 34)))
                              have r0' := br.cl 0 _ rfl
                              have r1' := br.cl 1 _ rfl
                              have s0 := bsR.cl 0 _ rfl
                              have s1 := bsR.cl 1 _ rfl
                              generalize hN : minusL (R.take q) s = N at *
                              clear hc9 hr hrok hown3 hN
                              go_wp2_with (first
                                | (go_at_call 72; refine (HMI.out _).mono ?_; rintro e w6 ⟨v6, rfl, hr6, hb6⟩; have hb6' := hbR.trans (hb6.mono hbR.size); have hs6 := hb6'.size; have HO6 := Lib.hid (own_on HO3.out hb6); have HR6 := Lib.hid (rd_of_own encN_len hr6 rfl); clear HMI)
                                | (at_builtin; go_loud (refine wpList_append_rd rfl (.tmp 75) (.tmp 78) _ rfl WS.heap.size 34 i0 _ 2 16 Tryz.underlying46 hi0 hz0 hz1 hz2 rfl (by decide) _ _ _ rfl HO6.out encN encN_len encN_one _ rfl (minusF r s) HR6.out (by simp only [maxLen]; omega) (by omega) (by omega) ?_); intro v7 w7 hown7 hg7))
                              have hB7 : Below WS.heap.size WS w7 := below_app HO6.out (Nat.le_refl _) hb6' hg7
                              go_roundw
                              case rel => exact ⟨q + 1, by omega, by go_num, by rw [HTF.out, List.length_append, List.flatMap_append]; exact hown7, hB7⟩
                              case measure => simp [intOf]; omega
                          · have hqe : q = R.length := by omega
                            have hown4 : wr.ownsRow WS.heap.size 34 2 (.slice A12 (minusL (R.take q) s).length c12) (minusL R s).length ((minusL R s).flatMap encN) := by
                              have h9 := hown3
                              rw [hqe, List.take_length] at h9 ⊢
                              exact h9
                            have HRD4 := Lib.hid (show Rd encN 2 wr (.slice A12 (minusL (R.take q) s).length c12) (minusL R s) from rd_of_own encN_len hown4 rfl)
                            have HBE := Lib.hid (HBS2.out.trans (hby.mono HBS2.out.size))
                            clear hown3 hown4 hqe
                            generalize (minusL (R.take q) s).length = nl at *
                            go_wp2
                            go_roundw
                            case rel => exact ⟨m + 1, minusL R s, by omega, by go_num, HRIS.out, HRD4.out, HBE.out⟩
                            case measure => simp [intOf]; omega
                  · have HG1 := Lib.hid (HONE.out x ⟨xb4, xb5⟩ f m R hRI HFS.out (.inl (by have := HCl.out; omega)))
                    have HO9 := Lib.hid (own_on HO.out hbv2)
                    have HR9 := Lib.hid hRd
                    have hb29 := hbB.trans (hbv2.mono hbB.size)
                    have hsz9 := hb29.size
                    clear hRI hRd
                    go_wp2_with (at_builtin; go_loud (refine wpList_append_rd rfl (.tmp 83) (.tmp 84) _ rfl w2.heap.size 34 i0 _ 2 16 Tryz.underlying46 hi0 hz0 hz1 hz2 rfl (by decide) _ _ _ rfl HO9.out encN encN_len encN_one _ rfl R HR9.out (by simp only [maxLen]; omega) (by omega) (by omega) ?_); intro v' w5 hown5 hg5)
                    have hB5 : Below w2.heap.size w2 w5 := below_app HO9.out (Nat.le_refl _) hb29 hg5
                    go_roundw
                    case rel => exact ⟨n + 1, f, G ++ R, by omega, by go_num, rfl, hf, HNXT.out f HFS.out, by rw [List.length_append, List.flatMap_append]; exact hown5, HGS.out R HG1.out, hB5⟩
                    case measure => simp [intOf]; omega
    · obtain rfl : n = SL.length := by omega
      have HO := Lib.hid hown
      have HGO := Lib.hid (show GapsOk PL SL G from by rw [List.take_length] at hG; exact hG)
      have hG2 : G.length ≤ 2000000 := Nat.le_trans hGl (Nat.le_trans (Nat.mul_le_mul_right 1002 (show SL.length ≤ 1001 by omega)) (by omega))
      clear hown hG hfst
      go_wp2
      go_ret
      exact ⟨.slice A5 G.length c5, G, rfl, own_base HO.out hsz2, HGO.out, hG2, hb2.trans (hbr.mono hsz2)⟩

end Go.Proofs.YtdpkolnfbimheaaGreat

/- local.isSpan, local.marked, local.Gaps, local.Folds. Printed by gen_marked.py. -/
namespace Go.Proofs.YtdpkolnfbimheaaGreat
set_option linter.unusedSimpArgs false
set_option linter.unusedVariables false
open Go.ChangeShapes Go.WideShapes Go.ChangeAt Go.RowKit

theorem isSpan_yes (a b : Int) (w : World) (h1 : -62135596800 ≤ a) (h2 : a < b) (h3 : b ≤ 253402300800) : Calls Tryz.prog 88 #[.agg #[.int .i64 a, .int .i64 b]] w fun e w' => e = .returned (.bool true) ∧ Below w.heap.size w w' := by
  have hB : Below w.heap.size w (w.alloc (.cells #[.int .i64 a, .int .i64 b] 34)) := (Below.refl _ _).alloc (Nat.le_refl _) _
  go_enter Tryz.func88, Tryz.ntmps88
  go_wp2
  go_ret
  exact ⟨ret1 (vbool (by simp)), hB⟩
/-- what local.Gaps returns of a span of at most forty years -/
def GapsV (z : Zn) (a b : Int) (w : World) (e : Ending) (w' : World) : Prop := Below w.heap.size w w' ∧ ((z.valid = false ∧ e = .returned (.tuple #[.slice none 0 0, .int .i64 1])) ∨ (z.valid = true ∧ ∃ G out u, GapsOk (z.pieces (wideA a) (wideB b)) (z.skips (wideA a) (wideB b)) G ∧ UnionOk ⟨a, b⟩ G out ∧ out.length ≤ 2000 ∧ e = .returned (.tuple #[u, .int .i64 0]) ∧ w'.ownsRow w.heap.size 34 2 u out.length (out.flatMap encN)))
/-- what local.Folds returns of a span of at most forty years -/
def FoldsV (z : Zn) (a b : Int) (w : World) (e : Ending) (w' : World) : Prop := Below w.heap.size w w' ∧ ((z.valid = false ∧ e = .returned (.tuple #[.slice none 0 0, .int .i64 1])) ∨ (z.valid = true ∧ ∃ G out u, FoldsOk (z.pieces (wideA a) (wideB b)) (pairsN (z.pieces (wideA a) (wideB b)).length) G ∧ UnionOk ⟨a, b⟩ G out ∧ out.length ≤ 2000 ∧ e = .returned (.tuple #[u, .int .i64 0]) ∧ w'.ownsRow w.heap.size 34 2 u out.length (out.flatMap encN)))

set_option maxRecDepth 100000 in
set_option maxHeartbeats 8000000 in
theorem marked_gaps (z : Zn) (vT vR : Value) (a b : Int) (Bz : Nat) (w : World) (hm : HasMax w) (hT : Rd Trn.cells 4 w vT z.table) (hR : Rd Rule.cells 11 w vR z.tail) (hfs : z.form.size < 4294967281) (hll : z.tail.length ≤ 12) (htl : z.table.length ≤ 300) (h1 : -62135596800 ≤ a) (h2 : a < b) (h3 : b ≤ 253402300800) (h4 : b - a ≤ 1262500000) (hz : Blk w Bz (z.cellsL vT vR).toArray 27) :
    Calls Tryz.prog 69 #[z.v vT vR, .agg #[.int .i64 a, .int .i64 b], .func (.func 70) #[] #[.pointer (some ⟨Bz, 0, none⟩)]] w (GapsV z a b w) := by
  have HV := Lib.hid (fun W (hb : Below w.heap.size w W) => Valid_zone z vT vR W (hm.on hb) (hT.on hb) (hR.on hb) hfs (.inl hll))
  have hok : (⟨a, b⟩ : Spn).ok = true := Spn.ok_iff.2 ⟨by dsimp only; omega, by dsimp only; omega, h2⟩
  have hwab : wideA a < wideB b := by unfold wideA wideB; omega
  have HU := Lib.hid (fun l v W n hl hlen hv hn => union_any l ⟨a, b⟩ n v W hok hl hlen hv hn)
  unfold UnionEnd at HU
  have HWD := Lib.hid (fun W => wide_any a b W ⟨by omega, by omega⟩ ⟨by omega, by omega⟩)
  have HIS := Lib.hid (fun W => isSpan_yes a b W h1 h2 h3)
  have HL := Lib.hid (fun hv W (hb : Below w.heap.size w W) => gapL_any z vT vR (wideA a) (wideB b) Bz W (hm.on hb) (hT.on hb) (hR.on hb) hfs hll (mild40 hv htl hll h4) (pcs_of hv hwab) (skips_ok hv hwab) hwab (hz.below hb hz.lt))
  unfold GapEnd at HL
  have HFEW := Lib.hid (fun hv G out (hG : GapsOk (z.pieces (wideA a) (wideB b)) (z.skips (wideA a) (wideB b)) G) (hU : UnionOk ⟨a, b⟩ G out) => show out.length ≤ 2000 from by have h5 := gaps_few (skips_ok hv hwab) hG hU; have h6 := pieces_len (mild40 hv htl hll h4); omega)
  obtain ⟨AT, cT, rfl⟩ := rd_vf hT
  obtain ⟨AR, cR, rfl⟩ := rd_vf hR
  unfold GapsV
  unfold Zn.v at HV ⊢
  clear hT hR hm hz hok hwab
  have b0 := (Blk.new w #[.string z.nm, .int .i64 z.first.off, .int .i64 z.first.sv, .string z.first.nm, .slice AT z.table.length cT, .slice AR z.tail.length cR, .int .i64 z.off, .string z.form, .int .i64 z.year] 27).alloc (.cells #[.int .i64 a, .int .i64 b] 34)
  have b1 := Blk.new (w.alloc (.cells #[.string z.nm, .int .i64 z.first.off, .int .i64 z.first.sv, .string z.first.nm, .slice AT z.table.length cT, .slice AR z.tail.length cR, .int .i64 z.off, .string z.form, .int .i64 z.year] 27)) #[.int .i64 a, .int .i64 b] 34
  rw [World.size_alloc] at b1
  have hB : Below w.heap.size w ((w.alloc (.cells #[.string z.nm, .int .i64 z.first.off, .int .i64 z.first.sv, .string z.first.nm, .slice AT z.table.length cT, .slice AR z.tail.length cR, .int .i64 z.off, .string z.form, .int .i64 z.year] 27)).alloc (.cells #[.int .i64 a, .int .i64 b] 34)) := ((Below.refl _ _).alloc (Nat.le_refl _) _).alloc (by simp) _
  go_enter Tryz.func69, Tryz.ntmps69
  go_wp2_with fail
  generalize ((w.alloc (.cells #[.string z.nm, .int .i64 z.first.off, .int .i64 z.first.sv, .string z.first.nm, .slice AT z.table.length cT, .slice AR z.tail.length cR, .int .i64 z.off, .string z.form, .int .i64 z.year] 27)).alloc (.cells #[.int .i64 a, .int .i64 b] 34)) = W at *
  have hw := hB.size
  have z0 := b0.cl 0 _ rfl
  have z1 := b0.cl 1 _ rfl
  have z2 := b0.cl 2 _ rfl
  have z3 := b0.cl 3 _ rfl
  have z4 := b0.cl 4 _ rfl
  have z5 := b0.cl 5 _ rfl
  have z6 := b0.cl 6 _ rfl
  have z7 := b0.cl 7 _ rfl
  have z8 := b0.cl 8 _ rfl
  have i0 := b1.cl 0 _ rfl
  have i1 := b1.cl 1 _ rfl
  cases hv : z.valid
  · rw [hv] at HV
    go_wp2_with (go_at_call 35; refine (HV.out W hB).mono ?_; rintro e w3 ⟨rfl, hb3⟩; clear HV)
    go_ret2
    exact ⟨hB.trans (hb3.mono hw), .inl ⟨hv, rfl⟩⟩
  · rw [hv] at HV
    have HL := HL.out hv
    have HFEW := HFEW.out hv
    go_wp2_with (first
      | (go_at_call 35; refine (HV.out W hB).mono ?_; rintro e w3 ⟨rfl, hb3⟩; clear HV; have q1 := b1.below hb3 b1.lt; clear z0 z1 z2 z3 z4 z5 z6 z7 z8 i0 i1; have i0 := q1.cl 0 _ rfl; have i1 := q1.cl 1 _ rfl)
      | (go_at_call 88; refine (HIS.out w3).mono ?_; rintro e w4 ⟨rfl, hb4⟩; clear HIS; have hb4 := hb3.trans (hb4.mono hb3.size); have q2 := b1.below hb4 b1.lt; clear i0 i1; have i0 := q2.cl 0 _ rfl; have i1 := q2.cl 1 _ rfl))
    have hw4 := hb4.size
    have HBW := Lib.hid (fun W' (h : Below w4.heap.size w4 W') => show Below w.heap.size w W' from (hB.trans (hb4.mono hw)).trans (h.mono (by omega)))
    have hq4 := q2.lt
    have HS := Lib.hid (fun w' (hb : Below w4.heap.size w4 w') => And.intro hb (And.intro ((hb.cell (p := ⟨w.heap.size + 1, 0, none⟩) hq4).trans i0) ((hb.cell (p := ⟨w.heap.size + 1, 1, none⟩) hq4).trans i1)))
    have hdr : Below w4.heap.size w4 w4.drew := below_drewN (Below.refl w4.heap.size w4) 1
    have HL := Lib.hid HL
    have HFEW := Lib.hid HFEW
    go_wp2_with fail
    go_region_held3 (fun w' => Below w4.heap.size w4 w' ∧ w'.cell? ⟨w.heap.size + 1, 0, none⟩ = some (.int .i64 a) ∧ w'.cell? ⟨w.heap.size + 1, 1, none⟩ = some (.int .i64 b)) (first | exact HS.out _ hdr | exact HS.out _ K7 | exact HS.out _ K6 | exact HS.out _ K5 | go_keep)
      (first | (go_at_call 67; refine (HWD.out _).mono ?_; rintro e w5 ⟨rfl, hb5⟩; have K5 : Below w4.heap.size w4 w5 := hdr.trans (hb5.mono hdr.size); clear HWD) | (go_at_call 70; refine (HL.out w5 (HBW.out w5 K5)).mono ?_; rintro e w6 ⟨v6, G, rfl, hr6, hG, hGl, hb6⟩; have K6 : Below w4.heap.size w4 w6 := K5.trans (hb6.mono K5.size); clear HL) | (go_at_call 90; refine (HU.out G v6 w6 w5.heap.size hG.ok hGl hr6 hb6.size).mono ?_; rintro e w7 ⟨out, u, hUO, hb7, hd⟩; have hlen := HFEW.out G out hG hUO; have hd2 := hd.resolve_right (fun h => by omega); obtain ⟨_, rfl, hr7⟩ := hd2; have K7 : Below w4.heap.size w4 w7 := K6.trans (hb7.mono K5.size); clear HU))
    have hs5 := K5.size
    go_wp2
    go_ret2
    exact ⟨HBW.out _ K7, .inr ⟨hv, G, out, u, hG, hUO, hlen, rfl, own_base hr7 (by omega)⟩⟩

set_option maxRecDepth 100000 in
set_option maxHeartbeats 8000000 in
theorem marked_folds (z : Zn) (vT vR : Value) (a b : Int) (Bz : Nat) (w : World) (hm : HasMax w) (hT : Rd Trn.cells 4 w vT z.table) (hR : Rd Rule.cells 11 w vR z.tail) (hfs : z.form.size < 4294967281) (hll : z.tail.length ≤ 12) (htl : z.table.length ≤ 300) (h1 : -62135596800 ≤ a) (h2 : a < b) (h3 : b ≤ 253402300800) (h4 : b - a ≤ 1262500000) (hz : Blk w Bz (z.cellsL vT vR).toArray 27) :
    Calls Tryz.prog 69 #[z.v vT vR, .agg #[.int .i64 a, .int .i64 b], .func (.func 73) #[] #[.pointer (some ⟨Bz, 0, none⟩)]] w (FoldsV z a b w) := by
  have HV := Lib.hid (fun W (hb : Below w.heap.size w W) => Valid_zone z vT vR W (hm.on hb) (hT.on hb) (hR.on hb) hfs (.inl hll))
  have hok : (⟨a, b⟩ : Spn).ok = true := Spn.ok_iff.2 ⟨by dsimp only; omega, by dsimp only; omega, h2⟩
  have hwab : wideA a < wideB b := by unfold wideA wideB; omega
  have HU := Lib.hid (fun l v W n hl hlen hv hn => union_any l ⟨a, b⟩ n v W hok hl hlen hv hn)
  unfold UnionEnd at HU
  have HWD := Lib.hid (fun W => wide_any a b W ⟨by omega, by omega⟩ ⟨by omega, by omega⟩)
  have HIS := Lib.hid (fun W => isSpan_yes a b W h1 h2 h3)
  have HL := Lib.hid (fun hv W (hb : Below w.heap.size w W) => foldL_any z vT vR (wideA a) (wideB b) Bz W (hm.on hb) (hT.on hb) (hR.on hb) hfs hll (mild40 hv htl hll h4) (pcs_of hv hwab) (hz.below hb hz.lt))
  unfold FoldEnd at HL
  have HFEW := Lib.hid (fun hv G out (hG : FoldsOk (z.pieces (wideA a) (wideB b)) (pairsN (z.pieces (wideA a) (wideB b)).length) G) (hU : UnionOk ⟨a, b⟩ G out) => show out.length ≤ 2000 from by have h5 := folds_few hG hU; have h6 := pieces_len (mild40 hv htl hll h4); omega)
  obtain ⟨AT, cT, rfl⟩ := rd_vf hT
  obtain ⟨AR, cR, rfl⟩ := rd_vf hR
  unfold FoldsV
  unfold Zn.v at HV ⊢
  clear hT hR hm hz hok hwab
  have b0 := (Blk.new w #[.string z.nm, .int .i64 z.first.off, .int .i64 z.first.sv, .string z.first.nm, .slice AT z.table.length cT, .slice AR z.tail.length cR, .int .i64 z.off, .string z.form, .int .i64 z.year] 27).alloc (.cells #[.int .i64 a, .int .i64 b] 34)
  have b1 := Blk.new (w.alloc (.cells #[.string z.nm, .int .i64 z.first.off, .int .i64 z.first.sv, .string z.first.nm, .slice AT z.table.length cT, .slice AR z.tail.length cR, .int .i64 z.off, .string z.form, .int .i64 z.year] 27)) #[.int .i64 a, .int .i64 b] 34
  rw [World.size_alloc] at b1
  have hB : Below w.heap.size w ((w.alloc (.cells #[.string z.nm, .int .i64 z.first.off, .int .i64 z.first.sv, .string z.first.nm, .slice AT z.table.length cT, .slice AR z.tail.length cR, .int .i64 z.off, .string z.form, .int .i64 z.year] 27)).alloc (.cells #[.int .i64 a, .int .i64 b] 34)) := ((Below.refl _ _).alloc (Nat.le_refl _) _).alloc (by simp) _
  go_enter Tryz.func69, Tryz.ntmps69
  go_wp2_with fail
  generalize ((w.alloc (.cells #[.string z.nm, .int .i64 z.first.off, .int .i64 z.first.sv, .string z.first.nm, .slice AT z.table.length cT, .slice AR z.tail.length cR, .int .i64 z.off, .string z.form, .int .i64 z.year] 27)).alloc (.cells #[.int .i64 a, .int .i64 b] 34)) = W at *
  have hw := hB.size
  have z0 := b0.cl 0 _ rfl
  have z1 := b0.cl 1 _ rfl
  have z2 := b0.cl 2 _ rfl
  have z3 := b0.cl 3 _ rfl
  have z4 := b0.cl 4 _ rfl
  have z5 := b0.cl 5 _ rfl
  have z6 := b0.cl 6 _ rfl
  have z7 := b0.cl 7 _ rfl
  have z8 := b0.cl 8 _ rfl
  have i0 := b1.cl 0 _ rfl
  have i1 := b1.cl 1 _ rfl
  cases hv : z.valid
  · rw [hv] at HV
    go_wp2_with (go_at_call 35; refine (HV.out W hB).mono ?_; rintro e w3 ⟨rfl, hb3⟩; clear HV)
    go_ret2
    exact ⟨hB.trans (hb3.mono hw), .inl ⟨hv, rfl⟩⟩
  · rw [hv] at HV
    have HL := HL.out hv
    have HFEW := HFEW.out hv
    go_wp2_with (first
      | (go_at_call 35; refine (HV.out W hB).mono ?_; rintro e w3 ⟨rfl, hb3⟩; clear HV; have q1 := b1.below hb3 b1.lt; clear z0 z1 z2 z3 z4 z5 z6 z7 z8 i0 i1; have i0 := q1.cl 0 _ rfl; have i1 := q1.cl 1 _ rfl)
      | (go_at_call 88; refine (HIS.out w3).mono ?_; rintro e w4 ⟨rfl, hb4⟩; clear HIS; have hb4 := hb3.trans (hb4.mono hb3.size); have q2 := b1.below hb4 b1.lt; clear i0 i1; have i0 := q2.cl 0 _ rfl; have i1 := q2.cl 1 _ rfl))
    have hw4 := hb4.size
    have HBW := Lib.hid (fun W' (h : Below w4.heap.size w4 W') => show Below w.heap.size w W' from (hB.trans (hb4.mono hw)).trans (h.mono (by omega)))
    have hq4 := q2.lt
    have HS := Lib.hid (fun w' (hb : Below w4.heap.size w4 w') => And.intro hb (And.intro ((hb.cell (p := ⟨w.heap.size + 1, 0, none⟩) hq4).trans i0) ((hb.cell (p := ⟨w.heap.size + 1, 1, none⟩) hq4).trans i1)))
    have hdr : Below w4.heap.size w4 w4.drew := below_drewN (Below.refl w4.heap.size w4) 1
    have HL := Lib.hid HL
    have HFEW := Lib.hid HFEW
    go_wp2_with fail
    go_region_held3 (fun w' => Below w4.heap.size w4 w' ∧ w'.cell? ⟨w.heap.size + 1, 0, none⟩ = some (.int .i64 a) ∧ w'.cell? ⟨w.heap.size + 1, 1, none⟩ = some (.int .i64 b)) (first | exact HS.out _ hdr | exact HS.out _ K7 | exact HS.out _ K6 | exact HS.out _ K5 | go_keep)
      (first | (go_at_call 67; refine (HWD.out _).mono ?_; rintro e w5 ⟨rfl, hb5⟩; have K5 : Below w4.heap.size w4 w5 := hdr.trans (hb5.mono hdr.size); clear HWD) | (go_at_call 73; refine (HL.out w5 (HBW.out w5 K5)).mono ?_; rintro e w6 ⟨v6, G, rfl, hr6, hG, hGl, hb6⟩; have K6 : Below w4.heap.size w4 w6 := K5.trans (hb6.mono K5.size); clear HL) | (go_at_call 90; refine (HU.out G v6 w6 w5.heap.size hG.ok hGl hr6 hb6.size).mono ?_; rintro e w7 ⟨out, u, hUO, hb7, hd⟩; have hlen := HFEW.out G out hG hUO; have hd2 := hd.resolve_right (fun h => by omega); obtain ⟨_, rfl, hr7⟩ := hd2; have K7 : Below w4.heap.size w4 w7 := K6.trans (hb7.mono K5.size); clear HU))
    have hs5 := K5.size
    go_wp2
    go_ret2
    exact ⟨HBW.out _ K7, .inr ⟨hv, G, out, u, hG, hUO, hlen, rfl, own_base hr7 (by omega)⟩⟩

set_option maxRecDepth 100000 in
set_option maxHeartbeats 4000000 in
theorem Gaps_any (z : Zn) (vT vR : Value) (a b : Int) (w : World) (hm : HasMax w) (hT : Rd Trn.cells 4 w vT z.table) (hR : Rd Rule.cells 11 w vR z.tail) (hfs : z.form.size < 4294967281) (hll : z.tail.length ≤ 12) (htl : z.table.length ≤ 300) (h1 : -62135596800 ≤ a) (h2 : a < b) (h3 : b ≤ 253402300800) (h4 : b - a ≤ 1262500000) :
    Calls Tryz.prog 31 #[z.v vT vR, .agg #[.int .i64 a, .int .i64 b]] w (GapsV z a b w) := by
  have HMK := Lib.hid (fun Bz W (hb : Below w.heap.size w W) hz => marked_gaps z vT vR a b Bz W (hm.on hb) (hT.on hb) (hR.on hb) hfs hll htl h1 h2 h3 h4 hz)
  obtain ⟨AT, cT, rfl⟩ := rd_vf hT
  obtain ⟨AR, cR, rfl⟩ := rd_vf hR
  unfold GapsV at HMK ⊢
  unfold Zn.v at HMK ⊢
  unfold Zn.cellsL at HMK
  clear hT hR hm
  have b0 := (Blk.new w #[.string z.nm, .int .i64 z.first.off, .int .i64 z.first.sv, .string z.first.nm, .slice AT z.table.length cT, .slice AR z.tail.length cR, .int .i64 z.off, .string z.form, .int .i64 z.year] 27).alloc (.cells #[.int .i64 a, .int .i64 b] 34)
  have b1 := Blk.new (w.alloc (.cells #[.string z.nm, .int .i64 z.first.off, .int .i64 z.first.sv, .string z.first.nm, .slice AT z.table.length cT, .slice AR z.tail.length cR, .int .i64 z.off, .string z.form, .int .i64 z.year] 27)) #[.int .i64 a, .int .i64 b] 34
  rw [World.size_alloc] at b1
  have hB : Below w.heap.size w ((w.alloc (.cells #[.string z.nm, .int .i64 z.first.off, .int .i64 z.first.sv, .string z.first.nm, .slice AT z.table.length cT, .slice AR z.tail.length cR, .int .i64 z.off, .string z.form, .int .i64 z.year] 27)).alloc (.cells #[.int .i64 a, .int .i64 b] 34)) := ((Below.refl _ _).alloc (Nat.le_refl _) _).alloc (by simp) _
  go_enter Tryz.func31, Tryz.ntmps31
  go_wp2_with fail
  generalize ((w.alloc (.cells #[.string z.nm, .int .i64 z.first.off, .int .i64 z.first.sv, .string z.first.nm, .slice AT z.table.length cT, .slice AR z.tail.length cR, .int .i64 z.off, .string z.form, .int .i64 z.year] 27)).alloc (.cells #[.int .i64 a, .int .i64 b] 34)) = W at *
  have hw := hB.size
  have z0 := b0.cl 0 _ rfl
  have z1 := b0.cl 1 _ rfl
  have z2 := b0.cl 2 _ rfl
  have z3 := b0.cl 3 _ rfl
  have z4 := b0.cl 4 _ rfl
  have z5 := b0.cl 5 _ rfl
  have z6 := b0.cl 6 _ rfl
  have z7 := b0.cl 7 _ rfl
  have z8 := b0.cl 8 _ rfl
  have i0 := b1.cl 0 _ rfl
  have i1 := b1.cl 1 _ rfl
  go_wp2_with fail
  refine (HMK.out w.heap.size W hB b0).mono ?_
  rintro e w3 ⟨hb3, ⟨hv, rfl⟩ | ⟨hv, G, out, u, hG, hUO, hlen, rfl, hr3⟩⟩
  · go_wp2
    go_ret2
    exact ⟨hB.trans (hb3.mono hw), .inl ⟨hv, rfl⟩⟩
  · have HR := Lib.hid (own_base hr3 hw)
    clear hr3
    go_wp2
    go_ret2
    exact ⟨hB.trans (hb3.mono hw), .inr ⟨hv, G, out, u, hG, hUO, hlen, rfl, HR.out⟩⟩

set_option maxRecDepth 100000 in
set_option maxHeartbeats 4000000 in
theorem Folds_any (z : Zn) (vT vR : Value) (a b : Int) (w : World) (hm : HasMax w) (hT : Rd Trn.cells 4 w vT z.table) (hR : Rd Rule.cells 11 w vR z.tail) (hfs : z.form.size < 4294967281) (hll : z.tail.length ≤ 12) (htl : z.table.length ≤ 300) (h1 : -62135596800 ≤ a) (h2 : a < b) (h3 : b ≤ 253402300800) (h4 : b - a ≤ 1262500000) :
    Calls Tryz.prog 32 #[z.v vT vR, .agg #[.int .i64 a, .int .i64 b]] w (FoldsV z a b w) := by
  have HMK := Lib.hid (fun Bz W (hb : Below w.heap.size w W) hz => marked_folds z vT vR a b Bz W (hm.on hb) (hT.on hb) (hR.on hb) hfs hll htl h1 h2 h3 h4 hz)
  obtain ⟨AT, cT, rfl⟩ := rd_vf hT
  obtain ⟨AR, cR, rfl⟩ := rd_vf hR
  unfold FoldsV at HMK ⊢
  unfold Zn.v at HMK ⊢
  unfold Zn.cellsL at HMK
  clear hT hR hm
  have b0 := (Blk.new w #[.string z.nm, .int .i64 z.first.off, .int .i64 z.first.sv, .string z.first.nm, .slice AT z.table.length cT, .slice AR z.tail.length cR, .int .i64 z.off, .string z.form, .int .i64 z.year] 27).alloc (.cells #[.int .i64 a, .int .i64 b] 34)
  have b1 := Blk.new (w.alloc (.cells #[.string z.nm, .int .i64 z.first.off, .int .i64 z.first.sv, .string z.first.nm, .slice AT z.table.length cT, .slice AR z.tail.length cR, .int .i64 z.off, .string z.form, .int .i64 z.year] 27)) #[.int .i64 a, .int .i64 b] 34
  rw [World.size_alloc] at b1
  have hB : Below w.heap.size w ((w.alloc (.cells #[.string z.nm, .int .i64 z.first.off, .int .i64 z.first.sv, .string z.first.nm, .slice AT z.table.length cT, .slice AR z.tail.length cR, .int .i64 z.off, .string z.form, .int .i64 z.year] 27)).alloc (.cells #[.int .i64 a, .int .i64 b] 34)) := ((Below.refl _ _).alloc (Nat.le_refl _) _).alloc (by simp) _
  go_enter Tryz.func32, Tryz.ntmps32
  go_wp2_with fail
  generalize ((w.alloc (.cells #[.string z.nm, .int .i64 z.first.off, .int .i64 z.first.sv, .string z.first.nm, .slice AT z.table.length cT, .slice AR z.tail.length cR, .int .i64 z.off, .string z.form, .int .i64 z.year] 27)).alloc (.cells #[.int .i64 a, .int .i64 b] 34)) = W at *
  have hw := hB.size
  have z0 := b0.cl 0 _ rfl
  have z1 := b0.cl 1 _ rfl
  have z2 := b0.cl 2 _ rfl
  have z3 := b0.cl 3 _ rfl
  have z4 := b0.cl 4 _ rfl
  have z5 := b0.cl 5 _ rfl
  have z6 := b0.cl 6 _ rfl
  have z7 := b0.cl 7 _ rfl
  have z8 := b0.cl 8 _ rfl
  have i0 := b1.cl 0 _ rfl
  have i1 := b1.cl 1 _ rfl
  go_wp2_with fail
  refine (HMK.out w.heap.size W hB b0).mono ?_
  rintro e w3 ⟨hb3, ⟨hv, rfl⟩ | ⟨hv, G, out, u, hG, hUO, hlen, rfl, hr3⟩⟩
  · go_wp2
    go_ret2
    exact ⟨hB.trans (hb3.mono hw), .inl ⟨hv, rfl⟩⟩
  · have HR := Lib.hid (own_base hr3 hw)
    clear hr3
    go_wp2
    go_ret2
    exact ⟨hB.trans (hb3.mono hw), .inr ⟨hv, G, out, u, hG, hUO, hlen, rfl, HR.out⟩⟩

end Go.Proofs.YtdpkolnfbimheaaGreat

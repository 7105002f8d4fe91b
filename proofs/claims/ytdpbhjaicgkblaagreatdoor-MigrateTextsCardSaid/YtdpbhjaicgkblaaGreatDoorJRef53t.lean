/- The reference of layer 53: Text. Printed by gen_ref53t.py. -/
import Derived.Test.YtdpbhjaicgkblaaGreatDoorGR5
import Derived.Test.YtdpbhjaicgkblaaGreatDoorJRef33m
import Derived.Test.YtdpbhjaicgkblaaGreatDoorJTxV
namespace Go.Proofs.YtdpbhjaicgkblaaGreatDoor
set_option linter.unusedSimpArgs false
set_option linter.unusedVariables false
open Go.ChangeShapes Go.WideShapes Go.ChangeAt Go.RowKit Go.Sort Go.Lib
theorem r33_ins (t : Int) (ht : insT t = true) : ∃ M, M.size = 19 ∧ M ++ ⟨#[90]⟩ = insS t ∧ ∀ W, Calls Tryz.prog 32 #[.int .i64 t] W fun e w' => e = .returned (.string M) ∧ Below W.heap.size W w' := by
 have k := insS_is t
 unfold InsTxt at k
 rw [if_pos ht] at k
 obtain ⟨y, m, d, hv, hc, e⟩ := k
 have hb : -62135596800 ≤ t ∧ t < 253402300800 := by
  unfold insT at ht
  simpa using ht
 exact ⟨_, momT_size _ _ _ _ _ _, e.symm, fun W => r33_moment t hb y m d hv hc W⟩
theorem em_app (a : ByteArray) : (⟨#[]⟩ : ByteArray) ++ a = a := by
 apply ByteArray.ext
 simp [ByteArray.data_append]
set_option maxRecDepth 100000 in
set_option maxHeartbeats 8000000 in
theorem r53_Text (E : List Ent) (vE : Value) (C : List Mig) (vC : Value) (w : World) (hE : Rd encEn 6 w vE E) (hC : Rd encM 4 w vC C) (hel : E.length ≤ 1000) (hcl : C.length ≤ 1000) : Calls Tryz.prog 7 #[vE, vC] w fun e w' => e = .returned (.tuple #[.string (textV E C).1, .int .i64 (textV E C).2]) ∧ Below w.heap.size w w' := by
 have HV := Lib.hid (fun W (hb : Below w.heap.size w W) => r53_Valid E vE W (hE.on hb) hel)
 have HRE := Lib.hid hE
 have HRC := Lib.hid hC
 have HI := Lib.hid (fun t W => r25_Instant t W)
 suffices HPOST : ∀ Post : Ending → World → Prop, Hid (∀ w', Below w.heap.size w w' → Post (.returned (.tuple #[.string (textV E C).1, .int .i64 (textV E C).2])) w') → Calls Tryz.prog 7 #[vE, vC] w Post from HPOST _ (Lib.hid fun w' h => ⟨rfl, h⟩)
 intro Post HP
 obtain ⟨AE, cE, rfl⟩ := rd_vf hE
 obtain ⟨AC, cC, rfl⟩ := rd_vf hC
 clear hE hC
 cases hok : okEs E
 ·have HN := Lib.hid (fun w' h => textV_no (C := C) (.inl hok) ▸ HP.out w' h)
  rw [hok] at HV
  clear hok HP HRE HRC HI
  go_enter Tryz.func7, Tryz.ntmps7
  go_wp2_with fail
  refine (HV.out _ (Below.refl _ _)).mono ?_
  rintro e w1 ⟨rfl, hb1⟩
  go_wp2
  exact HN.out _ hb1
 rw [hok] at HV
 have HN := Lib.hid (fun (h : okMs E C C.length = false ∨ wrF C C.length = true) w' hw => textV_no (E := E) (C := C) (.inr (.inr h)) ▸ HP.out w' hw)
 have HY := Lib.hid (fun h1 h2 w' hw => textV_ok (E := E) (C := C) hok hcl h1 h2 ▸ HP.out w' hw)
 have HSZ := Lib.hid (fun k => txsF_size (C := C) hok k)
 have HNM := Lib.hid (fun i (h : i < E.length) => ok_name hok h)
 have HS1 := Lib.hid (fun k => show okMs E C (k + 1) = (okMs E C k && okM E C[k]!) from rfl)
 have HS2 := Lib.hid (fun k => show wrF C (k + 1) = ((wrF C k || oldW C[k]!) || newW C[k]!) from rfl)
 have HS3 := Lib.hid (fun k => show txsF E C (k + 1) = txsF E C k ++ rowT E C[k]! from rfl)
 have HM1 := Lib.hid (fun k (h : k + 1 ≤ C.length) => okMs_le E C h)
 have HM2 := Lib.hid (fun k (h : k + 1 ≤ C.length) => wrF_le C h)
 have dcl : decide ((1000 : Int) < (C.length : Int)) = false := decide_eq_false (by omega)
 clear hok HP
 go_enter Tryz.func7, Tryz.ntmps7
 go_wp2_with fail
 refine (HV.out _ (Below.refl _ _)).mono ?_
 rintro e w1 ⟨rfl, hb1⟩
 go_wp2
 have bw := Blk.new w1 #[.string ⟨#[]⟩, .string ⟨#[109, 111, 118, 101, 100]⟩, .string ⟨#[103, 111, 110, 101]⟩, .string ⟨#[97, 112, 112, 101, 97, 114, 101, 100]⟩] 9
 have hB1 := hb1.alloc hb1.size (.cells #[.string ⟨#[]⟩, .string ⟨#[109, 111, 118, 101, 100]⟩, .string ⟨#[103, 111, 110, 101]⟩, .string ⟨#[97, 112, 112, 101, 97, 114, 101, 100]⟩] 9)
 generalize hqw : w1.heap.size = qw at *
 generalize w1.alloc (.cells #[.string ⟨#[]⟩, .string ⟨#[109, 111, 118, 101, 100]⟩, .string ⟨#[103, 111, 110, 101]⟩, .string ⟨#[97, 112, 112, 101, 97, 114, 101, 100]⟩] 9) = W at *
 clear hqw hb1 HV
 have hql := bw.lt
 go_loopw [6, 8] (fun v6 v8 wr => ∃ k : Nat, k ≤ C.length ∧ v8 = .int .i64 k ∧ Hid (okMs E C k = true) ∧ Hid (wrF C k = false) ∧ v6 = .string (txsF E C k) ∧ Below W.heap.size W wr) (fun _ v8 _ => C.length - (intOf v8).toNat)
 case atStart => exact ⟨0, Nat.zero_le _, rfl, rfl, rfl, rfl, Below.refl _ _⟩
 case round =>
  obtain ⟨k, hkl, rfl, HK1, HK2, rfl, hbr⟩ := hrel
  have hbw := hB1.trans (hbr.mono hB1.size)
  by_cases hlt : k < C.length
  ·obtain ⟨g, off, hA, hg, hcg⟩ : ∃ g off, AC = some ⟨g, off, none⟩ ∧ g < wr.heap.size ∧ ∀ i u, (encM C[k]!)[i]? = some u → wr.cell? ⟨g, off + k * 4 + i, none⟩ = some u := by
    rcases HRC.out.on hbw with ⟨e, _⟩ | ⟨g, off, c2, hv, hg, hc⟩
    ·rw [e] at hlt; simp at hlt
    ·injection hv with e1 _ _
     exact ⟨g, off, e1, hg, fun i u hu => hc k hlt i u hu⟩
   subst hA
   have HEX := Lib.hid (fun (i : Int) (h0 : 0 ≤ i) (h1 : i < (E.length : Int)) => show ∃ g off, AE = some ⟨g, off, none⟩ ∧ g < w.heap.size ∧ ∀ W2, Below w.heap.size w W2 → W2.cell? ⟨g, off + i.toNat * 6, none⟩ = some (.string (E[i.toNat]!).nm) from by
    rcases HRE.out with ⟨e, _⟩ | ⟨g, off, c2, hv, hg, hc⟩
    ·rw [e] at h1; simp at h1; omega
    ·injection hv with e1 _ _
     exact ⟨g, off, e1, hg, fun W2 hb => (hb.cell (p := ⟨g, off + i.toNat * 6, none⟩) hg).trans (hc i.toNat (by omega) 0 _ rfl)⟩)
   have hs1 := HS1.out k
   have hs2 := HS2.out k
   have HS3 := Lib.hid (HS3.out k)
   rw [HK1.out, Bool.true_and] at hs1
   rw [HK2.out, Bool.false_or] at hs2
   have HN1 := Lib.hid (fun (h : okM E C[k]! = false) => HN.out (.inl (HM1.out k hlt (hs1.trans h))))
   have HN2 := Lib.hid (fun (h : (oldW C[k]! || newW C[k]!) = true) => HN.out (.inr (HM2.out k hlt (hs2.trans h))))
   have hsz := HSZ.out k HK1.out
   have HS1 := Lib.hid hs1
   have HS2 := Lib.hid hs2
   clear HM1 HM2 HN hs1 hs2 HSZ HRE HK1 HK2
   generalize txsF E C k = S at *
   have e0 := hcg 0 _ rfl
   have e1 := hcg 1 _ rfl
   have e2 := hcg 2 _ rfl
   have e3 := hcg 3 _ rfl
   rw [Nat.add_zero] at e0
   generalize C[k]! = x at *
   obtain ⟨en, kd, od, nw⟩ := x
   dsimp only at e0 e1 e2 e3
   have bx := Blk.new wr #[.int .i64 en, .int .i64 kd, .int .i64 od, .int .i64 nw] 46
   have hbx := hbr.alloc hbr.size (.cells #[.int .i64 en, .int .i64 kd, .int .i64 od, .int .i64 nw] 46)
   have x0 := bx.cell 0 rfl
   have x1 := bx.cell 1 rfl
   have x2 := bx.cell 2 rfl
   have x3 := bx.cell 3 rfl
   have xl := bx.lt
   clear hcg
   by_cases h0 : en < 0
   ·have d0 := decide_eq_true h0
    go_wp2
    exact HN1.out (by unfold okM; simp; omega) _ (hB1.trans (hbx.mono hB1.size))
   have d0 := decide_eq_false h0
   by_cases h1 : (E.length : Int) ≤ en
   ·have d1 := decide_eq_true h1
    go_wp2
    exact HN1.out (by unfold okM; simp; omega) _ (hB1.trans (hbx.mono hB1.size))
   have d1 := decide_eq_false h1
   by_cases h2 : kd < 1
   ·have d2 := decide_eq_true h2
    go_wp2
    exact HN1.out (by unfold okM; simp; omega) _ (hB1.trans (hbx.mono hB1.size))
   have d2 := decide_eq_false h2
   by_cases h3 : 3 < kd
   ·have d3 := decide_eq_true h3
    go_wp2
    exact HN1.out (by unfold okM; simp; omega) _ (hB1.trans (hbx.mono hB1.size))
   have d3 := decide_eq_false h3
   rcases (show kd = 1 ∨ kd = 2 ∨ kd = 3 by omega) with rfl | rfl | rfl
   ·skip
    cases hio : insT od
    ·have HIO := Lib.hid hio
     clear hio
     go_wp2_with (go_at_call 31; refine (HI.out _ _).mono ?_; rintro e w9 ⟨rfl, rfl⟩; rw [HIO.out])
     exact HN2.out (by unfold oldW; simp [HIO.out]) _ (hB1.trans (hbx.mono hB1.size))
    have HIO := Lib.hid hio
    cases hin : insT nw
    ·have HIN := Lib.hid hin
     clear hin
     clear hio
     go_wp2_with (go_at_call 31; refine (HI.out _ _).mono ?_; rintro e w9 ⟨rfl, rfl⟩; first | rw [HIO.out] | rw [HIN.out])
     exact HN2.out (by unfold newW; simp [HIN.out]) _ (hB1.trans (hbx.mono hB1.size))
    have HIN := Lib.hid hin
    obtain ⟨M1, hz1, hM1, HC1⟩ := r33_ins od hio
    have HC1 := Lib.hid HC1
    obtain ⟨M2, hz2, hM2, HC2⟩ := r33_ins nw hin
    have HC2 := Lib.hid HC2
    have hnmz := HNM.out en.toNat (by omega)
    obtain ⟨ge, oe, hAE, hge, hce⟩ := HEX.out en (by omega) (by omega)
    subst hAE
    have HT : Hid (txsF E C (k + 1) = S ++ (E[en.toNat]!).nm ++ ⟨#[32]⟩ ++ ⟨#[109, 111, 118, 101, 100]⟩ ++ ⟨#[32]⟩ ++ M1 ++ ⟨#[90]⟩ ++ ⟨#[32]⟩ ++ M2 ++ ⟨#[90]⟩ ++ ⟨#[10]⟩) := by
     show _ = _
     rw [HS3.out]
     unfold rowT headT oldT newT spI wordF
     simp only [← hM1, ← hM2]
     simp [ByteArray.append_assoc, em_app]
    have HO := Lib.hid (HS1.out.trans (show okM E _ = true by unfold okM; simp; omega))
    have HW := Lib.hid (HS2.out.trans (show (oldW _ || newW _) = false by unfold oldW newW; simp [HIO.out, HIN.out]))
    clear HN1 HN2 HS1 HS2 HS3 HEX HNM hM1 hM2
    generalize (E[en.toNat]!).nm = nm at *
    have hc0 := hce _ (hB1.trans (hbx.mono hB1.size))
    have w0 := bw.below hbx hql
    have y1 := w0.cell 1 rfl
    have yl := w0.lt
    go_wp2_with (go_at_call 31; refine (HI.out _ _).mono ?_; rintro e w9 ⟨rfl, rfl⟩; first | rw [HIO.out] | rw [HIN.out])
    generalize hr : wr.heap.size = r at *
    generalize wr.alloc (.cells #[.int .i64 en, .int .i64 1, .int .i64 od, .int .i64 nw] 46) = W1 at *
    clear e0 e1 e2 e3
    have hS0 : W1.drew.cell? ⟨ge, oe + en.toNat * 6, none⟩ = some (.string nm) ∧ W1.drew.cell? ⟨r, 0, none⟩ = some (.int .i64 en) ∧ W1.drew.cell? ⟨r, 1, none⟩ = some (.int .i64 1) ∧ W1.drew.cell? ⟨qw, 1, none⟩ = some (.string ⟨#[109, 111, 118, 101, 100]⟩) := ⟨hc0, x0, x1, y1⟩
    have cz0 : ¬ 9223372036854775807 < S.size + nm.size := by omega
    have cz1 : ¬ 9223372036854775807 < S.size + nm.size + 1 := by omega
    have cz2 : ¬ 9223372036854775807 < S.size + nm.size + 1 + 5 := by omega
    have cw1 : (0 : Int) ≤ 1 := by omega
    clear hc0 x0 x1 x2 x3 y1
    go_region_held3 (fun w' => w'.cell? ⟨ge, oe + en.toNat * 6, none⟩ = some (.string nm) ∧ w'.cell? ⟨r, 0, none⟩ = some (.int .i64 en) ∧ w'.cell? ⟨r, 1, none⟩ = some (.int .i64 1) ∧ w'.cell? ⟨qw, 1, none⟩ = some (.string ⟨#[109, 111, 118, 101, 100]⟩)) (first | exact hS0 | go_keep)
     (fail)
    have bx2 : Blk W1.drew r #[.int .i64 en, .int .i64 1, .int .i64 od, .int .i64 nw] 46 := bx
    have hB2 := hbx.drew
    clear hS0 cz0 cz1 cz2 cw1 bx hbx yl w0 xl hce
    generalize W1.drew = W2 at *
    obtain ⟨s1, hs1⟩ : ∃ s1, S ++ nm ++ ⟨#[32]⟩ ++ ⟨#[109, 111, 118, 101, 100]⟩ = s1 := ⟨_, rfl⟩
    have hz : s1.size ≤ 82100 := by
     rw [← hs1, ByteArray.size_append, ByteArray.size_append, ByteArray.size_append]
     have : (⟨#[32]⟩ : ByteArray).size = 1 := rfl
     have : (⟨#[109, 111, 118, 101, 100]⟩ : ByteArray).size ≤ 8 := by decide
     omega
    rw [hs1] at HT ⊢
    clear hs1
    have x1 := bx2.cell 1 rfl
    have x2 := bx2.cell 2 rfl
    have x3 := bx2.cell 3 rfl
    have xl := bx2.lt
    go_wp2_with fail
    clear x1 x2 x3 xl
    refine (HC1.out _).mono ?_
    rintro e w3 ⟨rfl, hb3⟩
    have bx3 := bx2.below hb3 bx2.lt
    have hB3 := hB2.trans (hb3.mono hB2.size)
    clear hb3 bx2 hB2
    have x1 := bx3.cell 1 rfl
    have x2 := bx3.cell 2 rfl
    have x3 := bx3.cell 3 rfl
    have xl := bx3.lt
    have cz3a : ¬ 9223372036854775807 < s1.size + 1 := by omega
    have cz3b : ¬ 9223372036854775807 < s1.size + 1 + M1.size := by omega
    have cz3c : ¬ 9223372036854775807 < s1.size + 1 + M1.size + 1 := by omega
    go_wp2_with fail
    clear x1 x2 x3 xl
    obtain ⟨s3, hs⟩ : ∃ s3, s1 ++ ⟨#[32]⟩ ++ M1 ++ ⟨#[90]⟩ = s3 := ⟨_, rfl⟩
    have hz : s3.size ≤ 82121 := by
     rw [← hs, ByteArray.size_append, ByteArray.size_append, ByteArray.size_append]
     have : (⟨#[32]⟩ : ByteArray).size = 1 := rfl
     have : (⟨#[90]⟩ : ByteArray).size = 1 := rfl
     omega
    rw [hs] at HT ⊢
    clear hs
    refine (HC2.out _).mono ?_
    rintro e w4 ⟨rfl, hb4⟩
    have bx4 := bx3.below hb4 bx3.lt
    have hB4 := hB3.trans (hb4.mono hB3.size)
    clear hb4 bx3 hB3
    have x1 := bx4.cell 1 rfl
    have x2 := bx4.cell 2 rfl
    have x3 := bx4.cell 3 rfl
    have xl := bx4.lt
    have cz4a : ¬ 9223372036854775807 < s3.size + 1 := by omega
    have cz4b : ¬ 9223372036854775807 < s3.size + 1 + M2.size := by omega
    have cz4c : ¬ 9223372036854775807 < s3.size + 1 + M2.size + 1 := by omega
    have cy : ¬ 9223372036854775807 < s3.size + 1 + M2.size + 1 + 1 := by omega
    go_wp2
    go_roundw
    case rel => exact ⟨k + 1, by omega, by go_num, HO, HW, by rw [HT.out], hB4⟩
    case measure => simp [intOf]; omega
   ·skip
    cases hio : insT od
    ·have HIO := Lib.hid hio
     clear hio
     go_wp2_with (go_at_call 31; refine (HI.out _ _).mono ?_; rintro e w9 ⟨rfl, rfl⟩; rw [HIO.out])
     exact HN2.out (by unfold oldW; simp [HIO.out]) _ (hB1.trans (hbx.mono hB1.size))
    have HIO := Lib.hid hio
    obtain ⟨M1, hz1, hM1, HC1⟩ := r33_ins od hio
    have HC1 := Lib.hid HC1
    have hnmz := HNM.out en.toNat (by omega)
    obtain ⟨ge, oe, hAE, hge, hce⟩ := HEX.out en (by omega) (by omega)
    subst hAE
    have HT : Hid (txsF E C (k + 1) = S ++ (E[en.toNat]!).nm ++ ⟨#[32]⟩ ++ ⟨#[103, 111, 110, 101]⟩ ++ ⟨#[32]⟩ ++ M1 ++ ⟨#[90]⟩ ++ ⟨#[10]⟩) := by
     show _ = _
     rw [HS3.out]
     unfold rowT headT oldT newT spI wordF
     simp only [← hM1]
     simp [ByteArray.append_assoc, em_app]
    have HO := Lib.hid (HS1.out.trans (show okM E _ = true by unfold okM; simp; omega))
    have HW := Lib.hid (HS2.out.trans (show (oldW _ || newW _) = false by unfold oldW newW; simp [HIO.out]))
    clear HN1 HN2 HS1 HS2 HS3 HEX HNM hM1
    generalize (E[en.toNat]!).nm = nm at *
    have hc0 := hce _ (hB1.trans (hbx.mono hB1.size))
    have w0 := bw.below hbx hql
    have y2 := w0.cell 2 rfl
    have yl := w0.lt
    go_wp2_with (go_at_call 31; refine (HI.out _ _).mono ?_; rintro e w9 ⟨rfl, rfl⟩; rw [HIO.out])
    generalize hr : wr.heap.size = r at *
    generalize wr.alloc (.cells #[.int .i64 en, .int .i64 2, .int .i64 od, .int .i64 nw] 46) = W1 at *
    clear e0 e1 e2 e3
    have hS0 : W1.drew.cell? ⟨ge, oe + en.toNat * 6, none⟩ = some (.string nm) ∧ W1.drew.cell? ⟨r, 0, none⟩ = some (.int .i64 en) ∧ W1.drew.cell? ⟨r, 1, none⟩ = some (.int .i64 2) ∧ W1.drew.cell? ⟨qw, 2, none⟩ = some (.string ⟨#[103, 111, 110, 101]⟩) := ⟨hc0, x0, x1, y2⟩
    have cz0 : ¬ 9223372036854775807 < S.size + nm.size := by omega
    have cz1 : ¬ 9223372036854775807 < S.size + nm.size + 1 := by omega
    have cz2 : ¬ 9223372036854775807 < S.size + nm.size + 1 + 4 := by omega
    have cw1 : (0 : Int) ≤ 2 := by omega
    clear hc0 x0 x1 x2 x3 y2
    go_region_held3 (fun w' => w'.cell? ⟨ge, oe + en.toNat * 6, none⟩ = some (.string nm) ∧ w'.cell? ⟨r, 0, none⟩ = some (.int .i64 en) ∧ w'.cell? ⟨r, 1, none⟩ = some (.int .i64 2) ∧ w'.cell? ⟨qw, 2, none⟩ = some (.string ⟨#[103, 111, 110, 101]⟩)) (first | exact hS0 | go_keep)
     (fail)
    have bx2 : Blk W1.drew r #[.int .i64 en, .int .i64 2, .int .i64 od, .int .i64 nw] 46 := bx
    have hB2 := hbx.drew
    clear hS0 cz0 cz1 cz2 cw1 bx hbx yl w0 xl hce
    generalize W1.drew = W2 at *
    obtain ⟨s1, hs1⟩ : ∃ s1, S ++ nm ++ ⟨#[32]⟩ ++ ⟨#[103, 111, 110, 101]⟩ = s1 := ⟨_, rfl⟩
    have hz : s1.size ≤ 82100 := by
     rw [← hs1, ByteArray.size_append, ByteArray.size_append, ByteArray.size_append]
     have : (⟨#[32]⟩ : ByteArray).size = 1 := rfl
     have : (⟨#[103, 111, 110, 101]⟩ : ByteArray).size ≤ 8 := by decide
     omega
    rw [hs1] at HT ⊢
    clear hs1
    have x1 := bx2.cell 1 rfl
    have x2 := bx2.cell 2 rfl
    have x3 := bx2.cell 3 rfl
    have xl := bx2.lt
    go_wp2_with fail
    clear x1 x2 x3 xl
    refine (HC1.out _).mono ?_
    rintro e w3 ⟨rfl, hb3⟩
    have bx3 := bx2.below hb3 bx2.lt
    have hB3 := hB2.trans (hb3.mono hB2.size)
    clear hb3 bx2 hB2
    have x1 := bx3.cell 1 rfl
    have x2 := bx3.cell 2 rfl
    have x3 := bx3.cell 3 rfl
    have xl := bx3.lt
    have cz3a : ¬ 9223372036854775807 < s1.size + 1 := by omega
    have cz3b : ¬ 9223372036854775807 < s1.size + 1 + M1.size := by omega
    have cz3c : ¬ 9223372036854775807 < s1.size + 1 + M1.size + 1 := by omega
    have cy : ¬ 9223372036854775807 < s1.size + 1 + M1.size + 1 + 1 := by omega
    go_wp2
    go_roundw
    case rel => exact ⟨k + 1, by omega, by go_num, HO, HW, by rw [HT.out], hB3⟩
    case measure => simp [intOf]; omega
   ·skip
    cases hin : insT nw
    ·have HIN := Lib.hid hin
     clear hin
     go_wp2_with (go_at_call 31; refine (HI.out _ _).mono ?_; rintro e w9 ⟨rfl, rfl⟩; rw [HIN.out])
     exact HN2.out (by unfold newW; simp [HIN.out]) _ (hB1.trans (hbx.mono hB1.size))
    have HIN := Lib.hid hin
    obtain ⟨M2, hz2, hM2, HC2⟩ := r33_ins nw hin
    have HC2 := Lib.hid HC2
    have hnmz := HNM.out en.toNat (by omega)
    obtain ⟨ge, oe, hAE, hge, hce⟩ := HEX.out en (by omega) (by omega)
    subst hAE
    have HT : Hid (txsF E C (k + 1) = S ++ (E[en.toNat]!).nm ++ ⟨#[32]⟩ ++ ⟨#[97, 112, 112, 101, 97, 114, 101, 100]⟩ ++ ⟨#[32]⟩ ++ M2 ++ ⟨#[90]⟩ ++ ⟨#[10]⟩) := by
     show _ = _
     rw [HS3.out]
     unfold rowT headT oldT newT spI wordF
     simp only [← hM2]
     simp [ByteArray.append_assoc, em_app]
    have HO := Lib.hid (HS1.out.trans (show okM E _ = true by unfold okM; simp; omega))
    have HW := Lib.hid (HS2.out.trans (show (oldW _ || newW _) = false by unfold oldW newW; simp [HIN.out]))
    clear HN1 HN2 HS1 HS2 HS3 HEX HNM hM2
    generalize (E[en.toNat]!).nm = nm at *
    have hc0 := hce _ (hB1.trans (hbx.mono hB1.size))
    have w0 := bw.below hbx hql
    have y3 := w0.cell 3 rfl
    have yl := w0.lt
    go_wp2_with (go_at_call 31; refine (HI.out _ _).mono ?_; rintro e w9 ⟨rfl, rfl⟩; rw [HIN.out])
    generalize hr : wr.heap.size = r at *
    generalize wr.alloc (.cells #[.int .i64 en, .int .i64 3, .int .i64 od, .int .i64 nw] 46) = W1 at *
    clear e0 e1 e2 e3
    have hS0 : W1.drew.cell? ⟨ge, oe + en.toNat * 6, none⟩ = some (.string nm) ∧ W1.drew.cell? ⟨r, 0, none⟩ = some (.int .i64 en) ∧ W1.drew.cell? ⟨r, 1, none⟩ = some (.int .i64 3) ∧ W1.drew.cell? ⟨qw, 3, none⟩ = some (.string ⟨#[97, 112, 112, 101, 97, 114, 101, 100]⟩) := ⟨hc0, x0, x1, y3⟩
    have cz0 : ¬ 9223372036854775807 < S.size + nm.size := by omega
    have cz1 : ¬ 9223372036854775807 < S.size + nm.size + 1 := by omega
    have cz2 : ¬ 9223372036854775807 < S.size + nm.size + 1 + 8 := by omega
    have cw1 : (0 : Int) ≤ 3 := by omega
    clear hc0 x0 x1 x2 x3 y3
    go_region_held3 (fun w' => w'.cell? ⟨ge, oe + en.toNat * 6, none⟩ = some (.string nm) ∧ w'.cell? ⟨r, 0, none⟩ = some (.int .i64 en) ∧ w'.cell? ⟨r, 1, none⟩ = some (.int .i64 3) ∧ w'.cell? ⟨qw, 3, none⟩ = some (.string ⟨#[97, 112, 112, 101, 97, 114, 101, 100]⟩)) (first | exact hS0 | go_keep)
     (fail)
    have bx2 : Blk W1.drew r #[.int .i64 en, .int .i64 3, .int .i64 od, .int .i64 nw] 46 := bx
    have hB2 := hbx.drew
    clear hS0 cz0 cz1 cz2 cw1 bx hbx yl w0 xl hce
    generalize W1.drew = W2 at *
    obtain ⟨s1, hs1⟩ : ∃ s1, S ++ nm ++ ⟨#[32]⟩ ++ ⟨#[97, 112, 112, 101, 97, 114, 101, 100]⟩ = s1 := ⟨_, rfl⟩
    have hz : s1.size ≤ 82100 := by
     rw [← hs1, ByteArray.size_append, ByteArray.size_append, ByteArray.size_append]
     have : (⟨#[32]⟩ : ByteArray).size = 1 := rfl
     have : (⟨#[97, 112, 112, 101, 97, 114, 101, 100]⟩ : ByteArray).size ≤ 8 := by decide
     omega
    rw [hs1] at HT ⊢
    clear hs1
    have x1 := bx2.cell 1 rfl
    have x2 := bx2.cell 2 rfl
    have x3 := bx2.cell 3 rfl
    have xl := bx2.lt
    go_wp2_with fail
    clear x1 x2 x3 xl
    refine (HC2.out _).mono ?_
    rintro e w3 ⟨rfl, hb3⟩
    have bx3 := bx2.below hb3 bx2.lt
    have hB3 := hB2.trans (hb3.mono hB2.size)
    clear hb3 bx2 hB2
    have x1 := bx3.cell 1 rfl
    have x2 := bx3.cell 2 rfl
    have x3 := bx3.cell 3 rfl
    have xl := bx3.lt
    have cz3a : ¬ 9223372036854775807 < s1.size + 1 := by omega
    have cz3b : ¬ 9223372036854775807 < s1.size + 1 + M2.size := by omega
    have cz3c : ¬ 9223372036854775807 < s1.size + 1 + M2.size + 1 := by omega
    have cy : ¬ 9223372036854775807 < s1.size + 1 + M2.size + 1 + 1 := by omega
    go_wp2
    go_roundw
    case rel => exact ⟨k + 1, by omega, by go_num, HO, HW, by rw [HT.out], hB3⟩
    case measure => simp [intOf]; omega
  ·obtain rfl : k = C.length := by omega
   have HE := Lib.hid (HY.out HK1.out HK2.out)
   clear HY HN HS1 HS2 HS3 HM1 HM2 HSZ HNM HK1 HK2 HRE HRC
   generalize txsF E C C.length = S at *
   go_wp2
   exact HE.out _ hbw
end Go.Proofs.YtdpbhjaicgkblaaGreatDoor

/- migrate.Text. Printed by gen_txm.py. -/
import Derived.Test.YtdpbhjaicgkblaaGreatDoorJTxI
import Derived.Test.YtdpbhjaicgkblaaGreatDoorJTxV
import Derived.Deep.RegionHeld3
namespace Go.Proofs.YtdpbhjaicgkblaaGreatDoor
set_option linter.unusedSimpArgs false
set_option linter.unusedVariables false
open Go.ChangeShapes Go.WideShapes Go.ChangeAt Go.RowKit Go.Sort Go.Lib
theorem bd_new (W : World) : Lib.IsBuilderF 82 5 W.heap.size W.heap.size [] (W.alloc (.cells #[.pointer none, .slice none 0 0] 82)) :=
 .inl ⟨Nat.le_refl _, .slice none 0 0, World.alloc_heap_new W _, ⟨rfl, .inl ⟨rfl, rfl⟩⟩, by simp [Value.ownBlock]⟩
theorem ixw1 (w : World) : (Instr.index 90 (.agg #[.string ⟨#[]⟩, .string ⟨#[109, 111, 118, 101, 100]⟩, .string ⟨#[103, 111, 110, 101]⟩, .string ⟨#[97, 112, 112, 101, 97, 114, 101, 100]⟩]) (.int .i64 1)).run Tryz.prog w = .ok (.string ⟨#[109, 111, 118, 101, 100]⟩) w := by kernel_rfl
theorem ixw2 (w : World) : (Instr.index 90 (.agg #[.string ⟨#[]⟩, .string ⟨#[109, 111, 118, 101, 100]⟩, .string ⟨#[103, 111, 110, 101]⟩, .string ⟨#[97, 112, 112, 101, 97, 114, 101, 100]⟩]) (.int .i64 2)).run Tryz.prog w = .ok (.string ⟨#[103, 111, 110, 101]⟩) w := by kernel_rfl
theorem ixw3 (w : World) : (Instr.index 90 (.agg #[.string ⟨#[]⟩, .string ⟨#[109, 111, 118, 101, 100]⟩, .string ⟨#[103, 111, 110, 101]⟩, .string ⟨#[97, 112, 112, 101, 97, 114, 101, 100]⟩]) (.int .i64 3)).run Tryz.prog w = .ok (.string ⟨#[97, 112, 112, 101, 97, 114, 101, 100]⟩) w := by kernel_rfl
theorem bd_inr {T e : TypeId} {B b : Nat} {bs : List Value} {w : World} (h : Lib.BuilderAtF T e B b (.pointer (some ⟨b, 0, none⟩)) bs w) : Lib.IsBuilderF T e B b bs w := .inr h
theorem strCells_nil : Lib.strCells ⟨#[]⟩ = [] := rfl
theorem bd_alloc {T e : TypeId} {B b : Nat} {bs : List Value} {w : World} (h : Lib.IsBuilderF T e B b bs w) (x : Obj) : Lib.IsBuilderF T e B b bs (w.alloc x) := bd_kept h ((Below.refl _ _).alloc (Nat.le_refl _) _)
set_option maxRecDepth 100000 in
set_option maxHeartbeats 8000000 in
theorem Text_any (E : List Ent) (vE : Value) (C : List Mig) (vC : Value) (w : World) (hE : Rd encEn 6 w vE E) (hC : Rd encM 4 w vC C) (hel : E.length ≤ 1000) (hcl : C.length ≤ 1000) : Calls Tryz.prog 6 #[vE, vC] w fun e w' => e = .returned (.tuple #[.string (textV E C).1, .int .i64 (textV E C).2]) ∧ Below w.heap.size w w' := by
 have HV := Lib.hid (fun W (hb : Below w.heap.size w W) => mvalid_any E vE W (by omega) (hE.on hb))
 have HRE := Lib.hid hE
 have HRC := Lib.hid hC
 suffices HPOST : ∀ Post : Ending → World → Prop, Hid (∀ w', Below w.heap.size w w' → Post (.returned (.tuple #[.string (textV E C).1, .int .i64 (textV E C).2])) w') → Calls Tryz.prog 6 #[vE, vC] w Post from HPOST _ (Lib.hid fun w' h => ⟨rfl, h⟩)
 intro Post HP
 obtain ⟨AE, cE, rfl⟩ := rd_vf hE
 obtain ⟨AC, cC, rfl⟩ := rd_vf hC
 clear hE hC
 cases hok : okEs E
 ·have HN := Lib.hid (fun w' h => textV_no (C := C) (.inl hok) ▸ HP.out w' h)
  rw [hok] at HV
  clear hok HP HRE HRC
  go_enter Tryz.func6, Tryz.ntmps6
  go_wp2_with fail
  refine (HV.out _ (Below.refl _ _)).mono ?_
  rintro e w1 ⟨rfl, hb1⟩
  go_wp2
  exact HN.out _ hb1
 rw [hok] at HV
 have HN := Lib.hid (fun (h : okMs E C C.length = false ∨ wrF C C.length = true) w' hw => textV_no (E := E) (C := C) (.inr (.inr h)) ▸ HP.out w' hw)
 have HY := Lib.hid (fun h1 h2 w' hw => textV_ok (E := E) (C := C) hok hcl h1 h2 ▸ HP.out w' hw)
 have HSZ := Lib.hid (fun k => txsF_size (C := C) hok k)
 have HNM := Lib.hid (fun i (h : i < E.length) => ok_name hok h)
 have HS1 := Lib.hid (fun k => show okMs E C (k + 1) = (okMs E C k && okM E C[k]!) from rfl)
 have HS2 := Lib.hid (fun k => show wrF C (k + 1) = ((wrF C k || oldW C[k]!) || newW C[k]!) from rfl)
 have HS3 := Lib.hid (fun k => show txsF E C (k + 1) = txsF E C k ++ rowT E C[k]! from rfl)
 have HM1 := Lib.hid (fun k (h : k + 1 ≤ C.length) => okMs_le E C h)
 have dcl : decide ((1000 : Int) < (C.length : Int)) = false := decide_eq_false (by omega)
 clear hok HP
 go_enter Tryz.func6, Tryz.ntmps6
 go_wp2_with fail
 refine (HV.out _ (Below.refl _ _)).mono ?_
 rintro e w1 ⟨rfl, hb1⟩
 have hB0 := bd_alloc (bd_new w1) (.cells #[.bool false] 4)
 have hq0 := Blk.new (w1.alloc (.cells #[.pointer none, .slice none 0 0] 82)) #[.bool false] 4
 have hb0 : Below w1.heap.size w1 ((w1.alloc (.cells #[.pointer none, .slice none 0 0] 82)).alloc (.cells #[.bool false] 4)) := ((Below.refl _ _).alloc (Nat.le_refl _) _).alloc (by simp) _
 have hqe : (w1.alloc (.cells #[.pointer none, .slice none 0 0] 82)).heap.size = w1.heap.size + 1 := by simp
 rw [hqe] at hq0
 clear hqe HV
 go_wp2
 generalize (w1.alloc (.cells #[.pointer none, .slice none 0 0] 82)).alloc (.cells #[.bool false] 4) = W at *
 generalize hBq : w1.heap.size = B at *
 have hBs : w.heap.size ≤ B := by rw [← hBq]; exact hb1.size
 clear hBq
 go_loopw [22] (fun v22 wr => ∃ k : Nat, k ≤ C.length ∧ v22 = .int .i64 k ∧ Hid (okMs E C k = true) ∧ Lib.IsBuilderF 82 5 B B (Lib.strCells (txsF E C k)) wr ∧ Blk wr (B + 1) #[.bool (wrF C k)] 4 ∧ Below B w1 wr) (fun v22 _ => C.length - (intOf v22).toNat)
 case atStart => exact ⟨0, Nat.zero_le _, rfl, rfl, hB0, hq0, hb0⟩
 case round =>
  obtain ⟨k, hkl, rfl, HK1, hBd, hq, hbr⟩ := hrel
  have hbw := hb1.trans (hbr.mono hBs)
  clear hB0 hq0 hb0
  by_cases hlt : k < C.length
  ·obtain ⟨g, off, hA, hg, hcg⟩ : ∃ g off, AC = some ⟨g, off, none⟩ ∧ g < wr.heap.size ∧ ∀ i u, (encM C[k]!)[i]? = some u → wr.cell? ⟨g, off + k * 4 + i, none⟩ = some u := by
    rcases HRC.out.on hbw with ⟨e, _⟩ | ⟨g, off, c2, hv, hg, hc⟩
    ·rw [e] at hlt; simp at hlt
    ·injection hv with e1 _ _
     exact ⟨g, off, e1, hg, fun i u hu => hc k hlt i u hu⟩
   subst hA
   have HEX := Lib.hid (fun (i : Int) (h0 : 0 ≤ i) (h1 : i < (E.length : Int)) => show ∃ g off, AE = some ⟨g, off, none⟩ ∧ g < w.heap.size ∧ ∀ W2, Below w.heap.size w W2 → W2.cell? ⟨g, off + i.toNat * 6, none⟩ = some (.string (E[i.toNat]!).nm) from by
    rcases HRE.out with ⟨e, _⟩ | ⟨g, off, c2, hv, hg, hc⟩
    ·rw [e] at h1; simp at h1; omega
    ·injection hv with e1 _ _
     exact ⟨g, off, e1, hg, fun W2 hb => (hb.cell (p := ⟨g, off + i.toNat * 6, none⟩) hg).trans (hc i.toNat (by omega) 0 _ rfl)⟩)
   have hs1 := HS1.out k
   have HS2 := Lib.hid (HS2.out k)
   have HS3 := Lib.hid (HS3.out k)
   rw [HK1.out, Bool.true_and] at hs1
   have HN1 := Lib.hid (fun (h : okM E C[k]! = false) => HN.out (.inl (HM1.out k hlt (hs1.trans h))))
   have hsz := HSZ.out k HK1.out
   have HS1 := Lib.hid hs1
   clear HM1 HN hs1 HSZ HRE HK1
   generalize txsF E C k = S at *
   generalize wrF C k = x at *
   have e0 := hcg 0 _ rfl
   have e1 := hcg 1 _ rfl
   have e2 := hcg 2 _ rfl
   have e3 := hcg 3 _ rfl
   rw [Nat.add_zero] at e0
   generalize C[k]! = m at *
   obtain ⟨en, kd, od, nw⟩ := m
   dsimp only at e0 e1 e2 e3
   have hql := hq.lt
   have bx := Blk.new wr #[.int .i64 en, .int .i64 kd, .int .i64 od, .int .i64 nw] 46
   have hbx := hbr.alloc (by omega) (.cells #[.int .i64 en, .int .i64 kd, .int .i64 od, .int .i64 nw] 46)
   have hBx := bd_alloc hBd (.cells #[.int .i64 en, .int .i64 kd, .int .i64 od, .int .i64 nw] 46)
   have hqx := hq.alloc (.cells #[.int .i64 en, .int .i64 kd, .int .i64 od, .int .i64 nw] 46)
   have x0 := bx.cell 0 rfl
   have x1 := bx.cell 1 rfl
   have x2 := bx.cell 2 rfl
   have x3 := bx.cell 3 rfl
   have xl := bx.lt
   clear hcg
   by_cases h0 : en < 0
   ·have d0 := decide_eq_true h0
    go_wp2
    exact HN1.out (by unfold okM; simp; omega) _ (hb1.trans (hbx.mono hBs))
   have d0 := decide_eq_false h0
   by_cases h1 : (E.length : Int) ≤ en
   ·have d1 := decide_eq_true h1
    go_wp2
    exact HN1.out (by unfold okM; simp; omega) _ (hb1.trans (hbx.mono hBs))
   have d1 := decide_eq_false h1
   by_cases h2 : kd < 1
   ·have d2 := decide_eq_true h2
    go_wp2
    exact HN1.out (by unfold okM; simp; omega) _ (hb1.trans (hbx.mono hBs))
   have d2 := decide_eq_false h2
   by_cases h3 : 3 < kd
   ·have d3 := decide_eq_true h3
    go_wp2
    exact HN1.out (by unfold okM; simp; omega) _ (hb1.trans (hbx.mono hBs))
   have d3 := decide_eq_false h3
   rcases (show kd = 1 ∨ kd = 2 ∨ kd = 3 by omega) with rfl | rfl | rfl
   ·skip
    obtain ⟨ge, oe, hAE, hge, hce⟩ := HEX.out en (by omega) (by omega)
    subst hAE
    have hnmz := HNM.out en.toNat (by omega)
    have HO := Lib.hid (HS1.out.trans (show okM E _ = true by unfold okM; simp; omega))
    have HT : Hid (Lib.strCells (txsF E C (k + 1)) = Lib.strCells S ++ Lib.strCells ((E[en.toNat]!).nm ++ ⟨#[32]⟩ ++ ⟨#[109, 111, 118, 101, 100]⟩) ++ Lib.strCells (⟨#[32]⟩ ++ insS od) ++ Lib.strCells (⟨#[32]⟩ ++ insS nw) ++ Lib.strCells (⟨#[10]⟩)) := by
     show _ = _
     rw [HS3.out]
     unfold rowT headT oldT newT spI wordF
     simp only [cells_app, List.append_assoc]
     simp [cells_app, strCells_nil]
    have HW : Hid (wrF C (k + 1) = ((x || emptyB (insS od)) || emptyB (insS nw))) := by
     show _ = _
     rw [HS2.out]
     unfold oldW newW
     simp [insS_no]
    have hi1 := insS_size od
    have hi1 : (insS od).size ≤ 20 := by split at hi1 <;> omega
    have hi2 := insS_size nw
    have hi2 : (insS nw).size ≤ 20 := by split at hi2 <;> omega
    clear HN1 HS1 HS2 HS3 HEX HNM
    generalize (E[en.toNat]!).nm = nm at *
    have hc0 := hce _ (hb1.trans (hbx.mono hBs))
    have z0 := Lib.strCells_length S
    have z1 : (nm ++ ⟨#[32]⟩ ++ ⟨#[109, 111, 118, 101, 100]⟩).size ≤ 39 := by
     rw [ByteArray.size_append, ByteArray.size_append]
     have : (⟨#[32]⟩ : ByteArray).size = 1 := rfl
     have : (⟨#[109, 111, 118, 101, 100]⟩ : ByteArray).size ≤ 8 := by decide
     omega
    have HWR := Lib.hid (fun W h hw => wr_k B B (Lib.strCells S) (nm ++ ⟨#[32]⟩ ++ ⟨#[109, 111, 118, 101, 100]⟩) W h (by omega) hw)
    go_wp2_with fail
    generalize hr : wr.heap.size = r at *
    generalize wr.alloc (.cells #[.int .i64 en, .int .i64 1, .int .i64 od, .int .i64 nw] 46) = W1 at *
    clear e0 e1 e2 e3
    have IX := ixw1
    have hWl : B ≤ W1.heap.size := by have := bx.lt; omega
    have hgB : ge < B := by omega
    have cz1 : ¬ 9223372036854775807 < nm.size + 1 := by omega
    have cz2 : ¬ 9223372036854775807 < nm.size + 1 + 5 := by omega
    have hS0 : W1.drew.cell? ⟨ge, oe + en.toNat * 6, none⟩ = some (.string nm) ∧ W1.drew.cell? ⟨r, 0, none⟩ = some (.int .i64 en) ∧ W1.drew.cell? ⟨r, 1, none⟩ = some (.int .i64 1) := ⟨hc0, x0, x1⟩
    clear hc0 x0 x1 x2 x3
    go_region_held3 (fun w' => w'.cell? ⟨ge, oe + en.toNat * 6, none⟩ = some (.string nm) ∧ w'.cell? ⟨r, 0, none⟩ = some (.int .i64 en) ∧ w'.cell? ⟨r, 1, none⟩ = some (.int .i64 1)) (first | exact hS0 | exact hS3 | go_keep)
     (first | (go_at_call 28; refine (HWR.out _ ?_ ?_).mono ?_; exact hBx; exact hWl; rintro e w3 ⟨rfl, h3, hb3, hk3⟩; have q3 := blk_others (w := W1.drew) hqx hk3 (by omega) (by decide); have bx3 := blk_others (w := W1.drew) bx hk3 (by omega) (by decide); have hS3 : w3.cell? ⟨ge, oe + en.toNat * 6, none⟩ = some (.string nm) ∧ w3.cell? ⟨r, 0, none⟩ = some (.int .i64 en) ∧ w3.cell? ⟨r, 1, none⟩ = some (.int .i64 1) := ⟨(hb3.cell (p := ⟨ge, oe + en.toNat * 6, none⟩) hgB).trans hS0.1, bx3.cell 0 rfl, bx3.cell 1 rfl⟩))
    have h3 := bd_inr h3
    have hB3 := hbx.drew.trans hb3
    have z3 : (Lib.strCells S ++ Lib.strCells (nm ++ ⟨#[32]⟩ ++ ⟨#[109, 111, 118, 101, 100]⟩)).length ≤ 83000 := by rw [List.length_append, Lib.strCells_length, Lib.strCells_length]; omega
    clear HWR hBx hqx bx hbx hk3 hb3 hBd hq IX xl hce hS0 hS3
    generalize Lib.strCells S ++ Lib.strCells (nm ++ ⟨#[32]⟩ ++ ⟨#[109, 111, 118, 101, 100]⟩) = b3 at *
    have x1 := bx3.cell 1 rfl
    have x2 := bx3.cell 2 rfl
    have x3 := bx3.cell 3 rfl
    have xl := bx3.lt
    go_wp2_with fail
    clear x1 x2 x3 xl
    refine (inst_any B (B + 1) x b3 od w3 q3 h3 (by omega) (by omega)).mono ?_
    rintro e w4 ⟨rfl, s4, hs4, q4, h4, hb4, hR4⟩
    obtain rfl := ins_eq hs4
    have bx4 := hR4 _ _ _ bx3 (by omega) (by omega) (by decide)
    have hB4 := hB3.trans hb4
    have z4 : (b3 ++ Lib.strCells (⟨#[32]⟩ ++ insS od)).length ≤ 83021 := by
     rw [List.length_append, Lib.strCells_length, ByteArray.size_append]
     have : (⟨#[32]⟩ : ByteArray).size = 1 := rfl
     omega
    clear hs4 hR4 hb4 q3 h3 bx3
    generalize b3 ++ Lib.strCells (⟨#[32]⟩ ++ insS od) = b4 at *
    have x1 := bx4.cell 1 rfl
    have x2 := bx4.cell 2 rfl
    have x3 := bx4.cell 3 rfl
    have xl := bx4.lt
    go_wp2_with fail
    clear x1 x2 x3 xl
    refine (inst_any B (B + 1) (x || emptyB (insS od)) b4 nw w4 q4 h4 (by omega) (by omega)).mono ?_
    rintro e w5 ⟨rfl, s5, hs5, q5, h5, hb5, hR5⟩
    obtain rfl := ins_eq hs5
    have bx5 := hR5 _ _ _ bx4 (by omega) (by omega) (by decide)
    have hB5 := hB4.trans hb5
    have z5 : (b4 ++ Lib.strCells (⟨#[32]⟩ ++ insS nw)).length ≤ 83042 := by
     rw [List.length_append, Lib.strCells_length, ByteArray.size_append]
     have : (⟨#[32]⟩ : ByteArray).size = 1 := rfl
     omega
    clear hs5 hR5 hb5 q4 h4 bx4
    generalize b4 ++ Lib.strCells (⟨#[32]⟩ ++ insS nw) = b5 at *
    have x1 := bx5.cell 1 rfl
    have xl := bx5.lt
    have hqq := q5.lt
    go_wp2_with fail
    refine (wr_k B B b5 ⟨#[10]⟩ w5 h5 (by have : (⟨#[10]⟩ : ByteArray).size = 1 := rfl; omega) (by omega)).mono ?_
    rintro e w6 ⟨rfl, h6, hb6, hk6⟩
    have q6 := blk_others q5 hk6 (by omega) (by decide)
    clear x1 xl hqq
    go_wp2
    go_roundw
    case rel => exact ⟨k + 1, by omega, by go_num, HO, by rw [HT.out]; exact .inr h6, by rw [HW.out]; exact q6, hB5.trans hb6⟩
    case measure => simp [intOf]; omega
   ·skip
    obtain ⟨ge, oe, hAE, hge, hce⟩ := HEX.out en (by omega) (by omega)
    subst hAE
    have hnmz := HNM.out en.toNat (by omega)
    have HO := Lib.hid (HS1.out.trans (show okM E _ = true by unfold okM; simp; omega))
    have HT : Hid (Lib.strCells (txsF E C (k + 1)) = Lib.strCells S ++ Lib.strCells ((E[en.toNat]!).nm ++ ⟨#[32]⟩ ++ ⟨#[103, 111, 110, 101]⟩) ++ Lib.strCells (⟨#[32]⟩ ++ insS od) ++ Lib.strCells (⟨#[10]⟩)) := by
     show _ = _
     rw [HS3.out]
     unfold rowT headT oldT newT spI wordF
     simp only [cells_app, List.append_assoc]
     simp [cells_app, strCells_nil]
    have HW : Hid (wrF C (k + 1) = (x || emptyB (insS od))) := by
     show _ = _
     rw [HS2.out]
     unfold oldW newW
     simp [insS_no]
    have hi1 := insS_size od
    have hi1 : (insS od).size ≤ 20 := by split at hi1 <;> omega
    clear HN1 HS1 HS2 HS3 HEX HNM
    generalize (E[en.toNat]!).nm = nm at *
    have hc0 := hce _ (hb1.trans (hbx.mono hBs))
    have z0 := Lib.strCells_length S
    have z1 : (nm ++ ⟨#[32]⟩ ++ ⟨#[103, 111, 110, 101]⟩).size ≤ 39 := by
     rw [ByteArray.size_append, ByteArray.size_append]
     have : (⟨#[32]⟩ : ByteArray).size = 1 := rfl
     have : (⟨#[103, 111, 110, 101]⟩ : ByteArray).size ≤ 8 := by decide
     omega
    have HWR := Lib.hid (fun W h hw => wr_k B B (Lib.strCells S) (nm ++ ⟨#[32]⟩ ++ ⟨#[103, 111, 110, 101]⟩) W h (by omega) hw)
    go_wp2_with fail
    generalize hr : wr.heap.size = r at *
    generalize wr.alloc (.cells #[.int .i64 en, .int .i64 2, .int .i64 od, .int .i64 nw] 46) = W1 at *
    clear e0 e1 e2 e3
    have IX := ixw2
    have hWl : B ≤ W1.heap.size := by have := bx.lt; omega
    have hgB : ge < B := by omega
    have cz1 : ¬ 9223372036854775807 < nm.size + 1 := by omega
    have cz2 : ¬ 9223372036854775807 < nm.size + 1 + 4 := by omega
    have hS0 : W1.drew.cell? ⟨ge, oe + en.toNat * 6, none⟩ = some (.string nm) ∧ W1.drew.cell? ⟨r, 0, none⟩ = some (.int .i64 en) ∧ W1.drew.cell? ⟨r, 1, none⟩ = some (.int .i64 2) := ⟨hc0, x0, x1⟩
    clear hc0 x0 x1 x2 x3
    go_region_held3 (fun w' => w'.cell? ⟨ge, oe + en.toNat * 6, none⟩ = some (.string nm) ∧ w'.cell? ⟨r, 0, none⟩ = some (.int .i64 en) ∧ w'.cell? ⟨r, 1, none⟩ = some (.int .i64 2)) (first | exact hS0 | exact hS3 | go_keep)
     (first | (go_at_call 28; refine (HWR.out _ ?_ ?_).mono ?_; exact hBx; exact hWl; rintro e w3 ⟨rfl, h3, hb3, hk3⟩; have q3 := blk_others (w := W1.drew) hqx hk3 (by omega) (by decide); have bx3 := blk_others (w := W1.drew) bx hk3 (by omega) (by decide); have hS3 : w3.cell? ⟨ge, oe + en.toNat * 6, none⟩ = some (.string nm) ∧ w3.cell? ⟨r, 0, none⟩ = some (.int .i64 en) ∧ w3.cell? ⟨r, 1, none⟩ = some (.int .i64 2) := ⟨(hb3.cell (p := ⟨ge, oe + en.toNat * 6, none⟩) hgB).trans hS0.1, bx3.cell 0 rfl, bx3.cell 1 rfl⟩))
    have h3 := bd_inr h3
    have hB3 := hbx.drew.trans hb3
    have z3 : (Lib.strCells S ++ Lib.strCells (nm ++ ⟨#[32]⟩ ++ ⟨#[103, 111, 110, 101]⟩)).length ≤ 83000 := by rw [List.length_append, Lib.strCells_length, Lib.strCells_length]; omega
    clear HWR hBx hqx bx hbx hk3 hb3 hBd hq IX xl hce hS0 hS3
    generalize Lib.strCells S ++ Lib.strCells (nm ++ ⟨#[32]⟩ ++ ⟨#[103, 111, 110, 101]⟩) = b3 at *
    have x1 := bx3.cell 1 rfl
    have x2 := bx3.cell 2 rfl
    have x3 := bx3.cell 3 rfl
    have xl := bx3.lt
    go_wp2_with fail
    clear x1 x2 x3 xl
    refine (inst_any B (B + 1) x b3 od w3 q3 h3 (by omega) (by omega)).mono ?_
    rintro e w4 ⟨rfl, s4, hs4, q4, h4, hb4, hR4⟩
    obtain rfl := ins_eq hs4
    have bx4 := hR4 _ _ _ bx3 (by omega) (by omega) (by decide)
    have hB4 := hB3.trans hb4
    have z4 : (b3 ++ Lib.strCells (⟨#[32]⟩ ++ insS od)).length ≤ 83021 := by
     rw [List.length_append, Lib.strCells_length, ByteArray.size_append]
     have : (⟨#[32]⟩ : ByteArray).size = 1 := rfl
     omega
    clear hs4 hR4 hb4 q3 h3 bx3
    generalize b3 ++ Lib.strCells (⟨#[32]⟩ ++ insS od) = b4 at *
    have x1 := bx4.cell 1 rfl
    have xl := bx4.lt
    have hqq := q4.lt
    go_wp2_with fail
    refine (wr_k B B b4 ⟨#[10]⟩ w4 h4 (by have : (⟨#[10]⟩ : ByteArray).size = 1 := rfl; omega) (by omega)).mono ?_
    rintro e w5 ⟨rfl, h5, hb5, hk5⟩
    have q5 := blk_others q4 hk5 (by omega) (by decide)
    clear x1 xl hqq
    go_wp2
    go_roundw
    case rel => exact ⟨k + 1, by omega, by go_num, HO, by rw [HT.out]; exact .inr h5, by rw [HW.out]; exact q5, hB4.trans hb5⟩
    case measure => simp [intOf]; omega
   ·skip
    obtain ⟨ge, oe, hAE, hge, hce⟩ := HEX.out en (by omega) (by omega)
    subst hAE
    have hnmz := HNM.out en.toNat (by omega)
    have HO := Lib.hid (HS1.out.trans (show okM E _ = true by unfold okM; simp; omega))
    have HT : Hid (Lib.strCells (txsF E C (k + 1)) = Lib.strCells S ++ Lib.strCells ((E[en.toNat]!).nm ++ ⟨#[32]⟩ ++ ⟨#[97, 112, 112, 101, 97, 114, 101, 100]⟩) ++ Lib.strCells (⟨#[32]⟩ ++ insS nw) ++ Lib.strCells (⟨#[10]⟩)) := by
     show _ = _
     rw [HS3.out]
     unfold rowT headT oldT newT spI wordF
     simp only [cells_app, List.append_assoc]
     simp [cells_app, strCells_nil]
    have HW : Hid (wrF C (k + 1) = (x || emptyB (insS nw))) := by
     show _ = _
     rw [HS2.out]
     unfold oldW newW
     simp [insS_no]
    have hi2 := insS_size nw
    have hi2 : (insS nw).size ≤ 20 := by split at hi2 <;> omega
    clear HN1 HS1 HS2 HS3 HEX HNM
    generalize (E[en.toNat]!).nm = nm at *
    have hc0 := hce _ (hb1.trans (hbx.mono hBs))
    have z0 := Lib.strCells_length S
    have z1 : (nm ++ ⟨#[32]⟩ ++ ⟨#[97, 112, 112, 101, 97, 114, 101, 100]⟩).size ≤ 39 := by
     rw [ByteArray.size_append, ByteArray.size_append]
     have : (⟨#[32]⟩ : ByteArray).size = 1 := rfl
     have : (⟨#[97, 112, 112, 101, 97, 114, 101, 100]⟩ : ByteArray).size ≤ 8 := by decide
     omega
    have HWR := Lib.hid (fun W h hw => wr_k B B (Lib.strCells S) (nm ++ ⟨#[32]⟩ ++ ⟨#[97, 112, 112, 101, 97, 114, 101, 100]⟩) W h (by omega) hw)
    go_wp2_with fail
    generalize hr : wr.heap.size = r at *
    generalize wr.alloc (.cells #[.int .i64 en, .int .i64 3, .int .i64 od, .int .i64 nw] 46) = W1 at *
    clear e0 e1 e2 e3
    have IX := ixw3
    have hWl : B ≤ W1.heap.size := by have := bx.lt; omega
    have hgB : ge < B := by omega
    have cz1 : ¬ 9223372036854775807 < nm.size + 1 := by omega
    have cz2 : ¬ 9223372036854775807 < nm.size + 1 + 8 := by omega
    have hS0 : W1.drew.cell? ⟨ge, oe + en.toNat * 6, none⟩ = some (.string nm) ∧ W1.drew.cell? ⟨r, 0, none⟩ = some (.int .i64 en) ∧ W1.drew.cell? ⟨r, 1, none⟩ = some (.int .i64 3) := ⟨hc0, x0, x1⟩
    clear hc0 x0 x1 x2 x3
    go_region_held3 (fun w' => w'.cell? ⟨ge, oe + en.toNat * 6, none⟩ = some (.string nm) ∧ w'.cell? ⟨r, 0, none⟩ = some (.int .i64 en) ∧ w'.cell? ⟨r, 1, none⟩ = some (.int .i64 3)) (first | exact hS0 | exact hS3 | go_keep)
     (first | (go_at_call 28; refine (HWR.out _ ?_ ?_).mono ?_; exact hBx; exact hWl; rintro e w3 ⟨rfl, h3, hb3, hk3⟩; have q3 := blk_others (w := W1.drew) hqx hk3 (by omega) (by decide); have bx3 := blk_others (w := W1.drew) bx hk3 (by omega) (by decide); have hS3 : w3.cell? ⟨ge, oe + en.toNat * 6, none⟩ = some (.string nm) ∧ w3.cell? ⟨r, 0, none⟩ = some (.int .i64 en) ∧ w3.cell? ⟨r, 1, none⟩ = some (.int .i64 3) := ⟨(hb3.cell (p := ⟨ge, oe + en.toNat * 6, none⟩) hgB).trans hS0.1, bx3.cell 0 rfl, bx3.cell 1 rfl⟩))
    have h3 := bd_inr h3
    have hB3 := hbx.drew.trans hb3
    have z3 : (Lib.strCells S ++ Lib.strCells (nm ++ ⟨#[32]⟩ ++ ⟨#[97, 112, 112, 101, 97, 114, 101, 100]⟩)).length ≤ 83000 := by rw [List.length_append, Lib.strCells_length, Lib.strCells_length]; omega
    clear HWR hBx hqx bx hbx hk3 hb3 hBd hq IX xl hce hS0 hS3
    generalize Lib.strCells S ++ Lib.strCells (nm ++ ⟨#[32]⟩ ++ ⟨#[97, 112, 112, 101, 97, 114, 101, 100]⟩) = b3 at *
    have x1 := bx3.cell 1 rfl
    have x2 := bx3.cell 2 rfl
    have x3 := bx3.cell 3 rfl
    have xl := bx3.lt
    go_wp2_with fail
    clear x1 x2 x3 xl
    refine (inst_any B (B + 1) x b3 nw w3 q3 h3 (by omega) (by omega)).mono ?_
    rintro e w4 ⟨rfl, s4, hs4, q4, h4, hb4, hR4⟩
    obtain rfl := ins_eq hs4
    have bx4 := hR4 _ _ _ bx3 (by omega) (by omega) (by decide)
    have hB4 := hB3.trans hb4
    have z4 : (b3 ++ Lib.strCells (⟨#[32]⟩ ++ insS nw)).length ≤ 83021 := by
     rw [List.length_append, Lib.strCells_length, ByteArray.size_append]
     have : (⟨#[32]⟩ : ByteArray).size = 1 := rfl
     omega
    clear hs4 hR4 hb4 q3 h3 bx3
    generalize b3 ++ Lib.strCells (⟨#[32]⟩ ++ insS nw) = b4 at *
    have x1 := bx4.cell 1 rfl
    have xl := bx4.lt
    have hqq := q4.lt
    go_wp2_with fail
    refine (wr_k B B b4 ⟨#[10]⟩ w4 h4 (by have : (⟨#[10]⟩ : ByteArray).size = 1 := rfl; omega) (by omega)).mono ?_
    rintro e w5 ⟨rfl, h5, hb5, hk5⟩
    have q5 := blk_others q4 hk5 (by omega) (by decide)
    clear x1 xl hqq
    go_wp2
    go_roundw
    case rel => exact ⟨k + 1, by omega, by go_num, HO, by rw [HT.out]; exact .inr h5, by rw [HW.out]; exact q5, hB4.trans hb5⟩
    case measure => simp [intOf]; omega
  ·obtain rfl : k = C.length := by omega
   cases hw : wrF C C.length
   ·have HE := Lib.hid (HY.out HK1.out hw)
    rw [hw] at hq
    clear hw HY HN HS1 HS2 HS3 HM1 HSZ HNM HRE HRC HK1
    generalize txsF E C C.length = S at *
    have c0 := hq.cell 0 rfl
    have cl := hq.lt
    have HSTR := Lib.hid (Tryz.Builder_String_any_k B B S.data.toList wr hBd (by omega))
    go_wp2_with fail
    refine HSTR.out.mono ?_
    rintro e w5 ⟨rfl, _, hb5, _⟩
    go_wp2
    exact HE.out _ (hb1.trans ((hbr.trans hb5).mono hBs))
   ·have HE := Lib.hid (HN.out (.inr hw))
    rw [hw] at hq
    clear hw HY HN HS1 HS2 HS3 HM1 HSZ HNM HRE HRC HK1
    have c0 := hq.cell 0 rfl
    have cl := hq.lt
    go_wp2
    exact HE.out _ hbw
end Go.Proofs.YtdpbhjaicgkblaaGreatDoor

/- Joined by merge.py: Valid, Yvalid, At, Year. -/
import Derived.Test.YtdpbhjaicgkblaaGreatDoorGLet
import Derived.Test.YtdpbhjaicgkblaaGreatDoorGYday
import Derived.Test.YtdpbhjaicgkblaaGreatDoorGBase
import Derived.Test.YtdpbhjaicgkblaaGreatDoorGOrd
import Derived.Test.YtdpbhjaicgkblaaGreatDoorGShelf
/- zonelex.Name, yearrule.Valid, event, At, Active. -/
namespace Go.Proofs.YtdpbhjaicgkblaaGreatDoor
set_option linter.unusedSimpArgs false
set_option linter.unusedVariables false
open Go.ChangeShapes Go.WideShapes Go.ChangeAt Go.RowKit
def namAll (s : ByteArray) : Bool := s.data.toList.all fun b => Cv.namI b.toNat
theorem special_iff (c : UInt8) : decide (Lib.indexByte [95, 47, 43, 45] c < 0) = !((c.toNat : Int) == 95 || (c.toNat : Int) == 47 || (c.toNat : Int) == 43 || (c.toNat : Int) == 45) := by
 have h := Cv.indexByte_mem [95, 47, 43, 45] c
 have e : decide (Lib.indexByte [95, 47, 43, 45] c < 0) = !decide (0 ≤ Lib.indexByte [95, 47, 43, 45] c) := by rw [Bool.eq_iff_iff]; simp
 rw [e, h]
 congr 1
 rw [Bool.eq_iff_iff]
 simp [← UInt8.toNat_inj]
 omega
theorem namI_idx {c : UInt8} (h : 0 ≤ Lib.indexByte [95, 47, 43, 45] c) : Cv.namI c.toNat = true := by
 have e := special_iff c
 rw [decide_eq_false (by omega)] at e
 have e' : ((c.toNat : Int) == 95 || (c.toNat : Int) == 47 || (c.toNat : Int) == 43 || (c.toNat : Int) == 45) = true := by
  exact (Bool.not_eq_false' _).mp e.symm
 unfold Cv.namI
 simp only [Bool.or_eq_true] at e' ⊢
 rcases e' with ((e' | e') | e') | e' <;> simp [e']
theorem namI_no {c : UInt8} (h1 : Cv.ltrI c.toNat = false) (h2 : Cv.digI c.toNat = false) (h : Lib.indexByte [95, 47, 43, 45] c < 0) : Cv.namI c.toNat = false := by
 have e := special_iff c
 rw [decide_eq_true h] at e
 unfold Cv.namI
 rw [h1, h2]
 simpa using e.symm
set_option maxRecDepth 100000 in
set_option maxHeartbeats 1000000 in
theorem zoneName (s : ByteArray) (w : World) : Calls Tryz.prog 62 #[.string s] w fun e w' => e = .returned (.bool (Cv.nameZ s)) ∧ w = w' := by
 by_cases h1 : 1 ≤ s.size
 ·by_cases h2 : s.size ≤ 30
  ·cases hl : Cv.ltrI (s.get! 0).toNat
   ·rw [show Cv.nameZ s = false by unfold Cv.nameZ; rw [hl]; simp]
    rw [Cv.get!_eq s 0 h1] at hl
    have HL := Lib.hid hl
    clear hl
    go_enter Tryz.func62, Tryz.ntmps62
    go_wp2_with (go_at_call 82; refine (zletter _ _).mono ?_; rintro e w1 ⟨rfl, rfl⟩; rw [HL.out])
    go_ret
    exact ⟨rfl, rfl⟩
   ·have hn : Cv.nameZ s = namAll s := by unfold Cv.nameZ; rw [hl, decide_eq_true ⟨h1, h2⟩]; rfl
    rw [hn]
    rw [Cv.get!_eq s 0 h1] at hl
    have HL := Lib.hid hl
    clear hl hn
    go_enter Tryz.func62, Tryz.ntmps62
    go_wp2_with (go_at_call 82; refine (zletter _ _).mono ?_; rintro e w1 ⟨rfl, rfl⟩; rw [HL.out])
    go_loop [20] (fun i => ∃ k : Nat, k ≤ s.size ∧ i = .int .i64 k ∧ (s.data.toList.take k).all (fun b => Cv.namI b.toNat) = true) (fun i => s.size - (intOf i).toNat)
    case atStart => exact ⟨0, Nat.zero_le _, rfl, by simp⟩
    case round =>
     obtain ⟨k, hk, rfl, hr⟩ := hrel
     have HR := Lib.hid hr
     clear hr
     by_cases hlt : k < s.size
     ·cases a1 : Cv.ltrI (s[k]'hlt).toNat <;> cases a2 : Cv.digI (s[k]'hlt).toNat
      all_goals
       have A1 := Lib.hid a1
       have A2 := Lib.hid a2
       clear a1 a2
       go_wp2_with (first | (go_at_call 82; refine (zletter _ _).mono ?_; rintro e w1 ⟨rfl, rfl⟩; rw [A1.out]) | (go_at_call 83; refine (zdigit _ _).mono ?_; rintro e w1 ⟨rfl, rfl⟩; rw [A2.out]) | (go_at_call 84; refine (Tryz.strings_IndexByte _ _ _).mono ?_; rintro e w1 ⟨rfl, rfl⟩))
      ·go_ret
       exact ⟨ret1 (vbool (Cv.all_bad hlt (namI_no A1.out A2.out (by assumption))).symm), rfl⟩
      ·go_round
       case rel => exact ⟨k + 1, by omega, by go_num, Cv.all_snoc hlt HR.out (namI_idx (by assumption))⟩
       case measure => simp [intOf]; omega
      all_goals
       go_round
       case rel => exact ⟨k + 1, by omega, by go_num, Cv.all_snoc hlt HR.out (by simp only [Cv.namI, A1.out, A2.out]; simp)⟩
       case measure => simp [intOf]; omega
     ·go_wp2
      go_ret
      exact ⟨ret1 (vbool (Cv.all_end (by omega) HR.out).symm), rfl⟩
  ·rw [Cv.nameZ_no (by omega)]
   go_enter Tryz.func62, Tryz.ntmps62
   go_wp2
   go_ret
   exact ⟨rfl, rfl⟩
 ·rw [Cv.nameZ_no (by omega)]
  go_enter Tryz.func62, Tryz.ntmps62
  go_wp2
  go_ret
  exact ⟨rfl, rfl⟩
end Go.Proofs.YtdpbhjaicgkblaaGreatDoor
/- yearrule.Valid, event, At, Active. -/
namespace Go.Proofs.YtdpbhjaicgkblaaGreatDoor
set_option linter.unusedSimpArgs false
set_option linter.unusedVariables false
open Go.ChangeShapes Go.WideShapes Go.ChangeAt Go.RowKit
set_option maxRecDepth 100000 in
set_option maxHeartbeats 2000000 in
theorem Valid_any (r : Rule) (w : World) : Calls Tryz.prog 114 #[r.v] w fun e w' => e = .returned (.bool r.valid) ∧ Below w.heap.size w w' := by
 show Calls Tryz.prog 114 #[.agg #[.string r.nm, .int .i64 r.fr, .int .i64 r.to, .int .i64 r.mo, .int .i64 r.k, .int .i64 r.wk, .int .i64 r.d, .int .i64 r.at_, .int .i64 r.cl, .int .i64 r.sv, .string r.lt]] w _
 obtain ⟨nm, fr, to, mo, k, wk, d, at_, cl, sv, lt⟩ := r
 dsimp only
 cases hn : Cv.nameZ nm
 ·have HN := Lib.hid hn
  clear hn
  go_enter Tryz.func114, Tryz.ntmps114
  go_wp2_with (first
     | (go_at_call 62; refine (zoneName _ _).mono ?_; rintro e w' ⟨rfl, rfl⟩; rw [HN.out]))
  go_ret
  exact ⟨ret1 (vbool (by simp [Rule.valid, HN.out])), (Below.refl _ _).alloc (Nat.le_refl _) _⟩
 ·have HN := Lib.hid hn
  clear hn
  by_cases h8 : lt.size ≤ 8
  ·cases hl : Cv.lettersB [] lt.data.toList
   ·have HL := Lib.hid hl
    clear hl
    go_enter Tryz.func114, Tryz.ntmps114
    go_wp2_with (first
     | (go_at_call 62; refine (zoneName _ _).mono ?_; rintro e w' ⟨rfl, rfl⟩; rw [HN.out])
     | (go_at_call 126; refine (letters_any _ _ _ oth_none).mono ?_; rintro e w1 ⟨rfl, hb1⟩; rw [HL.out]))
    go_ret
    exact ⟨ret1 (vbool (by simp [Rule.valid, HL.out])), ((Below.refl _ _).alloc (Nat.le_refl _) _).trans (hb1.mono (by simp))⟩
   ·have HL := Lib.hid hl
    clear hl
    go_enter Tryz.func114, Tryz.ntmps114
    go_wp2_with (first
     | (go_at_call 62; refine (zoneName _ _).mono ?_; rintro e w' ⟨rfl, rfl⟩; rw [HN.out])
     | (go_at_call 126; refine (letters_any _ _ _ oth_none).mono ?_; rintro e w1 ⟨rfl, hb1⟩; rw [HL.out]; obtain ⟨hc1, hf1⟩ := bcell hb1; have hs1 : w.heap.size < w1.heap.size := by have := hb1.size; simp at this; omega)
     | (go_at_call 127; refine (fits_any _ _ _ _ _).mono ?_; rintro e w2 ⟨rfl, hb2⟩; obtain ⟨hc2, hf2⟩ := bcell hb2))
    all_goals
     go_ret
     refine ⟨ret1 (vbool ?_), by first | exact (((Below.refl _ _).alloc (Nat.le_refl _) _).trans (hb1.mono (by simp))).trans (hb2.mono (by omega)) | exact ((Below.refl _ _).alloc (Nat.le_refl _) _).trans (hb1.mono (by simp))⟩
     unfold Rule.valid Rule.ok
     dsimp only
     rw [HN.out, HL.out, decide_eq_true h8]
     simp only [Bool.true_and]
     clear HN HL h8 hb1
     first | (simp [*]; done) | (simp_all; done) | (simp [*]; omega)
  ·go_enter Tryz.func114, Tryz.ntmps114
   go_wp2_with (first
     | (go_at_call 62; refine (zoneName _ _).mono ?_; rintro e w' ⟨rfl, rfl⟩; rw [HN.out]))
   go_ret
   exact ⟨ret1 (vbool (by simp [Rule.valid, h8])), (Below.refl _ _).alloc (Nat.le_refl _) _⟩
end Go.Proofs.YtdpbhjaicgkblaaGreatDoor
/- yearrule.event, At, Active. -/
namespace Go.Proofs.YtdpbhjaicgkblaaGreatDoor
set_option linter.unusedSimpArgs false
set_option linter.unusedVariables false
open Go.ChangeShapes Go.WideShapes Go.ChangeAt Go.RowKit
theorem day_bd (r : Rule) (y : Int) : -719162 ≤ (r.day y).1 ∧ (r.day y).1 < 2932897 ∧ 0 ≤ (r.day y).2 ∧ (r.day y).2 ≤ 7 := Cv.dayF_bd _ _ _ _ _
def Rule.evt (r : Rule) (y : Int) : Int := if y < r.fr ∨ r.to < y then 0 else r.loc y
set_option maxHeartbeats 1000000 in
theorem event_any (r : Rule) (y : Int) (w : World) (h : r.Ok) : Calls Tryz.prog 189 #[r.v, .int .i64 y] w fun e w' => e = .returned (.tuple #[.int .i64 (r.evt y), .bool (r.has y)]) ∧ Below w.heap.size w w' := by
 show Calls Tryz.prog 189 #[.agg #[.string r.nm, .int .i64 r.fr, .int .i64 r.to, .int .i64 r.mo, .int .i64 r.k, .int .i64 r.wk, .int .i64 r.d, .int .i64 r.at_, .int .i64 r.cl, .int .i64 r.sv, .string r.lt], .int .i64 y] w _
 obtain ⟨b1, b2, b3, b4⟩ := day_bd r y
 have hd : Cv.dayF y r.mo r.k r.wk r.d = r.day y := rfl
 obtain ⟨h1, h2, h3, h4, h5, h6, h7, h8, h9, h10, h11⟩ := h
 clear h4 h7 h8 h9 h10 h11
 by_cases g : y < r.fr ∨ r.to < y
 ·rw [show r.evt y = 0 from if_pos g, show r.has y = false by unfold Rule.has; rw [decide_eq_false (by omega)]; rfl]
  rcases g with g | g
  ·go_enter Tryz.func189, Tryz.ntmps189
   go_wp2
   go_ret2
   exact ⟨rfl, (Below.refl _ _).alloc (Nat.le_refl _) _⟩
  ·by_cases g' : y < r.fr
   ·omega
   ·go_enter Tryz.func189, Tryz.ntmps189
    go_wp2
    go_ret2
    exact ⟨rfl, (Below.refl _ _).alloc (Nat.le_refl _) _⟩
 ·rw [show r.evt y = r.loc y from if_neg g, show r.has y = ((r.day y).2 == 0) by unfold Rule.has; rw [decide_eq_true (by omega)]; rfl]
  have HD := Lib.hid hd
  obtain ⟨g1, g2⟩ : r.fr ≤ y ∧ y ≤ r.to := by omega
  clear hd g
  unfold Rule.loc
  generalize hD : (r.day y).1 = D at *
  generalize hE : (r.day y).2 = E at *
  have HE := Lib.hid hE
  have HDD := Lib.hid hD
  clear hD hE
  go_enter Tryz.func189, Tryz.ntmps189
  go_wp2_with (go_at_call 199; refine (Day_any _ _ _ _ _ _).mono ?_; rintro e w1 ⟨rfl, hb1⟩; rw [HD.out, HE.out, HDD.out]; obtain ⟨hc1, hf1⟩ := bcell hb1; have hs1 : w.heap.size < w1.heap.size := by have := hb1.size; simp at this; omega)
  go_ret2
  exact ⟨rfl, ((Below.refl _ _).alloc (Nat.le_refl _) _).trans (hb1.mono (by simp))⟩
set_option maxHeartbeats 1000000 in
theorem At_any (r : Rule) (y : Int) (w : World) : Calls Tryz.prog 171 #[r.v, .int .i64 y] w fun e w' => e = .returned (.tuple #[.int .i64 (r.at y).1, .int .i64 (r.at y).2]) ∧ Below w.heap.size w w' := by
 show Calls Tryz.prog 171 #[.agg #[.string r.nm, .int .i64 r.fr, .int .i64 r.to, .int .i64 r.mo, .int .i64 r.k, .int .i64 r.wk, .int .i64 r.d, .int .i64 r.at_, .int .i64 r.cl, .int .i64 r.sv, .string r.lt], .int .i64 y] w _
 have hV := fun W => Valid_any r W
 have HV := Lib.hid hV
 clear hV
 cases hv : r.valid
 ·rw [show r.at y = (0, 1) from if_pos hv]
  have H := Lib.hid hv
  clear hv
  go_enter Tryz.func171, Tryz.ntmps171
  go_wp2_with (go_at_call 114; refine (HV.out _).mono ?_; rintro e w1 ⟨rfl, hb1⟩; rw [H.out])
  go_ret2
  exact ⟨rfl, ((Below.refl _ _).alloc (Nat.le_refl _) _).trans (hb1.mono (by simp))⟩
 ·have hE := fun W => event_any r y W (Rule.valid_ok hv)
  have HE := Lib.hid hE
  have H := Lib.hid hv
  cases hh : r.has y
  ·rw [show r.at y = (0, 7) by unfold Rule.at; rw [if_neg (by simp [hv]), if_pos hh]]
   have HH := Lib.hid hh
   clear hv hE hh
   go_enter Tryz.func171, Tryz.ntmps171
   go_wp2_with (first
    | (go_at_call 114; refine (HV.out _).mono ?_; rintro e w1 ⟨rfl, hb1⟩; rw [H.out]; obtain ⟨hc1, hf1⟩ := bcell hb1; have hs1 : w.heap.size < w1.heap.size := by have := hb1.size; simp at this; omega)
    | (go_at_call 189; refine (HE.out _).mono ?_; rintro e w2 ⟨rfl, hb2⟩; rw [HH.out]))
   go_ret2
   exact ⟨rfl, (((Below.refl _ _).alloc (Nat.le_refl _) _).trans (hb1.mono (by simp))).trans (hb2.mono (by omega))⟩
  ·have hlo : r.evt y = r.loc y := by
    unfold Rule.has at hh
    simp only [Bool.and_eq_true, decide_eq_true_eq] at hh
    exact if_neg (by omega)
   rw [show r.at y = (r.loc y, 0) by unfold Rule.at; rw [if_neg (by simp [hv]), if_neg (by simp [hh])]]
   have HH := Lib.hid hh
   have HL := Lib.hid hlo
   clear hv hE hh hlo
   go_enter Tryz.func171, Tryz.ntmps171
   go_wp2_with (first
    | (go_at_call 114; refine (HV.out _).mono ?_; rintro e w1 ⟨rfl, hb1⟩; rw [H.out]; obtain ⟨hc1, hf1⟩ := bcell hb1; have hs1 : w.heap.size < w1.heap.size := by have := hb1.size; simp at this; omega)
    | (go_at_call 189; refine (HE.out _).mono ?_; rintro e w2 ⟨rfl, hb2⟩; rw [HH.out, HL.out]))
   go_ret2
   exact ⟨rfl, (((Below.refl _ _).alloc (Nat.le_refl _) _).trans (hb1.mono (by simp))).trans (hb2.mono (by omega))⟩
end Go.Proofs.YtdpbhjaicgkblaaGreatDoor
/- yearrule.Year. -/
namespace Go.Proofs.YtdpbhjaicgkblaaGreatDoor
set_option linter.unusedSimpArgs false
set_option linter.unusedVariables false
open Go.ChangeShapes Go.WideShapes Go.ChangeAt Go.RowKit
theorem infoE : (Tryz.prog.info? 206).map (fun i => (i.zero, i.size, i.bytes)) = some (some (.agg #[.int .i64 0, .int .i64 0]), 2, 16) := by kernel_rfl
theorem isAggE (w : World) : (isAgg 206).run Tryz.prog w = .ok true w := by kernel_rfl
theorem sizeOfE (w : World) : (Go.sizeOf 206).run Tryz.prog w = .ok 2 w := by kernel_rfl
theorem sortE (es : List (Int × Int)) (g cap : Nat) (w : World) (hH : Sort.HoldsK encE 2 w g 0 es.toArray) (hg : g < w.heap.size) (hl : es.length ≤ 1000000) :
  Calls Tryz.prog 172 #[.slice (some ⟨g, 0, none⟩) es.length cap, .func (.func 153) #[] #[]] w fun e w' => e = .returned (.tuple #[]) ∧ Rd encE 2 w' (.slice (some ⟨g, 0, none⟩) es.length cap) (es.mergeSort leE) ∧ ∀ B w0, Below B w0 w → B ≤ g → B ≤ w.heap.size → Below B w0 w' := by
 have h := Tryz.slices_SortFunc_total 2 isAggE sizeOfE encE encE_len encE_one ordF swoE 153 #[] g 0 cap es.toArray w (enters_of Tryz.func153 (by kernel_rfl) rfl) (fun _ _ _ _ x y => order_any x y _) hH hg (by simp; omega) totE
 have e : (fun x y => !(ltOf ordF) y x) = leE := by rw [ltOf_ord']; rfl
 rw [e] at h
 refine h.mono ?_
 rintro e' w' ⟨rfl, n, os, rfl⟩
 exact ⟨rfl, rd_sorted encE_len hH (List.length_mergeSort _) hg, fun B w0 hb hB hB2 => below_sorted hb hB hB2⟩
set_option maxRecDepth 100000 in
set_option maxHeartbeats 2000000 in
theorem Year_some (rs : List Rule) (y : Int) (b off c : Nat) (w : World) (hb : b < w.heap.size) (hl : rs.length ≤ 1000000) (h0 : 0 < rs.length)
  (hc : ∀ j, j < rs.length → ∀ i u, (Rule.cells rs[j]!)[i]? = some u → w.cell? ⟨b, off + j * 11 + i, none⟩ = some u) :
  Calls Tryz.prog 151 #[.slice (some ⟨b, off, none⟩) rs.length c, .int .i64 y] w fun e w' => ∃ v, e = .returned v ∧ Rd encE 2 w' v (yearF rs y) ∧ Below w.heap.size w w' := by
 obtain ⟨i0, hi0, hz0, hz1, hz2⟩ := info_parts infoE
 have HC := Lib.hid hc
 clear hc
 go_enter Tryz.func151, Tryz.ntmps151
 go_wp2
 go_loopw [5, 12] (fun v i wr => ∃ k : Nat, k ≤ rs.length ∧ i = .int .i64 k ∧ wr.ownsRow w.heap.size 206 2 v (evs y 0 (rs.take k)).length ((evs y 0 (rs.take k)).flatMap encE) ∧ Below w.heap.size w wr) (fun _ i _ => rs.length - (intOf i).toNat)
 case atStart => exact ⟨0, Nat.zero_le _, rfl, ⟨by simp [evs], .inl ⟨rfl, by simp [evs]⟩⟩, Below.refl _ _⟩
 case round =>
  obtain ⟨k, hk, rfl, hown, hbw⟩ := hrel
  by_cases hlt : k < rs.length
  ·have hcell : ∀ i u, (Rule.cells rs[k]!)[i]? = some u → wr.cell? ⟨b, off + k * 11 + i, none⟩ = some u := fun i u hu => (hbw.cell (p := ⟨b, off + k * 11 + i, none⟩) hb).trans (HC.out k hlt i u hu)
   have hr : Hid (rs[k]! = rs[k]!) := rfl
   generalize hrr : rs[k]! = r at *
   have c0 : wr.cell? ⟨b, off + k * 11, none⟩ = _ := hcell 0 _ rfl
   have c1 := hcell 1 _ rfl
   have c2 := hcell 2 _ rfl
   have c3 := hcell 3 _ rfl
   have c4 := hcell 4 _ rfl
   have c5 := hcell 5 _ rfl
   have c6 := hcell 6 _ rfl
   have c7 := hcell 7 _ rfl
   have c8 := hcell 8 _ rfl
   have c9 := hcell 9 _ rfl
   have c10 := hcell 10 _ rfl
   have hev := evs_take y rs k hlt
   rw [hrr] at hev
   have HEV := Lib.hid hev
   have hA := fun W => At_any r y W
   have HA := Lib.hid hA
   have hln := evs_len y 0 (rs.take k)
   rw [List.length_take] at hln
   have hln' : (evs y 0 (rs.take k)).length ≤ k := by omega
   clear hcell hrr hr hev hA hln
   generalize evs y 0 (rs.take k) = E at *
   have HOWN := Lib.hid hown
   clear hown
   by_cases he : (r.at y).2 = 0
   ·have hev1 : Hid (ev1 y k r = [((r.at y).1, (k : Int))]) := if_pos he
    have HE := Lib.hid he
    clear he
    go_wp2_with (first
     | (go_at_call 171; refine (HA.out _).mono ?_; rintro e w1 ⟨rfl, hb1⟩; rw [HE.out])
     | (at_builtin; refine wpList_append_own _ rfl (.tmp 25) (.tmp 29) _ rfl w.heap.size 206 i0 _ 2 16 Tryz.underlying201 hi0 hz0 hz1 hz2 rfl (by decide) _ _ _ rfl ((own_on (HOWN.out.alloc _) hb1).alloc _) ⟨w1.heap.size, 0, none⟩ 1 1 (encE ((r.at y).1, (k : Int))) rfl rfl (new_row w1 _ _) (encE_one _) (by simp only [maxLen]; omega) (by omega) (by have := hbw.size; have := hb1.size; simp at this ⊢; omega) ?_; intro v' w2 hown2 hg2 _))
    have hB1 : Below w.heap.size w (w1.alloc (.cells #[.int .i64 (r.at y).1, .int .i64 (k : Int)] 206)) := ((hbw.alloc hbw.size _).trans (hb1.mono (by have := hbw.size; simp; omega))).alloc (by have := hbw.size; have := hb1.size; simp at this; omega) _
    have hB2 := below_app HOWN.out (Nat.le_refl _) hB1 hg2
    go_roundw
    case rel => exact ⟨k + 1, by omega, by go_num, by rw [HEV.out, hev1.out]; exact own_snoc hown2, hB2⟩
    case measure => simp [intOf]; omega
   ·have hev1 : Hid (ev1 y k r = []) := if_neg he
    have he' : ((r.at y).2 == 0) = false := by simpa using he
    clear he
    go_wp2_with (go_at_call 171; refine (HA.out _).mono ?_; rintro e w1 ⟨rfl, hb1⟩)
    go_roundw
    case rel => exact ⟨k + 1, by omega, by go_num, by rw [HEV.out, hev1.out, List.append_nil]; exact own_on (HOWN.out.alloc _) hb1, (hbw.alloc hbw.size _).trans (hb1.mono (by have := hbw.size; simp; omega))⟩
    case measure => simp [intOf]; omega
  ·have hk' : k = rs.length := by omega
   subst hk'
   rw [List.take_length] at hown
   have hln := evs_len y 0 rs
   have hY := Lib.hid (show yearF rs y = (evs y 0 rs).mergeSort leE from rfl)
   by_cases hv : u5 = .slice none 0 0
   ·have hn : (evs y 0 rs) = [] := by
     rcases hown.2 with ⟨_, e1⟩ | ⟨g, cap, cur, e0, _⟩
     ·exact List.eq_nil_of_length_eq_zero e1
     ·rw [hv] at e0; cases e0
    have hY2 : Hid (yearF rs y = []) := by rw [RowKit.Hid, hY.out, hn, List.mergeSort_nil]
    subst hv
    clear hown hn
    go_wp2_with (go_at_call 172; refine (Tryz.slices_SortFunc_none (α := Int × Int) _ _ _ _).mono ?_; rintro e w1 ⟨rfl, rfl⟩)
    go_ret
    exact ⟨_, rfl, .inl ⟨hY2.out, none, 0, rfl⟩, hbw⟩
   ·obtain ⟨g, cap, rfl, hg1, hg2, hg3, hg4, hH⟩ := holdsK_of_own encE_len hown rfl hv
    have hS := sortE (evs y 0 rs) g cap wr hH hg2 (by omega)
    have HS := Lib.hid hS
    clear hown hv hH hS
    go_wp2_with (go_at_call 172; refine HS.out.mono ?_; rintro e w1 ⟨rfl, hrd, hbl⟩)
    go_ret
    exact ⟨_, rfl, by rw [hY.out]; exact hrd, hbl _ _ hbw hg1 hbw.size⟩
theorem Year_none (y : Int) (A : Option Addr) (c : Nat) (w : World) :
  Calls Tryz.prog 151 #[.slice A 0 c, .int .i64 y] w fun e w' => ∃ v, e = .returned v ∧ Rd encE 2 w' v (yearF [] y) ∧ Below w.heap.size w w' := by
 go_enter Tryz.func151, Tryz.ntmps151
 go_wp2
 refine wp_loop_rounds 1 ?_
 rw [rounds_succ]
 go_wp2_with (go_at_call 172; refine (Tryz.slices_SortFunc_none (α := Int × Int) _ _ _ _).mono ?_; rintro e w1 ⟨rfl, rfl⟩)
 go_ret
 exact ⟨_, rfl, .inl ⟨List.mergeSort_nil, none, 0, rfl⟩, Below.refl _ _⟩
theorem Year_any (rs : List Rule) (y : Int) (v : Value) (w : World) (hl : rs.length ≤ 1000000) (h : Rd Rule.cells 11 w v rs) :
  Calls Tryz.prog 151 #[v, .int .i64 y] w fun e w' => ∃ v, e = .returned v ∧ Rd encE 2 w' v (yearF rs y) ∧ Below w.heap.size w w' := by
 by_cases h0 : rs = []
 ·subst h0
  rcases h with ⟨_, A, c, rfl⟩ | ⟨g, off, c, rfl, _⟩
  ·exact Year_none y A c w
  ·exact Year_none y _ c w
 ·rcases h with ⟨h1, _⟩ | ⟨g, off, c, rfl, hg, hc⟩
  ·exact absurd h1 h0
  ·exact Year_some rs y g off c w hg hl (List.length_pos_iff.2 h0) hc
end Go.Proofs.YtdpbhjaicgkblaaGreatDoor

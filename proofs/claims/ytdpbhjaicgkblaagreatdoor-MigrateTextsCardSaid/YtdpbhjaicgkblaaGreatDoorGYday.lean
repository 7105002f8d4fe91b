/- Joined by merge.py: Yday, Yday1. -/
import Derived.Test.YtdpbhjaicgkblaaGreatDoorJCivil
import Derived.Laws.EntriesVeiled
import Derived.Deep.RegionHeld3
/- Contracts of yearrule.fits, back, days and Day over this seat's translation. -/
namespace Go.Proofs.YtdpbhjaicgkblaaGreatDoor
set_option linter.unusedSimpArgs false
set_option linter.unusedVariables false
open Go.ChangeShapes Go.WideShapes Go.ChangeAt Go.RowKit
theorem fits_in (mo k wk d : Int) (w : World) (h1 : 1 ≤ mo) (h2 : mo ≤ 12) :
  Calls Tryz.prog 127 #[.int .i64 mo, .agg #[.int .i64 k, .int .i64 wk, .int .i64 d]] w fun e w' => e = .returned (.bool (Cv.fitsB mo k wk d)) ∧ Below w.heap.size w w' := by
 have hm : Cv.fitsB mo k wk d = if k = 1 then Cv.dayB mo d && wk == 0 else if k = 2 then Cv.wkB wk && d == 0 else if k = 3 then Cv.dayB mo d && Cv.wkB wk else if k = 4 then Cv.dayB mo d && Cv.wkB wk else false := by
  unfold Cv.fitsB; rw [if_neg (by omega)]
 rw [hm]
 clear hm
 have hl := Cv.lenF_bd 2000 mo
 have e1 : Cv.dayB mo d = (decide (1 ≤ d) && decide (d ≤ Cv.lenF 2000 mo)) := by unfold Cv.dayB; rw [Bool.eq_iff_iff]; simp
 have e2 : Cv.wkB wk = (decide (1 ≤ wk) && decide (wk ≤ 7)) := by unfold Cv.wkB; rw [Bool.eq_iff_iff]; simp
 rw [e1, e2]
 clear e1 e2
 by_cases g1 : 1 ≤ d
 all_goals by_cases g2 : 1 ≤ wk
 all_goals
  (try have n1 : decide (1 ≤ d) = false := by simpa using g1)
  (try have n2 : decide (1 ≤ wk) = false := by simpa using g2)
  go_enter Tryz.func127, Tryz.ntmps127
  go_wp2
  go_quiet ((go_at_call 105; exact Calls.quiet_of_same ((civil_Length _ _ _).mono fun _ _ h => ⟨h.1, h.2.symm⟩)))
  go_wp2
 all_goals (go_ret; refine ⟨ret1 (vbool ?_), box_drew _ _ _⟩)
 all_goals simp only [beq_iff_eq, beq_eq_false_iff_ne, ne_eq] at *
 all_goals first | rfl | (simp [*]; done) | (simp_all; done) | (simp_all; omega) | skip
theorem fits_any (mo k wk d : Int) (w : World) :
  Calls Tryz.prog 127 #[.int .i64 mo, .agg #[.int .i64 k, .int .i64 wk, .int .i64 d]] w fun e w' => e = .returned (.bool (Cv.fitsB mo k wk d)) ∧ Below w.heap.size w w' := by
 by_cases h1 : 1 ≤ mo
 ·by_cases h2 : mo ≤ 12
  ·exact fits_in mo k wk d w h1 h2
  ·rw [show Cv.fitsB mo k wk d = false from if_pos (by omega)]
   go_enter Tryz.func127, Tryz.ntmps127
   go_wp2
   go_ret
   exact ⟨rfl, box_drew _ _ 0⟩
 ·rw [show Cv.fitsB mo k wk d = false from if_pos (by omega)]
  go_enter Tryz.func127, Tryz.ntmps127
  go_wp2
  go_ret
  exact ⟨rfl, box_drew _ _ 0⟩
theorem back_any (day wk : Int) (w : World) (h1 : -719162 ≤ day) (h2 : day < 2932897) (h3 : 1 ≤ wk) (h4 : wk ≤ 7) :
  Calls Tryz.prog 221 #[.int .i64 day, .int .i64 wk] w fun e w' => e = .returned (.int .i64 (day - (Cv.wd day - wk) % 7)) ∧ ∃ n, w.drewN n = w' := by
 have hw : Cv.wdF day = Cv.wd day := if_pos ⟨h1, h2⟩
 have hb := Cv.wd_bd day
 have h5 : 0 ≤ Cv.wd day - wk + 7 := by omega
 have h6 : 0 ≤ (Cv.wd day - wk + 7) % 7 := by omega
 have h7 : (Cv.wd day - wk + 7) % 7 ≤ 6 := by omega
 have HW := Lib.hid hw
 clear hw
 go_enter Tryz.func221, Tryz.ntmps221
 go_wp2_with (go_at_call 223; refine (civil_Weekday _ _).mono ?_; rintro e w' ⟨rfl, n, rfl⟩; rw [HW.out])
 go_ret
 exact ⟨rfl, _, rfl⟩
theorem days1_any (day wk : Int) (w : World) : Calls Tryz.prog 220 #[.int .i64 day, .int .i64 wk] w fun e w' => e = .returned (.int .i64 day) ∧ ∃ n, w.drewN n = w' := by
 go_enter Tryz.func220, Tryz.ntmps220
 go_wp2
 go_ret
 exact ⟨rfl, 0, rfl⟩
theorem days2_any (day wk : Int) (w : World) (h1 : -719162 ≤ day) (h2 : day < 2932897) (h3 : 1 ≤ wk) (h4 : wk ≤ 7) :
  Calls Tryz.prog 222 #[.int .i64 day, .int .i64 wk] w fun e w' => e = .returned (.int .i64 (day + (wk - Cv.wd day) % 7)) ∧ ∃ n, w.drewN n = w' := by
 have hw : Cv.wdF day = Cv.wd day := if_pos ⟨h1, h2⟩
 have hb := Cv.wd_bd day
 have h5 : 0 ≤ wk - Cv.wd day + 7 := by omega
 have h6 : 0 ≤ (wk - Cv.wd day + 7) % 7 := by omega
 have h7 : (wk - Cv.wd day + 7) % 7 ≤ 6 := by omega
 have HW := Lib.hid hw
 clear hw
 go_enter Tryz.func222, Tryz.ntmps222
 go_wp2_with (go_at_call 223; refine (civil_Weekday _ _).mono ?_; rintro e w' ⟨rfl, n, rfl⟩; rw [HW.out])
 go_ret
 exact ⟨rfl, _, rfl⟩
def daysV : Value := .agg #[.nilFunc, .func (.func 220) #[] #[], .func (.func 221) #[] #[], .func (.func 222) #[] #[], .func (.func 221) #[] #[]]
theorem days_any (w : World) : Calls Tryz.prog 211 #[] w fun e w' => e = .returned daysV ∧ Below w.heap.size w w' := by
 go_enter Tryz.func211, Tryz.ntmps211
 go_wp2
 exact bodyPost_ret (v := daysV) (by simp [results, Tryz.results211, go_sem, daysV]) rfl ⟨rfl, (Below.refl _ _).alloc (Nat.le_refl _) _⟩
theorem daysAt1 (w : World) : (Instr.index 268 daysV (.int .i64 1)).run Tryz.prog w = .ok (.func (.func 220) #[] #[]) w := by kernel_rfl
theorem daysAt2 (w : World) : (Instr.index 268 daysV (.int .i64 2)).run Tryz.prog w = .ok (.func (.func 221) #[] #[]) w := by kernel_rfl
theorem daysAt3 (w : World) : (Instr.index 268 daysV (.int .i64 3)).run Tryz.prog w = .ok (.func (.func 222) #[] #[]) w := by kernel_rfl
theorem daysAt4 (w : World) : (Instr.index 268 daysV (.int .i64 4)).run Tryz.prog w = .ok (.func (.func 221) #[] #[]) w := by kernel_rfl
end Go.Proofs.YtdpbhjaicgkblaaGreatDoor
/- Contracts of yearrule.fits, back, days and Day over this seat's translation. -/
namespace Go.Proofs.YtdpbhjaicgkblaaGreatDoor
set_option linter.unusedSimpArgs false
set_option linter.unusedVariables false
open Go.ChangeShapes Go.WideShapes Go.ChangeAt Go.RowKit
theorem heldOn {w wx w' : World} {k wk : Value} (h : wx.cell? ⟨w.heap.size, 0, none⟩ = some k ∧ wx.cell? ⟨w.heap.size, 1, none⟩ = some wk ∧ Below w.heap.size w wx ∧ w.heap.size < wx.heap.size) (hb : Below wx.heap.size wx w') :
  w'.cell? ⟨w.heap.size, 0, none⟩ = some k ∧ w'.cell? ⟨w.heap.size, 1, none⟩ = some wk ∧ Below w.heap.size w w' ∧ w.heap.size < w'.heap.size :=
 ⟨(hb.cell (p := ⟨w.heap.size, 0, none⟩) h.2.2.2).trans h.1, (hb.cell (p := ⟨w.heap.size, 1, none⟩) h.2.2.2).trans h.2.1, h.2.2.1.trans (hb.mono (by have := h.2.2.2; omega)), by have := hb.size; have := h.2.2.2; omega⟩
theorem keepN {w w' : World} {n : Nat} (h : w.drewN n = w') : Below w.heap.size w w' := h ▸ below_drewN (Below.refl _ _) n
theorem insideB_no {x : Int} (h : x < -719162 ∨ 2932897 ≤ x) : Cv.insideB x = false := by unfold Cv.insideB; rw [decide_eq_false_iff_not]; omega
theorem insideB_yes {x : Int} (h : -719162 ≤ x) (h' : x < 2932897) : Cv.insideB x = true := by unfold Cv.insideB; exact decide_eq_true ⟨h, h'⟩
theorem day_no {x : Int} (h : x < -719162 ∨ 2932897 ≤ x) : (if Cv.insideB x = false then ((0, 2) : Int × Int) else (x, 0)) = (0, 2) := by rw [insideB_no h]; rfl
theorem day_yes {x : Int} (h : -719162 ≤ x) (h' : x < 2932897) : (if Cv.insideB x = false then ((0, 2) : Int × Int) else (x, 0)) = (x, 0) := by rw [insideB_yes h h']; rfl
theorem retP {p : Int × Int} {a b : Int} (h : p = (a, b)) : Ending.returned (.tuple #[.int .i64 a, .int .i64 b]) = .returned (.tuple #[.int .i64 p.1, .int .i64 p.2]) := by rw [h]
set_option maxHeartbeats 4000000 in
theorem Day_in (y mo k wk d : Int) (w : World) (hf : Cv.fitsB mo k wk d = true) (hy : 1 ≤ y ∧ y ≤ 9999) (hv : Cv.validB y mo (Cv.onN y mo k d) = true) :
  Calls Tryz.prog 199 #[.int .i64 y, .int .i64 mo, .agg #[.int .i64 k, .int .i64 wk, .int .i64 d]] w fun e w' => e = .returned (.tuple #[.int .i64 (Cv.dayF y mo k wk d).1, .int .i64 (Cv.dayF y mo k wk d).2]) ∧ Below w.heap.size w w' := by
 have hmo := Cv.fitsB_mo hf
 have hc := Cv.count_in hv
 have hd : Cv.dayF y mo k wk d = if Cv.insideB (Cv.onDay k wk (Cv.count y mo (Cv.onN y mo k d))) = false then (0, 2) else (Cv.onDay k wk (Cv.count y mo (Cv.onN y mo k d)), 0) := by
  unfold Cv.dayF; rw [if_neg (by simp [hf]), if_neg (by omega), if_neg (by simp [hv])]
 have hwk := fun h => Cv.fitsB_wk hf h
 have ho := Cv.onDay_bd (k := k) (wk := wk) (day := Cv.count y mo (Cv.onN y mo k d)) hwk
 have hk := Cv.fitsB_k hf
 have HF := Lib.hid hf
 have HV := Lib.hid hv
 clear hf hv
 obtain ⟨a1, a2⟩ := hy
 obtain ⟨a3, a4⟩ := hmo
 obtain ⟨a5, a6⟩ := hc
 have hk' : k = 1 ∨ k = 2 ∨ k = 3 ∨ k = 4 := by omega
 clear hk
 rcases hk' with rfl | rfl | rfl | rfl
 ·have hi := daysAt1
  rw [show Cv.onN y mo 1 d = d from rfl] at *
  rw [show Cv.onDay 1 wk (Cv.count y mo d) = Cv.count y mo d from rfl] at *
  have hwk' : 1 ≤ wk ∧ wk ≤ 7 ∨ 1 = 1 := by exact .inr rfl
  have HR := Lib.hid hd
  clear hd hwk
  clear hwk'
  go_enter Tryz.func199, Tryz.ntmps199
  go_wp2_with (first
   | (go_at_call 127; refine (fits_any _ _ _ _ _).mono ?_; rintro e w1 ⟨rfl, hb1⟩; rw [HF.out]; obtain ⟨hc1, hf1⟩ := bcell hb1; have hs1 : w.heap.size < w1.heap.size := by have := hb1.size; simp at this; omega)
   | (go_at_call 88; refine (civil_Day _ _ _ _).mono ?_; rintro e w2 ⟨rfl, hb2⟩; rw [HV.out]; obtain ⟨hc2, hf2⟩ := bcell hb2))
  have c0 : w2.cell? ⟨w.heap.size, 0, none⟩ = some (.int .i64 1) := (hc2 _ _ hs1).trans ((hc1 _ _ (by simp)).trans (by simp))
  have c1 : w2.cell? ⟨w.heap.size, 1, none⟩ = some (.int .i64 wk) := (hc2 _ _ hs1).trans ((hc1 _ _ (by simp)).trans (by simp))
  have hb0 : Below w.heap.size w w2 := (((Below.refl _ _).alloc (Nat.le_refl _) _).trans (hb1.mono (by simp))).trans (hb2.mono (by omega))
  clear hc1 hc2 hf1 hf2
  go_region_held3 (fun w' => w'.cell? ⟨w.heap.size, 0, none⟩ = some (.int .i64 1) ∧ w'.cell? ⟨w.heap.size, 1, none⟩ = some (.int .i64 wk) ∧ Below w.heap.size w w' ∧ w.heap.size < w'.heap.size) (first | exact ⟨c0, c1, hb0.drew, by have := hb2.size; simp; omega⟩ | exact heldOn (by assumption) hbd | go_keep)
   (first | (go_at_call 211; refine (days_any _).mono ?_; rintro e w' ⟨rfl, hbd⟩) | (go_at_call 220; refine (days1_any _ _ _).mono ?_; rintro e w' ⟨rfl, n, hn⟩; have hbd := keepN hn; clear hn))
  have hz := (by assumption : _ ∧ _ ∧ Below w.heap.size w w' ∧ _).2.2.1
  go_wp2
  all_goals go_ret2
  all_goals first | exact ⟨retP (HR.out.trans (day_yes (by omega) (by omega))), hz⟩ | exact ⟨retP (HR.out.trans (day_no (by omega))), hz⟩
 ·have hi := daysAt2
  rw [show Cv.onN y mo 2 d = Cv.lenF y mo from rfl] at *
  rw [show Cv.onDay 2 wk (Cv.count y mo (Cv.lenF y mo)) = (Cv.count y mo (Cv.lenF y mo)) - (Cv.wd (Cv.count y mo (Cv.lenF y mo)) - wk) % 7 from rfl] at *
  have hwk' : 1 ≤ wk ∧ wk ≤ 7 ∨ 2 = 1 := by exact .inl (hwk (by omega))
  have HR := Lib.hid hd
  clear hd hwk
  obtain ⟨a7, a8⟩ : 1 ≤ wk ∧ wk ≤ 7 := by omega
  go_enter Tryz.func199, Tryz.ntmps199
  go_wp2_with (first
   | (go_at_call 127; refine (fits_any _ _ _ _ _).mono ?_; rintro e w1 ⟨rfl, hb1⟩; rw [HF.out]; obtain ⟨hc1, hf1⟩ := bcell hb1; have hs1 : w.heap.size < w1.heap.size := by have := hb1.size; simp at this; omega)
   | (go_at_call 105; refine (civil_Length _ _ _).mono ?_; rintro e w' ⟨rfl, rfl⟩)
   | (go_at_call 88; refine (civil_Day _ _ _ _).mono ?_; rintro e w2 ⟨rfl, hb2⟩; rw [HV.out]; obtain ⟨hc2, hf2⟩ := bcell hb2))
  have c0 : w2.cell? ⟨w.heap.size, 0, none⟩ = some (.int .i64 2) := (hc2 _ _ hs1).trans ((hc1 _ _ (by simp)).trans (by simp))
  have c1 : w2.cell? ⟨w.heap.size, 1, none⟩ = some (.int .i64 wk) := (hc2 _ _ hs1).trans ((hc1 _ _ (by simp)).trans (by simp))
  have hb0 : Below w.heap.size w w2 := (((Below.refl _ _).alloc (Nat.le_refl _) _).trans (hb1.mono (by simp))).trans (hb2.mono (by omega))
  clear hc1 hc2 hf1 hf2
  go_region_held3 (fun w' => w'.cell? ⟨w.heap.size, 0, none⟩ = some (.int .i64 2) ∧ w'.cell? ⟨w.heap.size, 1, none⟩ = some (.int .i64 wk) ∧ Below w.heap.size w w' ∧ w.heap.size < w'.heap.size) (first | exact ⟨c0, c1, hb0.drew, by have := hb2.size; simp; omega⟩ | exact heldOn (by assumption) hbd | go_keep)
   (first | (go_at_call 211; refine (days_any _).mono ?_; rintro e w' ⟨rfl, hbd⟩) | (go_at_call 221; refine (back_any _ _ _ (by omega) (by omega) (by omega) (by omega)).mono ?_; rintro e w' ⟨rfl, n, hn⟩; have hbd := keepN hn; clear hn))
  have hz := (by assumption : _ ∧ _ ∧ Below w.heap.size w w' ∧ _).2.2.1
  go_wp2
  all_goals go_ret2
  all_goals first | exact ⟨retP (HR.out.trans (day_yes (by omega) (by omega))), hz⟩ | exact ⟨retP (HR.out.trans (day_no (by omega))), hz⟩
 ·have hi := daysAt3
  rw [show Cv.onN y mo 3 d = d from rfl] at *
  rw [show Cv.onDay 3 wk (Cv.count y mo d) = (Cv.count y mo d) + (wk - Cv.wd (Cv.count y mo d)) % 7 from rfl] at *
  have hwk' : 1 ≤ wk ∧ wk ≤ 7 ∨ 3 = 1 := by exact .inl (hwk (by omega))
  have HR := Lib.hid hd
  clear hd hwk
  obtain ⟨a7, a8⟩ : 1 ≤ wk ∧ wk ≤ 7 := by omega
  go_enter Tryz.func199, Tryz.ntmps199
  go_wp2_with (first
   | (go_at_call 127; refine (fits_any _ _ _ _ _).mono ?_; rintro e w1 ⟨rfl, hb1⟩; rw [HF.out]; obtain ⟨hc1, hf1⟩ := bcell hb1; have hs1 : w.heap.size < w1.heap.size := by have := hb1.size; simp at this; omega)
   | (go_at_call 88; refine (civil_Day _ _ _ _).mono ?_; rintro e w2 ⟨rfl, hb2⟩; rw [HV.out]; obtain ⟨hc2, hf2⟩ := bcell hb2))
  have c0 : w2.cell? ⟨w.heap.size, 0, none⟩ = some (.int .i64 3) := (hc2 _ _ hs1).trans ((hc1 _ _ (by simp)).trans (by simp))
  have c1 : w2.cell? ⟨w.heap.size, 1, none⟩ = some (.int .i64 wk) := (hc2 _ _ hs1).trans ((hc1 _ _ (by simp)).trans (by simp))
  have hb0 : Below w.heap.size w w2 := (((Below.refl _ _).alloc (Nat.le_refl _) _).trans (hb1.mono (by simp))).trans (hb2.mono (by omega))
  clear hc1 hc2 hf1 hf2
  go_region_held3 (fun w' => w'.cell? ⟨w.heap.size, 0, none⟩ = some (.int .i64 3) ∧ w'.cell? ⟨w.heap.size, 1, none⟩ = some (.int .i64 wk) ∧ Below w.heap.size w w' ∧ w.heap.size < w'.heap.size) (first | exact ⟨c0, c1, hb0.drew, by have := hb2.size; simp; omega⟩ | exact heldOn (by assumption) hbd | go_keep)
   (first | (go_at_call 211; refine (days_any _).mono ?_; rintro e w' ⟨rfl, hbd⟩) | (go_at_call 222; refine (days2_any _ _ _ (by omega) (by omega) (by omega) (by omega)).mono ?_; rintro e w' ⟨rfl, n, hn⟩; have hbd := keepN hn; clear hn))
  have hz := (by assumption : _ ∧ _ ∧ Below w.heap.size w w' ∧ _).2.2.1
  go_wp2
  all_goals go_ret2
  all_goals first | exact ⟨retP (HR.out.trans (day_yes (by omega) (by omega))), hz⟩ | exact ⟨retP (HR.out.trans (day_no (by omega))), hz⟩
 ·have hi := daysAt4
  rw [show Cv.onN y mo 4 d = d from rfl] at *
  rw [show Cv.onDay 4 wk (Cv.count y mo d) = (Cv.count y mo d) - (Cv.wd (Cv.count y mo d) - wk) % 7 from rfl] at *
  have hwk' : 1 ≤ wk ∧ wk ≤ 7 ∨ 4 = 1 := by exact .inl (hwk (by omega))
  have HR := Lib.hid hd
  clear hd hwk
  obtain ⟨a7, a8⟩ : 1 ≤ wk ∧ wk ≤ 7 := by omega
  go_enter Tryz.func199, Tryz.ntmps199
  go_wp2_with (first
   | (go_at_call 127; refine (fits_any _ _ _ _ _).mono ?_; rintro e w1 ⟨rfl, hb1⟩; rw [HF.out]; obtain ⟨hc1, hf1⟩ := bcell hb1; have hs1 : w.heap.size < w1.heap.size := by have := hb1.size; simp at this; omega)
   | (go_at_call 88; refine (civil_Day _ _ _ _).mono ?_; rintro e w2 ⟨rfl, hb2⟩; rw [HV.out]; obtain ⟨hc2, hf2⟩ := bcell hb2))
  have c0 : w2.cell? ⟨w.heap.size, 0, none⟩ = some (.int .i64 4) := (hc2 _ _ hs1).trans ((hc1 _ _ (by simp)).trans (by simp))
  have c1 : w2.cell? ⟨w.heap.size, 1, none⟩ = some (.int .i64 wk) := (hc2 _ _ hs1).trans ((hc1 _ _ (by simp)).trans (by simp))
  have hb0 : Below w.heap.size w w2 := (((Below.refl _ _).alloc (Nat.le_refl _) _).trans (hb1.mono (by simp))).trans (hb2.mono (by omega))
  clear hc1 hc2 hf1 hf2
  go_region_held3 (fun w' => w'.cell? ⟨w.heap.size, 0, none⟩ = some (.int .i64 4) ∧ w'.cell? ⟨w.heap.size, 1, none⟩ = some (.int .i64 wk) ∧ Below w.heap.size w w' ∧ w.heap.size < w'.heap.size) (first | exact ⟨c0, c1, hb0.drew, by have := hb2.size; simp; omega⟩ | exact heldOn (by assumption) hbd | go_keep)
   (first | (go_at_call 211; refine (days_any _).mono ?_; rintro e w' ⟨rfl, hbd⟩) | (go_at_call 221; refine (back_any _ _ _ (by omega) (by omega) (by omega) (by omega)).mono ?_; rintro e w' ⟨rfl, n, hn⟩; have hbd := keepN hn; clear hn))
  have hz := (by assumption : _ ∧ _ ∧ Below w.heap.size w w' ∧ _).2.2.1
  go_wp2
  all_goals go_ret2
  all_goals first | exact ⟨retP (HR.out.trans (day_yes (by omega) (by omega))), hz⟩ | exact ⟨retP (HR.out.trans (day_no (by omega))), hz⟩
theorem Day_any (y mo k wk d : Int) (w : World) :
  Calls Tryz.prog 199 #[.int .i64 y, .int .i64 mo, .agg #[.int .i64 k, .int .i64 wk, .int .i64 d]] w fun e w' => e = .returned (.tuple #[.int .i64 (Cv.dayF y mo k wk d).1, .int .i64 (Cv.dayF y mo k wk d).2]) ∧ Below w.heap.size w w' := by
 cases hf : Cv.fitsB mo k wk d
 ·rw [show Cv.dayF y mo k wk d = (0, 1) by unfold Cv.dayF; rw [if_pos hf]]
  have HF := Lib.hid hf
  clear hf
  go_enter Tryz.func199, Tryz.ntmps199
  go_wp2_with (go_at_call 127; refine (fits_any _ _ _ _ _).mono ?_; rintro e w1 ⟨rfl, hb1⟩; rw [HF.out])
  go_ret2
  exact ⟨rfl, ((Below.refl _ _).alloc (Nat.le_refl _) _).trans (hb1.mono (by simp))⟩
 ·by_cases hy : 1 ≤ y ∧ y ≤ 9999
  ·cases hv : Cv.validB y mo (Cv.onN y mo k d)
   ·rw [show Cv.dayF y mo k wk d = (0, 7) by unfold Cv.dayF; rw [if_neg (by simp [hf]), if_neg (by omega), if_pos hv]]
    have HF := Lib.hid hf
    obtain ⟨a1, a2⟩ := hy
    clear hf
    by_cases hk : k = 2
    all_goals
     (try subst hk)
     (try rw [show Cv.onN y mo k d = d from if_neg hk] at hv)
     (try rw [show Cv.onN y mo 2 d = Cv.lenF y mo from rfl] at hv)
     have HV := Lib.hid hv
     clear hv
     go_enter Tryz.func199, Tryz.ntmps199
     go_wp2_with (first
      | (go_at_call 127; refine (fits_any _ _ _ _ _).mono ?_; rintro e w1 ⟨rfl, hb1⟩; rw [HF.out]; obtain ⟨hc1, hf1⟩ := bcell hb1; have hs1 : w.heap.size < w1.heap.size := by have := hb1.size; simp at this; omega)
      | (go_at_call 105; refine (civil_Length _ _ _).mono ?_; rintro e w' ⟨rfl, rfl⟩)
      | (go_at_call 88; refine (civil_Day _ _ _ _).mono ?_; rintro e w2 ⟨rfl, hb2⟩; rw [HV.out]))
     go_ret2
     exact ⟨rfl, (((Below.refl _ _).alloc (Nat.le_refl _) _).trans (hb1.mono (by simp))).trans (hb2.mono (by omega))⟩
   ·exact Day_in y mo k wk d w hf hy hv
  ·rw [show Cv.dayF y mo k wk d = (0, 2) by unfold Cv.dayF; rw [if_neg (by simp [hf]), if_pos (by omega)]]
   have HF := Lib.hid hf
   clear hf
   by_cases h1 : y < 1
   ·clear hy
    go_enter Tryz.func199, Tryz.ntmps199
    go_wp2_with (go_at_call 127; refine (fits_any _ _ _ _ _).mono ?_; rintro e w1 ⟨rfl, hb1⟩; rw [HF.out])
    go_ret2
    exact ⟨rfl, ((Below.refl _ _).alloc (Nat.le_refl _) _).trans (hb1.mono (by simp))⟩
   ·have h2 : 9999 < y := by omega
    clear hy
    go_enter Tryz.func199, Tryz.ntmps199
    go_wp2_with (go_at_call 127; refine (fits_any _ _ _ _ _).mono ?_; rintro e w1 ⟨rfl, hb1⟩; rw [HF.out])
    go_ret2
    exact ⟨rfl, ((Below.refl _ _).alloc (Nat.le_refl _) _).trans (hb1.mono (by simp))⟩
end Go.Proofs.YtdpbhjaicgkblaaGreatDoor

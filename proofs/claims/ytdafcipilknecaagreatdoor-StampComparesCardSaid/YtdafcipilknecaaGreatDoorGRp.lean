/- Joined by merge.py: Ref22p, Ref24v. -/
import Derived.Test.YtdafcipilknecaaGreatDoorGRf
import Derived.BigQuiet
import Derived.Test.YtdafcipilknecaaGreatDoorGHis
import Derived.Test.YtdafcipilknecaaGreatDoorGZc
/- The reference of layer 22 at a valid zone: spaced, tail, Valid. Printed by gen_ref22p.py. -/
namespace Go.Proofs.YtdafcipilknecaaGreatDoor
set_option linter.unusedSimpArgs false
set_option linter.unusedVariables false
open Go.ChangeShapes Go.WideShapes Go.ChangeAt Go.RowKit
def LastP (P : List (Int × Int × Int)) (L : Int) : Prop := ((P = [] ∧ L = -124271193600) ∨ ∃ p ∈ P, p.2.1 = L) ∧ -124271193600 ≤ L ∧ L ≤ 300000000000
theorem LastP.zero : LastP [] (-124271193600) := ⟨.inl ⟨rfl, rfl⟩, by decide, by decide⟩
theorem LastP.add {P : List (Int × Int × Int)} (x : Int × Int × Int) (h1 : -124271193600 ≤ x.2.1) (h2 : x.2.1 ≤ 300000000000) : LastP (P ++ [x]) x.2.1 := ⟨.inr ⟨x, by simp, rfl⟩, h1, h2⟩
theorem ev_lo {rs : List Rule} {y : Int} {x : Int × Int} (h : x ∈ yearF rs y) : -62200000000 ≤ x.1 := by
 obtain ⟨h1, h2, h3, _⟩ := ev_bd h
 have := Cv.first_bd (y := y) (by omega) (by omega)
 unfold loL at h3
 have hf : -719162 ≤ Cv.first y := by unfold Cv.first; omega
 omega
theorem evT_pre {rs : List Rule} {a : Int} {m n k : Nat} (hm : m < n) : (evK rs a m k).Sublist (evT rs a n) := by
 have e : n = (m + 1) + (n - m - 1) := by omega
 rw [e, evT_add]
 refine List.Sublist.trans ?_ (List.sublist_append_left _ _)
 rw [← evK_all]
 unfold evK
 refine List.Sublist.append_left ?_ _
 rw [List.take_length]
 exact (List.take_sublist _ _).map _
theorem LastP.far {rs : List Rule} {a L : Int} {m n k : Nat} (hfar : (evT rs a n).Pairwise farP) (hm : m < n) (hk : k < (yearF rs (a + m)).length) (h : LastP (evK rs a m k) L) : 604800 ≤ ((yearF rs (a + m))[k]!).1 - L := by
 have hx : (yearF rs (a + m))[k]! ∈ yearF rs (a + m) := by rw [getElem!_pos _ k hk]; exact List.getElem_mem hk
 have hlo := ev_lo hx
 rcases h.1 with ⟨_, rfl⟩ | ⟨p, hp, rfl⟩
 ·omega
 ·have hs := hfar.sublist (evT_pre (k := k + 1) hm)
  rw [evK_succ _ _ _ _ hk] at hs
  exact (List.pairwise_append.1 hs).2.2 p hp _ (List.mem_singleton.2 rfl)
set_option maxRecDepth 100000 in
set_option maxHeartbeats 2000000 in
theorem r22_spacedP (z : Zn) (vT vR : Value) (w : World) (hll : z.tail.length ≤ 12) (hR : Rd Rule.cells 11 w vR z.tail) (hT : ∃ A c, vT = .slice A z.table.length c) (h1 : 1 ≤ z.year) (h2 : z.year ≤ 9999) (n : Nat) (hn : (n : Int) = min (z.year + 400) 9999 - z.year + 1) (hfar : (evT z.tail z.year n).Pairwise farP) :
  Calls Tryz.prog 144 #[z.v vT vR] w fun e w' => e = .returned (.bool true) ∧ Below w.heap.size w w' := by
 have HY := Lib.hid (fun y v W (h : Rd Rule.cells 11 W v z.tail) => r20_Year z.tail y v W (by omega) h)
 have HR := Lib.hid hR
 have hlen : ∀ y, (yearF z.tail y).length ≤ 12 := fun y => by
  have := evs_len y 0 z.tail
  rw [yearF_len]; omega
 obtain ⟨AT, cT, rfl⟩ := hT
 obtain ⟨AR, cR, rfl⟩ := rd_vf hR
 clear hR
 have hzc := alloc_cells w [.string z.nm, .int .i64 z.first.off, .int .i64 z.first.sv, .string z.first.nm, .slice AT z.table.length cT, .slice AR z.tail.length cR, .int .i64 z.off, .string z.form, .int .i64 z.year] 48
 have hbz : Below w.heap.size w (w.alloc (.cells #[.string z.nm, .int .i64 z.first.off, .int .i64 z.first.sv, .string z.first.nm, .slice AT z.table.length cT, .slice AR z.tail.length cR, .int .i64 z.off, .string z.form, .int .i64 z.year] 48)) := (Below.refl _ _).alloc (Nat.le_refl _) _
 have hszz : w.heap.size < (w.alloc (.cells #[.string z.nm, .int .i64 z.first.off, .int .i64 z.first.sv, .string z.first.nm, .slice AT z.table.length cT, .slice AR z.tail.length cR, .int .i64 z.off, .string z.form, .int .i64 z.year] 48)).heap.size := by simp
 have ZC5 := Lib.hid (hzc 5 _ rfl)
 have ZC8 := Lib.hid (hzc 8 _ rfl)
 have HBZ := Lib.hid hbz
 clear hzc hbz
 unfold Zn.v
 generalize hZ : z.year = Z at *
 have HN := Lib.hid hn
 have HFAR := Lib.hid hfar
 clear hfar
 have hn1 : n ≤ 401 := by omega
 clear hn
 go_enter Tryz.func144, Tryz.ntmps144
 go_wp2_with fail
 generalize w.alloc (.cells #[.string z.nm, .int .i64 z.first.off, .int .i64 z.first.sv, .string z.first.nm, .slice AT z.table.length cT, .slice AR z.tail.length cR, .int .i64 z.off, .string z.form, .int .i64 Z] 48) = wz at *
 go_loopw [3, 4] (fun v3 v4 wr => ∃ (m : Nat) (L : Int), m ≤ n ∧ v3 = .int .i64 L ∧ v4 = .int .i64 (Z + m) ∧ LastP (evT z.tail Z m) L ∧ Below wz.heap.size wz wr) (fun _ y _ => (20000 - intOf y).toNat)
 case atStart => exact ⟨0, _, Nat.zero_le _, rfl, vint (by simp), LastP.zero, Below.refl _ _⟩
 case round =>
  obtain ⟨m, L, hm, rfl, rfl, hsi, hbw⟩ := hrel
  have HSI := Lib.hid hsi
  have hL3 := hsi.2.1
  have hL4 := hsi.2.2
  clear hsi
  have yc5 : wr.cell? ⟨w.heap.size, 5, none⟩ = _ := (hbw.cell (p := ⟨w.heap.size, 5, none⟩) hszz).trans ZC5.out
  have yc8 : wr.cell? ⟨w.heap.size, 8, none⟩ = _ := (hbw.cell (p := ⟨w.heap.size, 8, none⟩) hszz).trans ZC8.out
  have hB : Below w.heap.size w wr := HBZ.out.trans (hbw.mono HBZ.out.size)
  by_cases hlt : m < n
  ·have hle : Z + (m : Int) ≤ min (Z + 400) 9999 := by have := HN.out; omega
   have hl12 := hlen (Z + m)
   have HYB := Lib.hid (fun (k : Nat) (hk : k < (yearF z.tail (Z + m)).length) => year_bd (rs := z.tail) (y := Z + m) (x := (yearF z.tail (Z + m))[k]!) (by rw [getElem!_pos _ k hk]; exact List.getElem_mem hk))
   have HK0 := Lib.hid (evK_zero z.tail Z m)
   have HKA := Lib.hid (evK_all z.tail Z m)
   have HKS := Lib.hid (evK_succ z.tail Z m)
   have HFX := Lib.hid (fun (k : Nat) L (hk : k < (yearF z.tail (Z + m)).length) (h : LastP (evK z.tail Z m k) L) => LastP.far HFAR.out hlt hk h)
   have HLO := Lib.hid (fun (k : Nat) (hk : k < (yearF z.tail (Z + m)).length) => ev_lo (rs := z.tail) (y := Z + m) (x := (yearF z.tail (Z + m))[k]!) (by rw [getElem!_pos _ k hk]; exact List.getElem_mem hk))
   go_wp2_with (go_at_call 183; refine (HY.out _ _ _ (HR.out.on hB)).mono ?_; rintro e w5 ⟨v5, rfl, i5, hb5⟩)
   have R5 := Lib.hid i5.rd
   clear i5
   obtain ⟨A5, c5, rfl⟩ := rd_len R5.out
   generalize yearF z.tail (Z + m) = X at *
   have hbw5 : Below wz.heap.size wz w5 := hbw.trans (hb5.mono hbw.size)
   generalize hq : wr = wq at *
   clear hq
   go_loopw [3, 6] (fun v3 v6 wv => ∃ (k : Nat) (L : Int), k ≤ X.length ∧ v3 = .int .i64 L ∧ v6 = .int .i64 k ∧ LastP (evK z.tail Z m k) L ∧ Below w5.heap.size w5 wv) (fun _ i _ => X.length - (intOf i).toNat)
   case atStart => exact ⟨0, L, Nat.zero_le _, rfl, rfl, by rw [HK0.out]; exact HSI.out, Below.refl _ _⟩
   case round =>
    obtain ⟨k, L, hk, rfl, rfl, hsi, hbk⟩ := hrel
    have HSK := Lib.hid hsi
    have hL3 := hsi.2.1
    have hL4 := hsi.2.2
    clear hsi
    by_cases hkl : k < X.length
    ·obtain ⟨g7, o7, hA7, hg7, hc7⟩ : ∃ g off, A5 = some ⟨g, off, none⟩ ∧ g < w5.heap.size ∧ ∀ j, j < X.length → ∀ i u, (encE X[j]!)[i]? = some u → w5.cell? ⟨g, off + j * 2 + i, none⟩ = some u := by
      rcases R5.out with ⟨h0, _⟩ | ⟨g, off, c', hv', hg, hc⟩
      ·rw [h0] at hkl; simp at hkl
      ·cases hv'; exact ⟨g, off, rfl, hg, hc⟩
     subst hA7
     have e0 : wr.cell? ⟨g7, o7 + k * 2, none⟩ = some (.int .i64 (X[k]!).1) := (hbk.cell (p := ⟨g7, o7 + k * 2, none⟩) hg7).trans (hc7 k hkl 0 _ rfl)
     have e1 : wr.cell? ⟨g7, o7 + k * 2 + 1, none⟩ = some (.int .i64 (X[k]!).2) := (hbk.cell (p := ⟨g7, o7 + k * 2 + 1, none⟩) hg7).trans (hc7 k hkl 1 _ rfl)
     have hxb := HYB.out k hkl
     have hxl := HLO.out k hkl
     have hfx := HFX.out k L hkl HSK.out
     have HST := Lib.hid (show LastP (evK z.tail Z m (k + 1)) (X[k]!).1 by rw [HKS.out k hkl]; exact LastP.add (Z + m, X[k]!) (show -124271193600 ≤ (X[k]!).1 by omega) hxb.2)
     clear hc7
     generalize X[k]! = x at *
     go_wp2
     go_roundw
     case rel => exact ⟨k + 1, x.1, by omega, rfl, by go_num, HST.out, hbk⟩
     case measure => simp [intOf]; omega
    ·have hk' : k = X.length := by omega
     subst hk'
     rw [HKA.out] at HSK
     go_wp2
     go_roundw
     case rel => exact ⟨m + 1, L, by omega, rfl, by go_num, HSK.out, hbw5.trans (hbk.mono hbw5.size)⟩
     case measure => simp [intOf]; omega
  ·have hm' : m = n := by omega
   subst hm'
   have hno : min (Z + 400) 9999 < Z + (m : Int) := by have := HN.out; omega
   go_wp2
   go_ret
   exact ⟨rfl, hB⟩
theorem behind_ref {z : Zn} (ok : TailOk z) {n : Nat} (hn : (n : Int) = min (z.year + 12) 9999 - z.year + 1) (h : z.behindB = true) : z.table = [] ∨ z.happ z.lastT.sv (evT z.tail z.year n) = [] ∨ ∃ x xs, z.happ z.lastT.sv (evT z.tail z.year n) = x :: xs ∧ z.lastAt < x.2.at_ := by
 have y1 := ok.y1
 have y2 := ok.y2
 have e : (10000 - z.year).toNat = n + (10000 - z.year - n).toNat := by omega
 have eH : z.HF = z.happ z.lastT.sv (evT z.tail z.year n) ++ z.happ (z.aft z.lastT.sv (evT z.tail z.year n)) (evT z.tail (z.year + n) (10000 - z.year - n).toNat) := by
  unfold Zn.HF
  rw [e, evT_add, happ_append]
 unfold Zn.behindB at h
 rw [eH] at h
 by_cases ht : z.table = []
 ·exact .inl ht
 ·cases hh : z.happ z.lastT.sv (evT z.tail z.year n) with
  | nil => exact .inr (.inl rfl)
  | cons x xs =>
   rw [hh, List.cons_append] at h
   refine .inr (.inr ⟨x, xs, rfl, ?_⟩)
   simpa [ht] using h
set_option maxRecDepth 100000 in
set_option maxHeartbeats 4000000 in
theorem r22_tail_rulesP (z : Zn) (vT vR : Value) (w : World) (hl : z.table.length ≤ 1000) (hll : z.tail.length ≤ 12) (hT : Rd Trn.cells 4 w vT z.table) (hR : Rd Rule.cells 11 w vR z.tail) (hfs : z.form.size ≤ 2000000) (h0 : z.tail ≠ []) (hb : 1 ≤ z.year ∧ z.year ≤ 9999 ∧ -57600 ≤ z.off ∧ z.off ≤ 57600) (hH : z.headB = true) (hrr : z.tail.all z.ruleB = true) (hss : spacedF z.rules0 = true) (hbb : z.behindB = true) :
  Calls Tryz.prog 108 #[z.v vT vR] w (fun e w' => e = .returned (.bool true) ∧ Below w.heap.size w w') := by
 have HR := Lib.hid hR
 have HT := Lib.hid hT
 obtain ⟨AT, cT, rfl⟩ := rd_vf hT
 obtain ⟨AR, cR, rfl⟩ := rd_vf hR
 have hpos : 0 < z.tail.length := List.length_pos_iff.2 h0
 have hne0 : ((z.tail.length : Int) == 0) = false := by simp; omega
 obtain ⟨n1, hn1⟩ : ∃ n : Nat, (n : Int) = min (z.year + 400) 9999 - z.year + 1 := ⟨(min (z.year + 400) 9999 - z.year + 1).toNat, by omega⟩
 obtain ⟨n2, hn2⟩ : ∃ n : Nat, (n : Int) = min (z.year + 12) 9999 - z.year + 1 := ⟨(min (z.year + 12) 9999 - z.year + 1).toNat, by omega⟩
 have HSp := Lib.hid (fun W h => r22_spacedP z (.slice AT z.table.length cT) (.slice AR z.tail.length cR) W hll h ⟨_, _, rfl⟩ hb.1 hb.2.1 n1 hn1 ((evT_far (fun y hy => far0 hb.1 hb.2.1 hrr hss y hy) n1).imp (fun h => h.2)))
 have HHp := Lib.hid (fun W hT hR h1 h2 => r22_happenings z (.slice AT z.table.length cT) (.slice AR z.tail.length cR) (z.year + 12) W (by omega) hll hT hR hfs hb.1 hb.2.1 n2 hn2 (by omega) hb.2.2 h1 h2)
 have HBe := Lib.hid (behind_ref (tail_ok hH h0 hb hrr hss) hn2 hbb)
 have HSv := Lib.hid (typB_sv (lastT_sv hH)).2
 have HRs := Lib.hid (fun r (hr : r ∈ z.tail) => (⟨(Rule.valid_ok (all_rules hrr hr).1).sv0, (Rule.valid_ok (all_rules hrr hr).1).sv1⟩ : -10800 ≤ r.sv ∧ r.sv ≤ 10800))
 have HRU := Lib.hid hrr
 clear hrr hss hbb
 obtain ⟨hb1, hb2, hb3, hb4⟩ := hb
 clear hT hR hn1 hn2
 have hzc := alloc_cells w [.string z.nm, .int .i64 z.first.off, .int .i64 z.first.sv, .string z.first.nm, .slice AT z.table.length cT, .slice AR z.tail.length cR, .int .i64 z.off, .string z.form, .int .i64 z.year] 48
 have hbz : Below w.heap.size w (w.alloc (.cells #[.string z.nm, .int .i64 z.first.off, .int .i64 z.first.sv, .string z.first.nm, .slice AT z.table.length cT, .slice AR z.tail.length cR, .int .i64 z.off, .string z.form, .int .i64 z.year] 48)) := (Below.refl _ _).alloc (Nat.le_refl _) _
 have hszz : w.heap.size < (w.alloc (.cells #[.string z.nm, .int .i64 z.first.off, .int .i64 z.first.sv, .string z.first.nm, .slice AT z.table.length cT, .slice AR z.tail.length cR, .int .i64 z.off, .string z.form, .int .i64 z.year] 48)).heap.size := by simp
 have HZC := Lib.hid hzc
 have HBZ := Lib.hid hbz
 clear hzc hbz
 unfold Zn.v at HSp HHp ⊢
 generalize hZ : z.year = Z at *
 go_enter Tryz.func108, Tryz.ntmps108
 go_wp2_with fail
 generalize w.alloc (.cells #[.string z.nm, .int .i64 z.first.off, .int .i64 z.first.sv, .string z.first.nm, .slice AT z.table.length cT, .slice AR z.tail.length cR, .int .i64 z.off, .string z.form, .int .i64 Z] 48) = wz at *
 go_loopw [3] (fun v3 wr => ∃ k : Nat, k ≤ z.tail.length ∧ v3 = .int .i64 k ∧ Below wz.heap.size wz wr) (fun v3 _ => z.tail.length - (intOf v3).toNat)
 case atStart => exact ⟨0, Nat.zero_le _, rfl, Below.refl _ _⟩
 case round =>
  obtain ⟨k, hk, rfl, hbw⟩ := hrel
  have hB : Below w.heap.size w wr := HBZ.out.trans (hbw.mono HBZ.out.size)
  have yc5 : wr.cell? ⟨w.heap.size, 5, none⟩ = _ := (hbw.cell (p := ⟨w.heap.size, 5, none⟩) hszz).trans (HZC.out 5 _ rfl)
  have yc7 : wr.cell? ⟨w.heap.size, 7, none⟩ = _ := (hbw.cell (p := ⟨w.heap.size, 7, none⟩) hszz).trans (HZC.out 7 _ rfl)
  have yc8 : wr.cell? ⟨w.heap.size, 8, none⟩ = _ := (hbw.cell (p := ⟨w.heap.size, 8, none⟩) hszz).trans (HZC.out 8 _ rfl)
  by_cases hkl : k < z.tail.length
  ·obtain ⟨g, off, c, hRv, hg, hcr⟩ : ∃ g off c, Value.slice AR z.tail.length cR = .slice (some ⟨g, off, none⟩) z.tail.length c ∧ g < w.heap.size ∧ ∀ j, j < z.tail.length → ∀ i u, (Rule.cells z.tail[j]!)[i]? = some u → w.cell? ⟨g, off + j * 11 + i, none⟩ = some u := by
    rcases HR.out with ⟨h0, _⟩ | ⟨g, off, c, hv', hg, hc⟩
    ·rw [h0] at hkl; simp at hkl
    ·exact ⟨g, off, c, hv', hg, hc⟩
   injection hRv with hRA hRl hRc
   subst hRA
   have hcell : ∀ i u, (Rule.cells z.tail[k]!)[i]? = some u → wr.cell? ⟨g, off + k * 11 + i, none⟩ = some u := fun i u hu => (hB.cell (p := ⟨g, off + k * 11 + i, none⟩) hg).trans (hcr k hkl i u hu)
   have HRB := Lib.hid (show z.ruleB z.tail[k]! = ((z.tail[k]!).valid && (decide ((z.tail[k]!).to = 9999) && (decide ((z.tail[k]!).fr ≤ Z) && decide ((formatF z.form (z.tail[k]!).lt (z.tail[k]!).sv).2 = 0)))) by unfold Zn.ruleB; rw [hZ])
   have HAK := Lib.hid (List.all_eq_true.1 HRU.out _ (by rw [getElem!_pos z.tail k hkl]; exact List.getElem_mem hkl) : z.ruleB z.tail[k]! = true)
   generalize hrr : z.tail[k]! = r at *
   have r0 : wr.cell? ⟨g, off + k * 11, none⟩ = _ := hcell 0 _ rfl
   have r1 := hcell 1 _ rfl
   have r2 := hcell 2 _ rfl
   have r3 := hcell 3 _ rfl
   have r4 := hcell 4 _ rfl
   have r5 := hcell 5 _ rfl
   have r6 := hcell 6 _ rfl
   have r7 := hcell 7 _ rfl
   have r8 := hcell 8 _ rfl
   have r9 := hcell 9 _ rfl
   have r10 := hcell 10 _ rfl
   have hszr : w.heap.size < wr.heap.size := Nat.lt_of_lt_of_le hszz hbw.size
   have HF := Lib.hid (fun W => r20_Format z.form r.lt r.sv W hfs)
   rw [rformat_eq] at HF
   have HV := Lib.hid (fun W => r20_Valid r W)
   clear hcell hrr hcr hRc hRl
   generalize formatF z.form r.lt r.sv = F at *
   generalize r.valid = VV at *
   go_wp2_with fail
   refine (HF.out _).mono ?_
   rintro e w9 ⟨rfl, hb9⟩
   have hB9 : Below wr.heap.size wr w9 := (alloc_below' wr _).trans (hb9.mono (by simp))
   have q := fun i u (hu : (Rule.cells r)[i]? = some u) => (hb9.cell (p := ⟨wr.heap.size, i, none⟩) (by simp)).trans (alloc_cells wr (Rule.cells r) 85 i u hu)
   have q0 := q 0 _ rfl
   have q1 := q 1 _ rfl
   have q2 := q 2 _ rfl
   have q3 := q 3 _ rfl
   have q4 := q 4 _ rfl
   have q5 := q 5 _ rfl
   have q6 := q 6 _ rfl
   have q7 := q 7 _ rfl
   have q8 := q 8 _ rfl
   have q9 := q 9 _ rfl
   have q10 := q 10 _ rfl
   clear q
   go_wp2_with fail
   refine (HV.out _).mono ?_
   rintro e w10 ⟨rfl, hb10⟩
   have hB10 : Below wr.heap.size wr w10 := hB9.trans (hb10.mono hB9.size)
   have hz9 : wr.heap.size < w9.heap.size := by have := hb9.size; simp at this; omega
   have p1 := (hb10.cell (p := ⟨wr.heap.size, 1, none⟩) hz9).trans q1
   have p2 := (hb10.cell (p := ⟨wr.heap.size, 2, none⟩) hz9).trans q2
   have yd8 : w10.cell? ⟨w.heap.size, 8, none⟩ = _ := (hB10.cell (p := ⟨w.heap.size, 8, none⟩) hszr).trans yc8
   clear q0 q1 q2 q3 q4 q5 q6 q7 q8 q9 q10 r0 r1 r2 r3 r4 r5 r6 r7 r8 r9 r10
   have hall := HRB.out.symm.trans HAK.out
   simp only [Bool.and_eq_true, decide_eq_true_eq] at hall
   obtain ⟨rfl, hto, hfr, hfm⟩ := hall
   have d1 : (r.to != 9999) = false := by rw [bne_eq_false_iff_eq]; exact hto
   have d2 : (F.2 != 0) = false := by rw [bne_eq_false_iff_eq]; exact hfm
   have d3 : decide (Z < r.fr) = false := decide_eq_false (by omega)
   go_wp2
   go_roundw
   case rel => exact ⟨k + 1, by omega, by go_num, hbw.trans (hB10.mono hbw.size)⟩
   case measure => simp [intOf]; omega
  ·have hk' : k = z.tail.length := by omega
   subst hk'
   have hszr : w.heap.size < wr.heap.size := Nat.lt_of_lt_of_le hszz hbw.size
   have x0 : wr.cell? ⟨w.heap.size, 0, none⟩ = _ := (hbw.cell (p := ⟨w.heap.size, 0, none⟩) hszz).trans (HZC.out 0 _ rfl)
   have x1 : wr.cell? ⟨w.heap.size, 1, none⟩ = _ := (hbw.cell (p := ⟨w.heap.size, 1, none⟩) hszz).trans (HZC.out 1 _ rfl)
   have x2 : wr.cell? ⟨w.heap.size, 2, none⟩ = _ := (hbw.cell (p := ⟨w.heap.size, 2, none⟩) hszz).trans (HZC.out 2 _ rfl)
   have x3 : wr.cell? ⟨w.heap.size, 3, none⟩ = _ := (hbw.cell (p := ⟨w.heap.size, 3, none⟩) hszz).trans (HZC.out 3 _ rfl)
   have x4 : wr.cell? ⟨w.heap.size, 4, none⟩ = _ := (hbw.cell (p := ⟨w.heap.size, 4, none⟩) hszz).trans (HZC.out 4 _ rfl)
   have x5 : wr.cell? ⟨w.heap.size, 5, none⟩ = _ := (hbw.cell (p := ⟨w.heap.size, 5, none⟩) hszz).trans (HZC.out 5 _ rfl)
   have x6 : wr.cell? ⟨w.heap.size, 6, none⟩ = _ := (hbw.cell (p := ⟨w.heap.size, 6, none⟩) hszz).trans (HZC.out 6 _ rfl)
   have x7 : wr.cell? ⟨w.heap.size, 7, none⟩ = _ := (hbw.cell (p := ⟨w.heap.size, 7, none⟩) hszz).trans (HZC.out 7 _ rfl)
   have x8 : wr.cell? ⟨w.heap.size, 8, none⟩ = _ := (hbw.cell (p := ⟨w.heap.size, 8, none⟩) hszz).trans (HZC.out 8 _ rfl)
   have HSp1 := Lib.hid (HSp.out wr (HR.out.on hB))
   clear HSp
   go_wp2_with fail
   refine HSp1.out.mono ?_
   rintro e w3 ⟨rfl, hb3⟩
   have hB3 : Below w.heap.size w w3 := hB.trans (hb3.mono hB.size)
   have hsz3 : w.heap.size < w3.heap.size := Nat.lt_of_lt_of_le hszz (Nat.le_trans hbw.size hb3.size)
   ·skip
    have HH1 := Lib.hid (HHp.out w3 (HT.out.on hB3) (HR.out.on hB3) HSv.out HRs.out)
    clear HHp HSp1
    generalize z.happ z.lastT.sv (evT z.tail Z n2) = H at *
    have y0 : w3.cell? ⟨w.heap.size, 0, none⟩ = _ := (hb3.cell (p := ⟨w.heap.size, 0, none⟩) hszr).trans ((hbw.cell (p := ⟨w.heap.size, 0, none⟩) hszz).trans (HZC.out 0 _ rfl))
    have y1 : w3.cell? ⟨w.heap.size, 1, none⟩ = _ := (hb3.cell (p := ⟨w.heap.size, 1, none⟩) hszr).trans ((hbw.cell (p := ⟨w.heap.size, 1, none⟩) hszz).trans (HZC.out 1 _ rfl))
    have y2 : w3.cell? ⟨w.heap.size, 2, none⟩ = _ := (hb3.cell (p := ⟨w.heap.size, 2, none⟩) hszr).trans ((hbw.cell (p := ⟨w.heap.size, 2, none⟩) hszz).trans (HZC.out 2 _ rfl))
    have y3 : w3.cell? ⟨w.heap.size, 3, none⟩ = _ := (hb3.cell (p := ⟨w.heap.size, 3, none⟩) hszr).trans ((hbw.cell (p := ⟨w.heap.size, 3, none⟩) hszz).trans (HZC.out 3 _ rfl))
    have y4 : w3.cell? ⟨w.heap.size, 4, none⟩ = _ := (hb3.cell (p := ⟨w.heap.size, 4, none⟩) hszr).trans ((hbw.cell (p := ⟨w.heap.size, 4, none⟩) hszz).trans (HZC.out 4 _ rfl))
    have y5 : w3.cell? ⟨w.heap.size, 5, none⟩ = _ := (hb3.cell (p := ⟨w.heap.size, 5, none⟩) hszr).trans ((hbw.cell (p := ⟨w.heap.size, 5, none⟩) hszz).trans (HZC.out 5 _ rfl))
    have y6 : w3.cell? ⟨w.heap.size, 6, none⟩ = _ := (hb3.cell (p := ⟨w.heap.size, 6, none⟩) hszr).trans ((hbw.cell (p := ⟨w.heap.size, 6, none⟩) hszz).trans (HZC.out 6 _ rfl))
    have y7 : w3.cell? ⟨w.heap.size, 7, none⟩ = _ := (hb3.cell (p := ⟨w.heap.size, 7, none⟩) hszr).trans ((hbw.cell (p := ⟨w.heap.size, 7, none⟩) hszz).trans (HZC.out 7 _ rfl))
    have y8 : w3.cell? ⟨w.heap.size, 8, none⟩ = _ := (hb3.cell (p := ⟨w.heap.size, 8, none⟩) hszr).trans ((hbw.cell (p := ⟨w.heap.size, 8, none⟩) hszz).trans (HZC.out 8 _ rfl))
    go_wp2_with fail
    refine HH1.out.mono ?_
    rintro e w4 ⟨v4, rfl, r4, hb4⟩
    have R4 := Lib.hid r4
    clear r4
    obtain ⟨A4, c4, rfl⟩ := rd_vf R4.out
    have hB4 : Below w.heap.size w w4 := hB3.trans (hb4.mono hB3.size)
    have z4 : w4.cell? ⟨w.heap.size, 4, none⟩ = _ := (hb4.cell (p := ⟨w.heap.size, 4, none⟩) hsz3).trans y4
    clear x0 x1 x2 x3 x4 x5 x6 x7 x8 y0 y1 y2 y3 y4 y5 y6 y7 y8 HH1
    have hsz4 : w.heap.size < w4.heap.size := Nat.lt_of_lt_of_le hsz3 hb4.size
    by_cases htz : z.table.length = 0
    ·have hd : ((z.table.length : Int) == 0) = true := by rw [htz]; rfl
     have pz4 : ∀ q : Bel w4.heap.size w4, q.w1.cell? ⟨w.heap.size, 4, none⟩ = some (.slice AT z.table.length cT) := fun q => (bel_cell q _ _ hsz4).trans z4
     clear z4
     go_wp2_with fail
     refine wp_region_bel (by kernel_rfl) (by kernel_rfl) ?_
     repeat (go_big_quiet_step (fail))
     refine wpQuiet_nil ?_
     intro w5 hw'
     obtain ⟨⟨w5', hb5⟩, hw2⟩ := hw'
     subst hw2
     have hB5 := hB4.trans (hb5.mono hB4.size)
     clear pz4
     go_wp2
     go_ret
     exact ⟨rfl, hB5⟩
    ·by_cases hHz : H.length = 0
     ·have hd : ((z.table.length : Int) == 0) = false := by rw [beq_eq_false_iff_ne]; omega
      have hd2 : ((H.length : Int) == 0) = true := by rw [hHz]; rfl
      have pz4 : ∀ q : Bel w4.heap.size w4, q.w1.cell? ⟨w.heap.size, 4, none⟩ = some (.slice AT z.table.length cT) := fun q => (bel_cell q _ _ hsz4).trans z4
      clear z4
      go_wp2_with fail
      refine wp_region_bel (by kernel_rfl) (by kernel_rfl) ?_
      repeat (go_big_quiet_step (fail))
      refine wpQuiet_nil ?_
      intro w5 hw'
      obtain ⟨⟨w5', hb5⟩, hw2⟩ := hw'
      subst hw2
      have hB5 := hB4.trans (hb5.mono hB4.size)
      clear pz4
      go_wp2
      go_ret
      exact ⟨rfl, hB5⟩
     ·obtain ⟨m, hm⟩ : ∃ m, z.table.length = m + 1 := ⟨z.table.length - 1, by omega⟩
      obtain ⟨gT, oT, rfl, hgT, hcT⟩ : ∃ gT oT, AT = some ⟨gT, oT, none⟩ ∧ gT < w4.heap.size ∧ ∀ j, j < z.table.length → ∀ i u, (Trn.cells z.table[j]!)[i]? = some u → w4.cell? ⟨gT, oT + j * 4 + i, none⟩ = some u := by
       rcases HT.out.on hB4 with ⟨e, _⟩ | ⟨gT, oT, c', hv, hgT, hcT⟩
       ·rw [e] at htz; exact absurd rfl htz
       ·injection hv with e1 _ _
        exact ⟨gT, oT, e1, hgT, hcT⟩
      obtain ⟨gH, oH, rfl, hgH, hcH⟩ : ∃ gH oH, A4 = some ⟨gH, oH, none⟩ ∧ gH < w4.heap.size ∧ ∀ j, j < H.length → ∀ i u, (encH H[j]!)[i]? = some u → w4.cell? ⟨gH, oH + j * 5 + i, none⟩ = some u := by
       rcases R4.out with ⟨e, _⟩ | ⟨gH, oH, c', hv, hgH, hcH⟩
       ·rw [e] at hHz; exact absurd rfl hHz
       ·injection hv with e1 _ _
        exact ⟨gH, oH, e1, hgH, hcH⟩
      have t0 := hcT m (by omega) 0 _ rfl
      have h0' := hcH 0 (by omega) 0 _ rfl
      rw [Nat.add_zero] at t0
      rw [Nat.zero_mul, Nat.add_zero] at h0'
      have hlt : (z.table[m]!).at_ < (H[0]!).2.at_ := by
       rcases HBe.out with h | h | ⟨x, xs, h, hx⟩
       ·rw [h] at htz; exact absurd rfl htz
       ·rw [h] at hHz; exact absurd rfl hHz
       ·rw [h]
        unfold Zn.lastAt at hx
        rw [hm] at hx
        exact hx
      have hd : ((z.table.length : Int) == 0) = false := by rw [beq_eq_false_iff_ne]; omega
      have hd2 : ((H.length : Int) == 0) = false := by rw [beq_eq_false_iff_ne]; omega
      have hhp : 0 < H.length := by omega
      generalize (z.table[m]!).at_ = ta at *
      generalize (H[0]!).2.at_ = ha at *
      rw [hm] at hd z4
      have hd1 : ((m : Int) + 1 == 0) = false := by rw [beq_eq_false_iff_ne]; omega
      generalize H.length = hn at *
      have pz4 : ∀ q : Bel w4.heap.size w4, q.w1.cell? ⟨w.heap.size, 4, none⟩ = some (.slice (some ⟨gT, oT, none⟩) (m + 1) cT) := fun q => (bel_cell q _ _ hsz4).trans z4
      have pt0 : ∀ q : Bel w4.heap.size w4, q.w1.cell? ⟨gT, oT + m * 4, none⟩ = some (.int .i64 ta) := fun q => (bel_cell q _ _ hgT).trans t0
      have ph0 : ∀ q : Bel w4.heap.size w4, q.w1.cell? ⟨gH, oH, none⟩ = some (.int .i64 ha) := fun q => (bel_cell q _ _ hgH).trans h0'
      clear z4 t0 h0' hcT hcH
      go_wp2_with fail
      refine wp_region_bel (by kernel_rfl) (by kernel_rfl) ?_
      repeat (go_big_quiet_step (fail))
      refine wpQuiet_nil ?_
      intro w5 hw'
      obtain ⟨⟨w5', hb5⟩, hw2⟩ := hw'
      subst hw2
      have hB5 := hB4.trans (hb5.mono hB4.size)
      clear pz4 pt0 ph0
      go_wp2
      go_ret
      exact ⟨ret1 (vbool (by simp)), hB5⟩
set_option maxRecDepth 100000 in
set_option maxHeartbeats 4000000 in
theorem r22_tail_emptyP (z : Zn) (vT vR : Value) (w : World) (hT : Rd Trn.cells 4 w vT z.table) (hR : Rd Rule.cells 11 w vR z.tail) (h0 : z.tail = []) (hbt : z.tailB = true) :
  Calls Tryz.prog 108 #[z.v vT vR] w (fun e w' => e = .returned (.bool true) ∧ Below w.heap.size w w') := by
 obtain ⟨AT, cT, rfl⟩ := rd_vf hT
 obtain ⟨AR, cR, rfl⟩ := rd_vf hR
 have hb := hbt
 unfold Zn.tailB at hb
 rw [if_pos h0] at hb
 simp only [Bool.and_eq_true, decide_eq_true_eq] at hb
 obtain ⟨⟨hy, ho⟩, hf⟩ := hb
 have hfe : z.form.toList.isEmpty = true := by rw [form_empty, Bool.true_and, decide_eq_true_eq]; exact hf
 clear hbt hf
 rw [h0] at *
 clear hT hR
 unfold Zn.v
 rw [List.length_nil, hy, ho]
 go_enter Tryz.func108, Tryz.ntmps108
 go_wp2
 go_ret
 exact ⟨rfl, (Below.refl _ _).alloc (Nat.le_refl _) _⟩
theorem r22_tailP (z : Zn) (vT vR : Value) (w : World) (hl : z.table.length ≤ 1000) (hll : z.tail.length ≤ 12) (hT : Rd Trn.cells 4 w vT z.table) (hR : Rd Rule.cells 11 w vR z.tail) (hfs : z.form.size ≤ 2000000) (hH : z.headB = true) (hbt : z.tailB = true) :
  Calls Tryz.prog 108 #[z.v vT vR] w (fun e w' => e = .returned (.bool true) ∧ Below w.heap.size w w') := by
 by_cases h0 : z.tail = []
 ·exact r22_tail_emptyP z vT vR w hT hR h0 hbt
 ·have hb := hbt
  unfold Zn.tailB at hb
  rw [if_neg h0] at hb
  simp only [Bool.and_eq_true, decide_eq_true_eq] at hb
  exact r22_tail_rulesP z vT vR w hl hll hT hR hfs h0 hb.1.2 hH hb.2.1 hb.2.2.1 hb.2.2.2
set_option maxRecDepth 100000 in
set_option maxHeartbeats 8000000 in
theorem r22_ValidP (z : Zn) (vT vR : Value) (w : World) (hT : Rd Trn.cells 4 w vT z.table) (hR : Rd Rule.cells 11 w vR z.tail) (hfs : z.form.size ≤ 2000000) (hll : z.tail.length ≤ 12) (hval : z.valid = true) :
  Calls Tryz.prog 69 #[z.v vT vR] w (fun e w' => e = .returned (.bool true) ∧ Below w.heap.size w w') := by
 have hV : z.valid = (z.headB && z.tailB) := rfl
 have hH : z.headB = (Cv.nameZ z.nm && (typB z.first && (decide (z.table.length ≤ 1000) && tabB (-62135596800) z.first z.table))) := rfl
 have hvv := hval
 rw [hV, Bool.and_eq_true, hH] at hvv
 simp only [Bool.and_eq_true, decide_eq_true_eq] at hvv
 obtain ⟨⟨hn, ht, hl1, htb⟩, htl⟩ := hvv
 have HHD := Lib.hid (show z.headB = true from by rw [hH, hn, ht, decide_eq_true hl1, htb]; rfl)
 have HTLB := Lib.hid htl
 have HTAB := Lib.hid htb
 clear hV hH hval htl htb
 have HTT := Lib.hid hT
 have HRR := Lib.hid hR
 have HN := Lib.hid (fun W => r18_Name z.nm W)
 have HY := Lib.hid (fun W => r22_Type z.first W)
 obtain ⟨AT, cT, rfl⟩ := rd_vf hT
 obtain ⟨AR, cR, rfl⟩ := rd_vf hR
 have hzc := alloc_cells w [.string z.nm, .int .i64 z.first.off, .int .i64 z.first.sv, .string z.first.nm, .slice AT z.table.length cT, .slice AR z.tail.length cR, .int .i64 z.off, .string z.form, .int .i64 z.year] 48
 have hbz : Below w.heap.size w (w.alloc (.cells #[.string z.nm, .int .i64 z.first.off, .int .i64 z.first.sv, .string z.first.nm, .slice AT z.table.length cT, .slice AR z.tail.length cR, .int .i64 z.off, .string z.form, .int .i64 z.year] 48)) := (Below.refl _ _).alloc (Nat.le_refl _) _
 have hszz : w.heap.size < (w.alloc (.cells #[.string z.nm, .int .i64 z.first.off, .int .i64 z.first.sv, .string z.first.nm, .slice AT z.table.length cT, .slice AR z.tail.length cR, .int .i64 z.off, .string z.form, .int .i64 z.year] 48)).heap.size := by simp
 have HZC := Lib.hid hzc
 have HBZ := Lib.hid hbz
 clear hT hR hzc hbz
 rw [hn] at HN
 rw [ht] at HY
 ·skip
  have hd : decide ((1000 : Int) < (z.table.length : Int)) = false := decide_eq_false (by omega)
  clear hn ht
  unfold Zn.v
  go_enter Tryz.func69, Tryz.ntmps69
  go_wp2_with (first | (go_at_call 39; refine (HN.out _).mono ?_; rintro e w1 ⟨rfl, rfl⟩) | (go_at_call 107; refine (HY.out _).mono ?_; rintro e w2 ⟨rfl, hb2⟩; have x1 := (hb2.cell (p := ⟨w.heap.size, 1, none⟩) hszz).trans (HZC.out 1 _ rfl); have x2 := (hb2.cell (p := ⟨w.heap.size, 2, none⟩) hszz).trans (HZC.out 2 _ rfl); have x3 := (hb2.cell (p := ⟨w.heap.size, 3, none⟩) hszz).trans (HZC.out 3 _ rfl); have x4 := (hb2.cell (p := ⟨w.heap.size, 4, none⟩) hszz).trans (HZC.out 4 _ rfl)))
  have hB2 : Below w.heap.size w w2 := HBZ.out.trans (hb2.mono (Nat.le_of_lt hszz))
  have hsz2 : w.heap.size < w2.heap.size := Nat.lt_of_lt_of_le hszz hb2.size
  have Z2 := Lib.hid (fun i u h => (hb2.cell (p := ⟨w.heap.size, i, none⟩) hszz).trans (HZC.out i u h))
  have hbW : Below w2.heap.size w2 (w2.alloc (.cells #[.int .i64 z.first.off, .int .i64 z.first.sv, .string z.first.nm] 44)) := ((Below.refl _ _).alloc (Nat.le_refl _) _)
  have q0 : (w2.alloc (.cells #[.int .i64 z.first.off, .int .i64 z.first.sv, .string z.first.nm] 44)).cell? ⟨w2.heap.size, 0, none⟩ = some (.int .i64 z.first.off) := alloc_cells w2 [.int .i64 z.first.off, .int .i64 z.first.sv, .string z.first.nm] 44 0 _ rfl
  have q1 : (w2.alloc (.cells #[.int .i64 z.first.off, .int .i64 z.first.sv, .string z.first.nm] 44)).cell? ⟨w2.heap.size, 1, none⟩ = some (.int .i64 z.first.sv) := alloc_cells w2 [.int .i64 z.first.off, .int .i64 z.first.sv, .string z.first.nm] 44 1 _ rfl
  have q2 : (w2.alloc (.cells #[.int .i64 z.first.off, .int .i64 z.first.sv, .string z.first.nm] 44)).cell? ⟨w2.heap.size, 2, none⟩ = some (.string z.first.nm) := alloc_cells w2 [.int .i64 z.first.off, .int .i64 z.first.sv, .string z.first.nm] 44 2 _ rfl
  have f0 : ∀ i, (w2.alloc (.cells #[.int .i64 z.first.off, .int .i64 z.first.sv, .string z.first.nm] 44)).frozen? ⟨w2.heap.size, i, none⟩ = false := fun i => alloc_frozen w2 _ _ i
  have hqW : w2.heap.size < (w2.alloc (.cells #[.int .i64 z.first.off, .int .i64 z.first.sv, .string z.first.nm] 44)).heap.size := by simp
  have HF0 := Lib.hid f0
  generalize (w2.alloc (.cells #[.int .i64 z.first.off, .int .i64 z.first.sv, .string z.first.nm] 44)) = W at *
  obtain ⟨q, hq⟩ : ∃ q, q = w2.heap.size := ⟨_, rfl⟩
  have x4 : W.cell? ⟨w.heap.size, 4, none⟩ = some (.slice AT z.table.length cT) := (hbW.cell (p := ⟨w.heap.size, 4, none⟩) hsz2).trans (Z2.out 4 _ rfl)
  rw [← hq] at q0 q1 q2 HF0 hqW ⊢
  have hq2 : w2.heap.size ≤ q := Nat.le_of_eq hq.symm
  clear f0 x1 x2 x3 hq
  go_loopw [3, 5] (fun v3 i wr => ∃ (k : Nat) (a : Int) (b : Typ), k ≤ z.table.length ∧ i = .int .i64 k ∧ v3 = .int .i64 a ∧ Below w2.heap.size w2 wr ∧ q < wr.heap.size ∧ wr.cell? ⟨q, 0, none⟩ = some (.int .i64 b.off) ∧ wr.cell? ⟨q, 1, none⟩ = some (.int .i64 b.sv) ∧ wr.cell? ⟨q, 2, none⟩ = some (.string b.nm) ∧ Hid (∀ i, wr.frozen? ⟨q, i, none⟩ = false) ∧ Hid (tabB (-62135596800) z.first z.table = tabB a b (z.table.drop k))) (fun _ i _ => z.table.length - (intOf i).toNat)
  case atStart => exact ⟨0, _, z.first, Nat.zero_le _, rfl, rfl, hbW, hqW, q0, q1, q2, HF0, Lib.hid rfl⟩
  case round =>
   obtain ⟨k, a, b, hk, rfl, rfl, hbr, hqr, p0, p1, p2, HFz, HTB⟩ := hrel
   have hbr0 : Below w.heap.size w wr := hB2.trans (hbr.mono (Nat.le_of_lt hsz2))
   have hszr : w.heap.size < wr.heap.size := Nat.lt_of_lt_of_le hsz2 hbr.size
   have yx4 : wr.cell? ⟨w.heap.size, 4, none⟩ = some (.slice AT z.table.length cT) := (hbr.cell (p := ⟨w.heap.size, 4, none⟩) hsz2).trans (Z2.out 4 _ rfl)
   by_cases hlt : k < z.table.length
   ·obtain ⟨gT, oT, hAT, hgT, hcT⟩ : ∃ gT oT, AT = some ⟨gT, oT, none⟩ ∧ gT < wr.heap.size ∧ ∀ i u, (Trn.cells z.table[k]!)[i]? = some u → wr.cell? ⟨gT, oT + k * 4 + i, none⟩ = some u := by
     rcases HTT.out.on hbr0 with ⟨e, _⟩ | ⟨gT, oT, c', hv, hgT, hcT⟩
     ·rw [e] at hlt; simp at hlt
     ·injection hv with e1 _ _
      exact ⟨gT, oT, e1, hgT, fun i u hu => hcT k hlt i u hu⟩
    subst hAT
    have e0 := hcT 0 _ rfl
    have e1 := hcT 1 _ rfl
    have e2 := hcT 2 _ rfl
    have e3 := hcT 3 _ rfl
    rw [Nat.add_zero] at e0
    have htab := tab_cons (a := a) (b := b) hlt
    generalize z.table[k]! = x at *
    obtain ⟨xa, xt⟩ := x
    dsimp only at *
    have HTX := Lib.hid (fun W => r22_Type xt W)
    have hq0 : Below wr.heap.size wr (wr.alloc (.cells #[.int .i64 xa, .int .i64 xt.off, .int .i64 xt.sv, .string xt.nm] 79)) := alloc_below' _ _
    have HYC := Lib.hid (alloc_cells wr [.int .i64 xa, .int .i64 xt.off, .int .i64 xt.sv, .string xt.nm] 79)
    have hne := fun W => eqTy xt b W
    have hgd := gdTy
    have HR := Lib.hid (htab.symm.trans HTB.out.symm)
    clear hcT htab
    have hall := HR.out.trans HTAB.out
    simp only [Bool.and_eq_true, decide_eq_true_eq] at hall
    obtain ⟨⟨h1, h2, h3, h4⟩, h5⟩ := hall
    have d1 : decide (xa ≤ a) = false := decide_eq_false (by omega)
    have d2 : decide (253402300800 ≤ xa) = false := decide_eq_false (by omega)
    rw [h3] at HTX
    have HR2 := Lib.hid (show tabB (-62135596800) z.first z.table = tabB xa xt (z.table.drop (k + 1)) by rw [HTAB.out, h5])
    have dx : decide (xt = b) = false := decide_eq_false h4
    clear h3 h4 h5
    go_wp2_with (go_at_call 107; refine (HTX.out _).mono ?_; rintro e w5 ⟨rfl, hb5⟩; have hz5 : wr.heap.size + 1 ≤ w5.heap.size := (by have := hb5.size; simp at this; omega); have hq5 : Below wr.heap.size wr w5 := hq0.trans (hb5.mono (by simp)); have y0 : w5.cell? ⟨wr.heap.size, 0, none⟩ = some (.int .i64 xa) := (hb5.cell (p := ⟨wr.heap.size, 0, none⟩) (by simp)).trans (HYC.out 0 _ rfl); have y1 : w5.cell? ⟨wr.heap.size, 1, none⟩ = some (.int .i64 xt.off) := (hb5.cell (p := ⟨wr.heap.size, 1, none⟩) (by simp)).trans (HYC.out 1 _ rfl); have y2 : w5.cell? ⟨wr.heap.size, 2, none⟩ = some (.int .i64 xt.sv) := (hb5.cell (p := ⟨wr.heap.size, 2, none⟩) (by simp)).trans (HYC.out 2 _ rfl); have y3 : w5.cell? ⟨wr.heap.size, 3, none⟩ = some (.string xt.nm) := (hb5.cell (p := ⟨wr.heap.size, 3, none⟩) (by simp)).trans (HYC.out 3 _ rfl); have r0 := (hq5.cell (p := ⟨q, 0, none⟩) hqr).trans p0; have r1 := (hq5.cell (p := ⟨q, 1, none⟩) hqr).trans p1; have r2 := (hq5.cell (p := ⟨q, 2, none⟩) hqr).trans p2; have rf := fun i => (hq5.frozen (p := ⟨q, i, none⟩) hqr).trans (HFz.out i))
    have hs := set3 r0 r1 r2 (.int .i64 xt.off) (.int .i64 xt.sv) (.string xt.nm)
    have hb := set3_below (hbr.trans (hq5.mono hbr.size)) hq2 (.int .i64 xt.off) (.int .i64 xt.sv) (.string xt.nm)
    have hsz : q < (((w5.setCell ⟨q, 0, none⟩ (.int .i64 xt.off)).setCell ⟨q, 1, none⟩ (.int .i64 xt.sv)).setCell ⟨q, 2, none⟩ (.string xt.nm)).heap.size := by simp; omega
    go_roundw
    case rel => exact ⟨k + 1, xa, xt, by omega, by go_num, rfl, hb, hsz, hs.1, hs.2.1, hs.2.2, Lib.hid (set3_frozen rf _ _ _), HR2⟩
    case measure => simp [intOf]; omega
   ·have hk' : k = z.table.length := by omega
    subst hk'
    have zx := fun i u h => (hbr.cell (p := ⟨w.heap.size, i, none⟩) hsz2).trans (Z2.out i u h)
    have zc0 := zx 0 _ rfl
    have zc1 := zx 1 _ rfl
    have zc2 := zx 2 _ rfl
    have zc3 := zx 3 _ rfl
    have zc5 := zx 5 _ rfl
    have zc6 := zx 6 _ rfl
    have zc7 := zx 7 _ rfl
    have zc8 := zx 8 _ rfl
    have HTL := Lib.hid (r22_tailP z _ _ wr hl1 hll (HTT.out.on hbr0) (HRR.out.on hbr0) hfs HHD.out HTLB.out)
    unfold Zn.v at HTL
    clear zx
    go_wp2_with (go_at_call 108; refine HTL.out.mono ?_; rintro e w6 ⟨rfl, hb6⟩)
    go_ret
    exact ⟨rfl, hbr0.trans (hb6.mono (Nat.le_of_lt hszr))⟩
end Go.Proofs.YtdafcipilknecaaGreatDoor
/- The reference of layer 24: zone, link, Number, Version, Valid. Printed by gen_ref24v.py. -/
namespace Go.Proofs.YtdafcipilknecaaGreatDoor
set_option linter.unusedSimpArgs false
set_option linter.unusedVariables false
open Go.ChangeShapes Go.WideShapes Go.ChangeAt Go.RowKit Go.Sort Go.Lib
theorem ixF_at {α : Type} [Inhabited α] {p : α → Bool} {l : List α} {k : Nat} (hk : k < l.length) (hp : p l[k]! = true) (hn : ∀ j, j < k → p l[j]! = false) : ixF p l = k := by
 rw [ixF_eq]
 have : l.findIdx? p = some k := by
  rw [List.findIdx?_eq_some_iff_getElem]
  refine ⟨hk, by rwa [getElem!_pos l k hk] at hp, fun j hj => ?_⟩
  have := hn j hj
  rw [getElem!_pos l j (by omega)] at this
  simp [this]
 rw [this]
theorem ixF_no {α : Type} [Inhabited α] {p : α → Bool} {l : List α} (hn : ∀ j, j < l.length → p l[j]! = false) : ixF p l = -1 := by
 rw [ixF_eq]
 have : l.findIdx? p = none := by
  rw [List.findIdx?_eq_none_iff]
  intro x hx
  obtain ⟨j, hj, rfl⟩ := List.mem_iff_getElem.1 hx
  have := hn j hj
  rwa [getElem!_pos l j hj] at this
 rw [this]
def zIx (zs : List ZV) (nm : ByteArray) : Int := ixF (fun y : ZV => decide (y.z.nm = nm)) zs
set_option maxRecDepth 100000 in
set_option maxHeartbeats 1500000 in
theorem r24_zone (zs : List ZV) (v : Value) (nm : ByteArray) (w : World) (hl : zs.length ≤ 1000) (hR : Rd encZ 9 w v zs) : Calls Tryz.prog 70 #[v, .string nm] w fun e w' => e = .returned (.int .i64 (zIx zs nm)) ∧ Below w.heap.size w w' := by
 unfold zIx
 have HX := Lib.hid hR
 have HAT := Lib.hid (fun k hk hp hn => ixF_at (p := fun y : ZV => decide (y.z.nm = nm)) (l := zs) (k := k) hk hp hn)
 have HNO := Lib.hid (fun hn => ixF_no (p := fun y : ZV => decide (y.z.nm = nm)) (l := zs) hn)
 obtain ⟨A, c, rfl⟩ := rd_vf hR
 clear hR
 generalize ixF (fun y : ZV => decide (y.z.nm = nm)) zs = r at *
 go_enter Tryz.func70, Tryz.ntmps70
 go_wp2
 go_loopw [5] (fun v3 wr => ∃ k : Nat, k ≤ zs.length ∧ v3 = .int .i64 k ∧ Hid (∀ j, j < k → decide ((zs[j]!).z.nm = nm) = false) ∧ Below w.heap.size w wr) (fun v3 _ => zs.length - (intOf v3).toNat)
 case atStart => exact ⟨0, Nat.zero_le _, rfl, Lib.hid (fun j hj => absurd hj (Nat.not_lt_zero _)), Below.refl _ _⟩
 case round =>
  obtain ⟨k, hk, rfl, HJ, hbw⟩ := hrel
  by_cases hkl : k < zs.length
  ·obtain ⟨g, off, hA, hg, hcg⟩ : ∃ g off, A = some ⟨g, off, none⟩ ∧ g < wr.heap.size ∧ ∀ i u, (encZ zs[k]!)[i]? = some u → wr.cell? ⟨g, off + k * 9 + i, none⟩ = some u := by
    rcases HX.out.on hbw with ⟨e, _⟩ | ⟨g, off, c2, hv, hg, hc⟩
    ·rw [e] at hkl; simp at hkl
    ·injection hv with e1 _ _
     exact ⟨g, off, e1, hg, fun i u hu => hc k hkl i u hu⟩
   subst hA
   have e0 : wr.cell? ⟨g, off + k * 9, none⟩ = some (.string (zs[k]!).z.nm) := hcg 0 _ rfl
   have HK := Lib.hid (fun hp => HAT.out k hkl hp HJ.out)
   have HS := Lib.hid (fun (hp : decide ((zs[k]!).z.nm = nm) = false) => (fun j hj => by
    rcases Nat.lt_or_ge j k with h | h
    ·exact HJ.out j h
    ·obtain rfl : j = k := by omega
     exact hp : ∀ j, j < k + 1 → decide ((zs[j]!).z.nm = nm) = false))
   clear hcg
   have hse := str_eq (zs[k]!).z.nm nm
   generalize (zs[k]!).z.nm = q at *
   cases hd : decide (q = nm)
   ·rw [hd] at hse
    have HS := Lib.hid (HS.out hd)
    clear hd HK
    go_wp2
    go_roundw
    case rel => exact ⟨k + 1, by omega, by go_num, HS, hbw⟩
    case measure => simp [intOf]; omega
   ·rw [hd] at hse
    have hk2 := HK.out hd
    clear hd HS HK
    go_wp2
    go_ret
    exact ⟨by rw [hk2]; rfl, hbw⟩
  ·have hk' : k = zs.length := by omega
   subst hk'
   have hno := HNO.out HJ.out
   go_wp2
   go_ret
   exact ⟨by rw [hno]; rfl, hbw⟩
set_option maxRecDepth 100000 in
set_option maxHeartbeats 1500000 in
theorem r24_link (zs : List Lk) (v : Value) (nm : ByteArray) (w : World) (hl : zs.length ≤ 1000) (hR : Rd encK 2 w v zs) : Calls Tryz.prog 71 #[v, .string nm] w fun e w' => e = .returned (.int .i64 (ixF (fun y : Lk => decide (y.nm = nm)) zs)) ∧ Below w.heap.size w w' := by
 have HX := Lib.hid hR
 have HAT := Lib.hid (fun k hk hp hn => ixF_at (p := fun y : Lk => decide (y.nm = nm)) (l := zs) (k := k) hk hp hn)
 have HNO := Lib.hid (fun hn => ixF_no (p := fun y : Lk => decide (y.nm = nm)) (l := zs) hn)
 obtain ⟨A, c, rfl⟩ := rd_vf hR
 clear hR
 generalize ixF (fun y : Lk => decide (y.nm = nm)) zs = r at *
 go_enter Tryz.func71, Tryz.ntmps71
 go_wp2
 go_loopw [5] (fun v3 wr => ∃ k : Nat, k ≤ zs.length ∧ v3 = .int .i64 k ∧ Hid (∀ j, j < k → decide ((zs[j]!).nm = nm) = false) ∧ Below w.heap.size w wr) (fun v3 _ => zs.length - (intOf v3).toNat)
 case atStart => exact ⟨0, Nat.zero_le _, rfl, Lib.hid (fun j hj => absurd hj (Nat.not_lt_zero _)), Below.refl _ _⟩
 case round =>
  obtain ⟨k, hk, rfl, HJ, hbw⟩ := hrel
  by_cases hkl : k < zs.length
  ·obtain ⟨g, off, hA, hg, hcg⟩ : ∃ g off, A = some ⟨g, off, none⟩ ∧ g < wr.heap.size ∧ ∀ i u, (encK zs[k]!)[i]? = some u → wr.cell? ⟨g, off + k * 2 + i, none⟩ = some u := by
    rcases HX.out.on hbw with ⟨e, _⟩ | ⟨g, off, c2, hv, hg, hc⟩
    ·rw [e] at hkl; simp at hkl
    ·injection hv with e1 _ _
     exact ⟨g, off, e1, hg, fun i u hu => hc k hkl i u hu⟩
   subst hA
   have e0 : wr.cell? ⟨g, off + k * 2, none⟩ = some (.string (zs[k]!).nm) := hcg 0 _ rfl
   have HK := Lib.hid (fun hp => HAT.out k hkl hp HJ.out)
   have HS := Lib.hid (fun (hp : decide ((zs[k]!).nm = nm) = false) => (fun j hj => by
    rcases Nat.lt_or_ge j k with h | h
    ·exact HJ.out j h
    ·obtain rfl : j = k := by omega
     exact hp : ∀ j, j < k + 1 → decide ((zs[j]!).nm = nm) = false))
   clear hcg
   have hse := str_eq (zs[k]!).nm nm
   generalize (zs[k]!).nm = q at *
   cases hd : decide (q = nm)
   ·rw [hd] at hse
    have HS := Lib.hid (HS.out hd)
    clear hd HK
    go_wp2
    go_roundw
    case rel => exact ⟨k + 1, by omega, by go_num, HS, hbw⟩
    case measure => simp [intOf]; omega
   ·rw [hd] at hse
    have hk2 := HK.out hd
    clear hd HS HK
    go_wp2
    go_ret
    exact ⟨by rw [hk2]; rfl, hbw⟩
  ·have hk' : k = zs.length := by omega
   subst hk'
   have hno := HNO.out HJ.out
   go_wp2
   go_ret
   exact ⟨by rw [hno]; rfl, hbw⟩
set_option maxRecDepth 100000 in
set_option maxHeartbeats 1500000 in
theorem r24_Number (L : List VV) (vH : Value) (nm : ByteArray) (w : World) (hl : L.length ≤ 1000) (hR : Rd encVV 3 w vH L) : Calls Tryz.prog 37 #[.agg #[vH], .string nm] w fun e w' => e = .returned (.int .i64 (numF L nm)) ∧ Below w.heap.size w w' := by
 have HX := Lib.hid hR
 unfold numF
 have HAT := Lib.hid (fun k hk hp hn => ixF_at (p := fun y : VV => decide (y.nm = nm)) (l := L) (k := k) hk hp hn)
 have HNO := Lib.hid (fun hn => ixF_no (p := fun y : VV => decide (y.nm = nm)) (l := L) hn)
 obtain ⟨A, c, rfl⟩ := rd_vf hR
 clear hR
 generalize ixF (fun y : VV => decide (y.nm = nm)) L = r at *
 have b0 := Blk.new w #[.slice A L.length c] 24
 have hB1 : Below w.heap.size w (w.alloc (.cells #[.slice A L.length c] 24)) := (Below.refl _ _).alloc (Nat.le_refl _) _
 go_enter Tryz.func37, Tryz.ntmps37
 go_wp2
 generalize w.alloc (.cells #[.slice A L.length c] 24) = W at *
 go_loopw [5] (fun v3 wr => ∃ k : Nat, k ≤ L.length ∧ v3 = .int .i64 k ∧ Hid (∀ j, j < k → decide ((L[j]!).nm = nm) = false) ∧ Below W.heap.size W wr) (fun v3 _ => L.length - (intOf v3).toNat)
 case atStart => exact ⟨0, Nat.zero_le _, rfl, Lib.hid (fun j hj => absurd hj (Nat.not_lt_zero _)), Below.refl _ _⟩
 case round =>
  obtain ⟨k, hk, rfl, HJ, hbw⟩ := hrel
  have b1 := b0.below hbw b0.lt
  have h0 := blk_cl b1 0 _ rfl
  have h0l := b1.lt
  have hB2 := hB1.trans (hbw.mono hB1.size)
  by_cases hkl : k < L.length
  ·obtain ⟨g, off, hA, hg, hcg⟩ : ∃ g off, A = some ⟨g, off, none⟩ ∧ g < wr.heap.size ∧ ∀ i u, (encVV L[k]!)[i]? = some u → wr.cell? ⟨g, off + k * 3 + i, none⟩ = some u := by
    rcases HX.out.on hB2 with ⟨e, _⟩ | ⟨g, off, c2, hv, hg, hc⟩
    ·rw [e] at hkl; simp at hkl
    ·injection hv with e1 _ _
     exact ⟨g, off, e1, hg, fun i u hu => hc k hkl i u hu⟩
   subst hA
   have e0 : wr.cell? ⟨g, off + k * 3, none⟩ = some (.string (L[k]!).nm) := hcg 0 _ rfl
   have HK := Lib.hid (fun hp => HAT.out k hkl hp HJ.out)
   have HS := Lib.hid (fun (hp : decide ((L[k]!).nm = nm) = false) => (fun j hj => by
    rcases Nat.lt_or_ge j k with h | h
    ·exact HJ.out j h
    ·obtain rfl : j = k := by omega
     exact hp : ∀ j, j < k + 1 → decide ((L[j]!).nm = nm) = false))
   clear hcg b1
   have hse := str_eq (L[k]!).nm nm
   generalize (L[k]!).nm = q at *
   cases hd : decide (q = nm)
   ·rw [hd] at hse
    have HS := Lib.hid (HS.out hd)
    clear hd HK
    go_wp2
    go_roundw
    case rel => exact ⟨k + 1, by omega, by go_num, HS, hbw⟩
    case measure => simp [intOf]; omega
   ·rw [hd] at hse
    have hk2 := HK.out hd
    clear hd HS HK
    go_wp2
    go_ret
    exact ⟨by rw [hk2]; rfl, hB2⟩
  ·have hk' : k = L.length := by omega
   subst hk'
   have hno := HNO.out HJ.out
   clear b1
   go_wp2
   go_ret
   exact ⟨by rw [hno]; rfl, hB2⟩
theorem rd_takeV {α : Type} [Inhabited α] {enc : α → List Value} {K : Nat} {w : World} {A : Option Addr} {c k : Nat} {l : List α} (h : Rd enc K w (.slice A l.length c) l) (hk : k ≤ l.length) : Rd enc K w (.slice A k c) (l.take k) := by
 rcases h with ⟨rfl, _⟩ | ⟨g, off, c', hv, hg, hc⟩
 ·obtain rfl : k = 0 := by simpa using hk
  exact .inl ⟨rfl, _, _, rfl⟩
 ·injection hv with h1 _ h3
  subst h1 h3
  refine .inr ⟨g, off, c, by rw [List.length_take, Nat.min_eq_left hk], hg, fun j hj i u hu => ?_⟩
  rw [List.length_take, Nat.min_eq_left hk] at hj
  have e1 : (l.take k)[j]! = l[j]! := by
   rw [getElem!_pos (l.take k) j (by rw [List.length_take]; omega), getElem!_pos l j (by omega), List.getElem_take]
  rw [e1] at hu
  exact hc j (by omega) i u hu
def CapV (x : VV) : Prop := (∀ A l c, x.vZ = .slice A l c → l ≤ c) ∧ (∀ A l c, x.vL = .slice A l c → l ≤ c)
theorem belw {w wr : World} (hB : RowKit.Below w.heap.size w wr) (q : Bel wr.heap.size wr) : RowKit.Below w.heap.size w q.w1 := hB.trans (q.h.mono hB.size)
theorem memB_ix (nm : ByteArray) (zs : List ZV) : memB nm (zs.map fun y => y.z.nm) = decide (0 ≤ zIx zs nm) := by
 unfold zIx
 rw [← any_ix]
 unfold memB
 rw [List.any_map]
 rfl
theorem memB_ixL (nm : ByteArray) (zs : List Lk) : memB nm (zs.map fun y => y.nm) = decide (0 ≤ ixF (fun y : Lk => decide (y.nm = nm)) zs) := by
 rw [← any_ix]
 unfold memB
 rw [List.any_map]
 rfl
theorem memB_app (s : ByteArray) (a b : List ByteArray) : memB s (a ++ b) = (memB s a || memB s b) := by unfold memB; rw [List.any_append]
theorem dupZ_step {zs : List ZV} {k : Nat} (hk : k < zs.length) : dupZ ((zs.take k).map fun y => y.z.nm) (zs.drop k) = ((zs[k]!).z.valid && (!decide (0 ≤ zIx (zs.take k) (zs[k]!).z.nm) && dupZ ((zs.take (k + 1)).map fun y => y.z.nm) (zs.drop (k + 1)))) := by
 rw [drop_at hk, dupZ, memB_ix, take_at hk, List.map_append]
 rfl
theorem dupL_step {zs : List ZV} {ls : List Lk} {k : Nat} (hk : k < ls.length) : dupL zs ((zs.map fun y => y.z.nm) ++ (ls.take k).map fun y => y.nm) (ls.drop k) = (Cv.nameZ (ls[k]!).nm && (!(decide (0 ≤ zIx zs (ls[k]!).nm) || decide (0 ≤ ixF (fun y : Lk => decide (y.nm = (ls[k]!).nm)) (ls.take k))) && (decide (0 ≤ zIx zs (ls[k]!).zn) && dupL zs ((zs.map fun y => y.z.nm) ++ (ls.take (k + 1)).map fun y => y.nm) (ls.drop (k + 1))))) := by
 rw [drop_at hk, dupL, memB_app, memB_ix, memB_ixL, any_ix, take_at hk, List.map_append, ← List.append_assoc]
 rfl
theorem r22_ValidE (z : Zn) (vT vR : Value) (w : World) (hT : Rd Trn.cells 4 w vT z.table) (hR : Rd Rule.cells 11 w vR z.tail) (hfs : z.form.size ≤ 2000000) (hll : z.tail.length ≤ 12) :
  Calls Tryz.prog 69 #[z.v vT vR] w fun e w' => e = .returned (.bool z.valid) ∧ Below w.heap.size w w' := by
 cases h : z.valid
 ·refine (r22_Valid z vT vR w hT hR hfs (.inl hll)).mono ?_
  rintro e w' ⟨b, h1, h3, h2⟩
  cases b
  ·exact ⟨h1, h2⟩
  ·rw [h3 rfl] at h; cases h
 ·exact r22_ValidP z vT vR w hT hR hfs hll h
set_option maxRecDepth 100000 in
set_option maxHeartbeats 3000000 in
theorem r24_Version (x : VV) (w : World) (hg : GoodV w x) (hk : OkV x) (hfs : ∀ y ∈ x.zs, y.z.form.size ≤ 2000000) (hcap : CapV x) : Calls Tryz.prog 36 #[.agg (encVV x).toArray] w fun e w' => e = .returned (.bool (rightB x)) ∧ Below w.heap.size w w' := by
 obtain ⟨nm, zs, ls, vZ, vL, ⟨A, c, rfl⟩, ⟨A', c', rfl⟩⟩ := x
 have hnz := hk.z
 have hnl := hk.l
 have hcz := hcap.1 _ _ _ rfl
 have hcl := hcap.2 _ _ _ rfl
 dsimp only at hfs hnz hnl
 have HXZ := Lib.hid (show Rd encZ 9 w (.slice A zs.length c) zs from hg.z)
 have HXL := Lib.hid (show Rd encK 2 w (.slice A' ls.length c') ls from hg.l)
 have HVI := Lib.hid (fun (y : ZV) (hy : y ∈ zs) W (hb : Below w.heap.size w W) => r22_ValidE y.z y.vT y.vR W ((hg.g y hy).1.on hb) ((hg.g y hy).2.on hb) (hfs y hy) (hk.g y hy).1)
 have HZO := Lib.hid (fun nm W (hb : Below w.heap.size w W) => r24_zone zs (.slice A zs.length c) nm W hnz (HXZ.out.on hb))
 have HZT := Lib.hid (fun nm k (h : k ≤ zs.length) W (hb : Below w.heap.size w W) => r24_zone (zs.take k) (.slice A k c) nm W (by rw [List.length_take]; omega) (rd_takeV (HXZ.out.on hb) h))
 have HLT := Lib.hid (fun nm k (h : k ≤ ls.length) W (hb : Below w.heap.size w W) => r24_link (ls.take k) (.slice A' k c') nm W (by rw [List.length_take]; omega) (rd_takeV (HXL.out.on hb) h))
 have HN := Lib.hid (fun nm W => show Calls Tryz.prog 39 #[.string nm] W fun e w' => e = .returned (.bool (Cv.nameZ nm)) ∧ Below W.heap.size W w' from (r18_Name nm W).mono (by rintro e w' ⟨rfl, rfl⟩; exact ⟨rfl, Below.refl _ _⟩))
 clear hg hk hfs hcap
 have hRE : rightB ⟨nm, zs, ls, .slice A zs.length c, .slice A' ls.length c', ⟨A, c, rfl⟩, ⟨A', c', rfl⟩⟩ = (Cv.nameZ nm && (decide (zs.length + ls.length ≤ 30) && (dupZ [] zs && dupL zs (zs.map fun y => y.z.nm) ls))) := rfl
 generalize rightB ⟨nm, zs, ls, .slice A zs.length c, .slice A' ls.length c', ⟨A, c, rfl⟩, ⟨A', c', rfl⟩⟩ = rb at *
 have HRE := Lib.hid hRE
 clear hRE
 show Calls Tryz.prog 36 #[.agg #[.string nm, .slice A zs.length c, .slice A' ls.length c']] w _
 have b0 := Blk.new w #[.string nm, .slice A zs.length c, .slice A' ls.length c'] 67
 have hB1 : Below w.heap.size w (w.alloc (.cells #[.string nm, .slice A zs.length c, .slice A' ls.length c'] 67)) := (Below.refl _ _).alloc (Nat.le_refl _) _
 have v0 := blk_cl b0 0 _ rfl
 have v1 := blk_cl b0 1 _ rfl
 have v2 := blk_cl b0 2 _ rfl
 have vl := b0.lt
 have HNN := Lib.hid (fun W => HN.out nm W)
 cases hn : Cv.nameZ nm
 ·obtain rfl : rb = false := by rw [HRE.out, hn]; rfl
  rw [hn] at HNN
  clear hn
  go_enter Tryz.func36, Tryz.ntmps36
  go_wp2_with (go_at_call 39; refine (HNN.out _).mono ?_; rintro e w1 ⟨rfl, hb1⟩)
  go_ret
  exact ⟨rfl, hB1.trans (hb1.mono hB1.size)⟩
 rw [hn] at HNN
 by_cases hs : zs.length + ls.length ≤ 30
 case neg =>
  obtain rfl : rb = false := by rw [HRE.out, hn, decide_eq_false hs]; rfl
  have ds : decide ((30 : Int) < (zs.length : Int) + (ls.length : Int)) = true := decide_eq_true (by omega)
  clear hn
  go_enter Tryz.func36, Tryz.ntmps36
  go_wp2_with fail
  refine (HNN.out _).mono ?_
  rintro e w1 ⟨rfl, hb1⟩
  have b0 := b0.below hb1 b0.lt
  clear v0 v1 v2 vl
  have v0 := blk_cl b0 0 _ rfl
  have v1 := blk_cl b0 1 _ rfl
  have v2 := blk_cl b0 2 _ rfl
  have vl := b0.lt
  go_wp2
  go_ret
  exact ⟨rfl, hB1.trans (hb1.mono hB1.size)⟩
 have ds : decide ((30 : Int) < (zs.length : Int) + (ls.length : Int)) = false := decide_eq_false (by omega)
 have HRT := Lib.hid (show rb = (dupZ [] zs && dupL zs (zs.map fun y => y.z.nm) ls) by rw [HRE.out, hn, decide_eq_true hs]; rfl)
 clear hn HRE
 go_enter Tryz.func36, Tryz.ntmps36
 go_wp2_with fail
 refine (HNN.out _).mono ?_
 rintro e w1 ⟨rfl, hb1⟩
 have b0 := b0.below hb1 b0.lt
 have hB1 := hB1.trans (hb1.mono hB1.size)
 clear v0 v1 v2 vl hb1
 have v0 := blk_cl b0 0 _ rfl
 have v1 := blk_cl b0 1 _ rfl
 have v2 := blk_cl b0 2 _ rfl
 have vl := b0.lt
 go_wp2_with fail
 clear v0 v1 v2 vl ds HNN
 generalize hwq : w1 = W at *
 clear hwq
 go_loopw [3] (fun v3 wr => ∃ k : Nat, k ≤ zs.length ∧ v3 = .int .i64 k ∧ Hid (dupZ [] zs = dupZ ((zs.take k).map fun y => y.z.nm) (zs.drop k)) ∧ Below W.heap.size W wr) (fun v3 _ => zs.length - (intOf v3).toNat)
 case atStart => exact ⟨0, Nat.zero_le _, rfl, Lib.hid rfl, Below.refl _ _⟩
 case round =>
  obtain ⟨k, hk, rfl, HD, hbw⟩ := hrel
  have b1 := b0.below hbw b0.lt
  have hB2 := hB1.trans (hbw.mono hB1.size)
  by_cases hkl : k < zs.length
  ·obtain ⟨g, off, hA, hg, hcg⟩ : ∃ g off, A = some ⟨g, off, none⟩ ∧ g < wr.heap.size ∧ ∀ i u, (encZ zs[k]!)[i]? = some u → wr.cell? ⟨g, off + k * 9 + i, none⟩ = some u := by
    rcases HXZ.out.on hB2 with ⟨e, _⟩ | ⟨g, off, c2, hv, hg, hc⟩
    ·rw [e] at hkl; simp at hkl
    ·injection hv with e1 _ _
     exact ⟨g, off, e1, hg, fun i u hu => hc k hkl i u hu⟩
   subst hA
   have HVK := Lib.hid (fun q : Bel wr.heap.size wr => HVI.out zs[k]! (by rw [getElem!_pos zs k hkl]; exact List.getElem_mem hkl) q.w1 (belw hB2 q))
   have HZK := Lib.hid (fun q : Bel wr.heap.size wr => HZT.out (zs[k]!).z.nm k (by omega) q.w1 (belw hB2 q))
   have HSTP := Lib.hid (HD.out.trans (dupZ_step hkl))
   generalize zs[k]! = y at *
   obtain ⟨z, vT, vR, ⟨AT, cT, rfl⟩, ⟨AR, cR, rfl⟩⟩ := y
   dsimp only at HVK HZK HSTP
   unfold Zn.v at HVK
   have pv0 : ∀ q : Bel wr.heap.size wr, q.w1.cell? ⟨w.heap.size, 1, none⟩ = some (.slice (some ⟨g, off, none⟩) zs.length c) := fun q => (bel_cell q _ _ b1.lt).trans (blk_cl b1 1 _ rfl)
   have pe0 : ∀ q : Bel wr.heap.size wr, q.w1.cell? ⟨g, off + k * 9, none⟩ = some (.string z.nm) := fun q => (bel_cell q _ _ hg).trans (hcg 0 _ rfl)
   have pe1 : ∀ q : Bel wr.heap.size wr, q.w1.cell? ⟨g, off + k * 9 + 1, none⟩ = some (.int .i64 z.first.off) := fun q => (bel_cell q _ _ hg).trans (hcg 1 _ rfl)
   have pe2 : ∀ q : Bel wr.heap.size wr, q.w1.cell? ⟨g, off + k * 9 + 2, none⟩ = some (.int .i64 z.first.sv) := fun q => (bel_cell q _ _ hg).trans (hcg 2 _ rfl)
   have pe3 : ∀ q : Bel wr.heap.size wr, q.w1.cell? ⟨g, off + k * 9 + 3, none⟩ = some (.string z.first.nm) := fun q => (bel_cell q _ _ hg).trans (hcg 3 _ rfl)
   have pe4 : ∀ q : Bel wr.heap.size wr, q.w1.cell? ⟨g, off + k * 9 + 4, none⟩ = some (.slice AT z.table.length cT) := fun q => (bel_cell q _ _ hg).trans (hcg 4 _ rfl)
   have pe5 : ∀ q : Bel wr.heap.size wr, q.w1.cell? ⟨g, off + k * 9 + 5, none⟩ = some (.slice AR z.tail.length cR) := fun q => (bel_cell q _ _ hg).trans (hcg 5 _ rfl)
   have pe6 : ∀ q : Bel wr.heap.size wr, q.w1.cell? ⟨g, off + k * 9 + 6, none⟩ = some (.int .i64 z.off) := fun q => (bel_cell q _ _ hg).trans (hcg 6 _ rfl)
   have pe7 : ∀ q : Bel wr.heap.size wr, q.w1.cell? ⟨g, off + k * 9 + 7, none⟩ = some (.string z.form) := fun q => (bel_cell q _ _ hg).trans (hcg 7 _ rfl)
   have pe8 : ∀ q : Bel wr.heap.size wr, q.w1.cell? ⟨g, off + k * 9 + 8, none⟩ = some (.int .i64 z.year) := fun q => (bel_cell q _ _ hg).trans (hcg 8 _ rfl)
   have v1 := blk_cl b1 1 _ rfl
   have vl := b1.lt
   clear hcg
   generalize zIx (zs.take k) z.nm = r at *
   generalize z.valid = zv at *
   cases zv
   ·obtain rfl : rb = false := by rw [HRT.out, HSTP.out]; rfl
    clear HSTP HRT HD
    go_wp2_with fail
    refine wp_region_bel (by kernel_rfl) (by kernel_rfl) ?_
    repeat (go_big_quiet_step ((first | (go_at_call 69; exact bel_of (Nat.le_refl _) (HVK.out _)) | (go_at_call 70; exact bel_of (Nat.le_refl _) (HZK.out _)))))
    refine wpQuiet_nil ?_
    intro w5 hw'
    obtain ⟨⟨w5', hb5⟩, hw2⟩ := hw'
    subst hw2
    go_wp2
    go_ret
    exact ⟨rfl, hB2.trans (hb5.mono hB2.size)⟩
   by_cases hr : 0 ≤ r
   ·have dr := decide_eq_true hr
    obtain rfl : rb = false := by rw [HRT.out, HSTP.out, dr]; rfl
    clear HSTP HRT HD
    go_wp2_with fail
    refine wp_region_bel (by kernel_rfl) (by kernel_rfl) ?_
    repeat (go_big_quiet_step ((first | (go_at_call 69; exact bel_of (Nat.le_refl _) (HVK.out _)) | (go_at_call 70; exact bel_of (Nat.le_refl _) (HZK.out _)))))
    refine wpQuiet_nil ?_
    intro w5 hw'
    obtain ⟨⟨w5', hb5⟩, hw2⟩ := hw'
    subst hw2
    go_wp2
    go_ret
    exact ⟨rfl, hB2.trans (hb5.mono hB2.size)⟩
   ·have dr := decide_eq_false hr
    have HD2 := Lib.hid (show dupZ [] zs = dupZ ((zs.take (k + 1)).map fun y => y.z.nm) (zs.drop (k + 1)) by rw [HSTP.out, dr]; rfl)
    clear HSTP HD
    go_wp2_with fail
    refine wp_region_bel (by kernel_rfl) (by kernel_rfl) ?_
    repeat (go_big_quiet_step ((first | (go_at_call 69; exact bel_of (Nat.le_refl _) (HVK.out _)) | (go_at_call 70; exact bel_of (Nat.le_refl _) (HZK.out _)))))
    refine wpQuiet_nil ?_
    intro w5 hw'
    obtain ⟨⟨w5', hb5⟩, hw2⟩ := hw'
    subst hw2
    go_wp2
    go_roundw
    case rel => exact ⟨k + 1, by omega, by go_num, HD2, hbw.trans (hb5.mono hbw.size)⟩
    case measure => simp [intOf]; omega
  ·have hk' : k = zs.length := by omega
   subst hk'
   have HZT1 := Lib.hid (show dupZ [] zs = true by rw [HD.out, List.drop_length]; rfl)
   have HRT2 := Lib.hid (show rb = dupL zs (zs.map fun y => y.z.nm) ls by rw [HRT.out, HZT1.out]; rfl)
   clear HD HRT HZT1 HZT HVI
   have v0 := blk_cl b1 0 _ rfl
   have v1 := blk_cl b1 1 _ rfl
   have v2 := blk_cl b1 2 _ rfl
   have vl := b1.lt
   go_wp2
   clear v0 v1 v2 vl
   generalize hwq : wr = wq at *
   clear hwq
   go_loopw [4] (fun v4 ws => ∃ j : Nat, j ≤ ls.length ∧ v4 = .int .i64 j ∧ Hid (dupL zs (zs.map fun y => y.z.nm) ls = dupL zs ((zs.map fun y => y.z.nm) ++ (ls.take j).map fun y => y.nm) (ls.drop j)) ∧ Below wq.heap.size wq ws) (fun v4 _ => ls.length - (intOf v4).toNat)
   case atStart => exact ⟨0, Nat.zero_le _, rfl, Lib.hid (by simp), Below.refl _ _⟩
   case round =>
    obtain ⟨j, hj, rfl, HD, hbx⟩ := hrel
    have b2 := b1.below hbx b1.lt
    have hB3 := hB2.trans (hbx.mono hB2.size)
    by_cases hjl : j < ls.length
    ·obtain ⟨g, off, hA, hg, hcg⟩ : ∃ g off, A' = some ⟨g, off, none⟩ ∧ g < wr.heap.size ∧ ∀ i u, (encK ls[j]!)[i]? = some u → wr.cell? ⟨g, off + j * 2 + i, none⟩ = some u := by
      rcases HXL.out.on hB3 with ⟨e, _⟩ | ⟨g, off, c2, hv, hg, hc⟩
      ·rw [e] at hjl; simp at hjl
      ·injection hv with e1 _ _
       exact ⟨g, off, e1, hg, fun i u hu => hc j hjl i u hu⟩
     subst hA
     have HNK := Lib.hid (fun q : Bel wr.heap.size wr => HN.out (ls[j]!).nm q.w1)
     have HZ1 := Lib.hid (fun nm (q : Bel wr.heap.size wr) => HZO.out nm q.w1 (belw hB3 q))
     have HL1 := Lib.hid (fun q : Bel wr.heap.size wr => HLT.out (ls[j]!).nm j (by omega) q.w1 (belw hB3 q))
     have HSTP := Lib.hid (HD.out.trans (dupL_step hjl))
     have pe0 : ∀ q : Bel wr.heap.size wr, q.w1.cell? ⟨g, off + j * 2, none⟩ = some (.string (ls[j]!).nm) := fun q => (bel_cell q _ _ hg).trans (hcg 0 _ rfl)
     have pe1 : ∀ q : Bel wr.heap.size wr, q.w1.cell? ⟨g, off + j * 2 + 1, none⟩ = some (.string (ls[j]!).zn) := fun q => (bel_cell q _ _ hg).trans (hcg 1 _ rfl)
     have pv1 : ∀ q : Bel wr.heap.size wr, q.w1.cell? ⟨w.heap.size, 1, none⟩ = some (.slice A zs.length c) := fun q => (bel_cell q _ _ b2.lt).trans (blk_cl b2 1 _ rfl)
     have pv2 : ∀ q : Bel wr.heap.size wr, q.w1.cell? ⟨w.heap.size, 2, none⟩ = some (.slice (some ⟨g, off, none⟩) ls.length c') := fun q => (bel_cell q _ _ b2.lt).trans (blk_cl b2 2 _ rfl)
     have v2 := blk_cl b2 2 _ rfl
     have vl := b2.lt
     clear hcg
     generalize ls[j]! = q at *
     obtain ⟨qn, qz⟩ := q
     dsimp only at *
     generalize ixF (fun y : Lk => decide (y.nm = qn)) (ls.take j) = r2 at *
     generalize Cv.nameZ qn = nv at *
     clear HN HZO HLT
     cases nv
     ·obtain rfl : rb = false := by rw [HRT2.out, HSTP.out]; rfl
      clear HSTP HRT2 HD
      go_wp2_with fail
      refine wp_region_bel (by kernel_rfl) (by kernel_rfl) ?_
      repeat (go_big_quiet_step ((first | (go_at_call 39; exact bel_of (Nat.le_refl _) (HNK.out _)) | (go_at_call 70; exact bel_of (Nat.le_refl _) (HZ1.out _ _)) | (go_at_call 71; exact bel_of (Nat.le_refl _) (HL1.out _)))))
      refine wpQuiet_nil ?_
      intro w5 hw'
      obtain ⟨⟨w5', hb5⟩, hw2⟩ := hw'
      subst hw2
      go_wp2
      go_ret
      exact ⟨rfl, hB3.trans (hb5.mono hB3.size)⟩
     by_cases h1 : 0 ≤ zIx zs qn
     ·have d1 := decide_eq_true h1
      obtain rfl : rb = false := by rw [HRT2.out, HSTP.out, d1]; rfl
      clear HSTP HRT2 HD
      go_wp2_with fail
      refine wp_region_bel (by kernel_rfl) (by kernel_rfl) ?_
      repeat (go_big_quiet_step ((first | (go_at_call 39; exact bel_of (Nat.le_refl _) (HNK.out _)) | (go_at_call 70; exact bel_of (Nat.le_refl _) (HZ1.out _ _)) | (go_at_call 71; exact bel_of (Nat.le_refl _) (HL1.out _)))))
      refine wpQuiet_nil ?_
      intro w5 hw'
      obtain ⟨⟨w5', hb5⟩, hw2⟩ := hw'
      subst hw2
      go_wp2
      go_ret
      exact ⟨rfl, hB3.trans (hb5.mono hB3.size)⟩
     have d1 := decide_eq_false h1
     by_cases h2 : 0 ≤ r2
     ·have d2 := decide_eq_true h2
      obtain rfl : rb = false := by rw [HRT2.out, HSTP.out, d1, d2]; rfl
      clear HSTP HRT2 HD
      go_wp2_with fail
      refine wp_region_bel (by kernel_rfl) (by kernel_rfl) ?_
      repeat (go_big_quiet_step ((first | (go_at_call 39; exact bel_of (Nat.le_refl _) (HNK.out _)) | (go_at_call 70; exact bel_of (Nat.le_refl _) (HZ1.out _ _)) | (go_at_call 71; exact bel_of (Nat.le_refl _) (HL1.out _)))))
      refine wpQuiet_nil ?_
      intro w5 hw'
      obtain ⟨⟨w5', hb5⟩, hw2⟩ := hw'
      subst hw2
      go_wp2
      go_ret
      exact ⟨rfl, hB3.trans (hb5.mono hB3.size)⟩
     have d2 := decide_eq_false h2
     by_cases h3 : zIx zs qz < 0
     ·have d3 := decide_eq_true h3
      have d4 : decide (0 ≤ zIx zs qz) = false := decide_eq_false (by omega)
      obtain rfl : rb = false := by rw [HRT2.out, HSTP.out, d1, d2, d4]; rfl
      clear HSTP HRT2 HD
      go_wp2_with fail
      refine wp_region_bel (by kernel_rfl) (by kernel_rfl) ?_
      repeat (go_big_quiet_step ((first | (go_at_call 39; exact bel_of (Nat.le_refl _) (HNK.out _)) | (go_at_call 70; exact bel_of (Nat.le_refl _) (HZ1.out _ _)) | (go_at_call 71; exact bel_of (Nat.le_refl _) (HL1.out _)))))
      refine wpQuiet_nil ?_
      intro w5 hw'
      obtain ⟨⟨w5', hb5⟩, hw2⟩ := hw'
      subst hw2
      go_wp2
      go_ret
      exact ⟨rfl, hB3.trans (hb5.mono hB3.size)⟩
     ·have d3 := decide_eq_false h3
      have d4 : decide (0 ≤ zIx zs qz) = true := decide_eq_true (by omega)
      have HD2 := Lib.hid (show dupL zs (zs.map fun y => y.z.nm) ls = dupL zs ((zs.map fun y => y.z.nm) ++ (ls.take (j + 1)).map fun y => y.nm) (ls.drop (j + 1)) by rw [HSTP.out, d1, d2, d4]; rfl)
      clear HSTP HD
      go_wp2_with fail
      refine wp_region_bel (by kernel_rfl) (by kernel_rfl) ?_
      repeat (go_big_quiet_step ((first | (go_at_call 39; exact bel_of (Nat.le_refl _) (HNK.out _)) | (go_at_call 70; exact bel_of (Nat.le_refl _) (HZ1.out _ _)) | (go_at_call 71; exact bel_of (Nat.le_refl _) (HL1.out _)))))
      refine wpQuiet_nil ?_
      intro w5 hw'
      obtain ⟨⟨w5', hb5⟩, hw2⟩ := hw'
      subst hw2
      go_wp2
      go_roundw
      case rel => exact ⟨j + 1, by omega, by go_num, HD2, hbx.trans (hb5.mono hbx.size)⟩
      case measure => simp [intOf]; omega
    ·have hj' : j = ls.length := by omega
     subst hj'
     obtain rfl : rb = true := by rw [HRT2.out, HD.out, List.drop_length]; rfl
     have v0 := blk_cl b2 0 _ rfl
     have v1 := blk_cl b2 1 _ rfl
     have v2 := blk_cl b2 2 _ rfl
     have vl := b2.lt
     go_wp2
     go_ret
     exact ⟨rfl, hB3⟩
theorem hisB_step {L : List VV} {k : Nat} (hk : k < L.length) : hisB L k (L.drop k) = (rightB L[k]! && (decide (numF L (L[k]!).nm = (k : Int)) && hisB L (k + 1) (L.drop (k + 1)))) := by
 rw [drop_at hk, hisB]
set_option maxRecDepth 100000 in
set_option maxHeartbeats 3000000 in
theorem r24_Valid (L : List VV) (vH : Value) (w : World) (hg : GoodH w vH L) (hk : OkH L) (hfs : ∀ x ∈ L, ∀ y ∈ x.zs, y.z.form.size ≤ 2000000) (hcap : ∀ x ∈ L, CapV x) : Calls Tryz.prog 10 #[.agg #[vH]] w fun e w' => e = .returned (.bool (validH L)) ∧ Below w.heap.size w w' := by
 have hn := hk.n
 have HX := Lib.hid hg.r
 have HVE := Lib.hid (fun (x : VV) (hx : x ∈ L) W (hb : Below w.heap.size w W) => r24_Version x W ((hg.g x hx).on hb) (hk.g x hx) (hfs x hx) (hcap x hx))
 have HNU := Lib.hid (fun nm W (hb : Below w.heap.size w W) => r24_Number L vH nm W hn (hg.r.on hb))
 obtain ⟨A, c, rfl⟩ := rd_vf hg.r
 clear hg hk hfs hcap
 have hRE : validH L = (decide (L.length ≤ 100) && hisB L 0 L) := rfl
 generalize validH L = vl at *
 have HRE := Lib.hid hRE
 clear hRE
 have b0 := Blk.new w #[.slice A L.length c] 24
 have hB1 : Below w.heap.size w (w.alloc (.cells #[.slice A L.length c] 24)) := (Below.refl _ _).alloc (Nat.le_refl _) _
 have h0 := blk_cl b0 0 _ rfl
 have hl := b0.lt
 by_cases hs : L.length ≤ 100
 case neg =>
  obtain rfl : vl = false := by rw [HRE.out, decide_eq_false hs]; rfl
  have ds : decide ((100 : Int) < (L.length : Int)) = true := decide_eq_true (by omega)
  go_enter Tryz.func10, Tryz.ntmps10
  go_wp2
  go_ret
  exact ⟨rfl, hB1⟩
 have ds : decide ((100 : Int) < (L.length : Int)) = false := decide_eq_false (by omega)
 have HRT := Lib.hid (show vl = hisB L 0 L by rw [HRE.out, decide_eq_true hs]; rfl)
 clear HRE
 go_enter Tryz.func10, Tryz.ntmps10
 go_wp2
 clear h0 hl ds
 generalize w.alloc (.cells #[.slice A L.length c] 24) = W at *
 go_loopw [3] (fun v3 wr => ∃ k : Nat, k ≤ L.length ∧ v3 = .int .i64 k ∧ Hid (hisB L 0 L = hisB L k (L.drop k)) ∧ Below W.heap.size W wr) (fun v3 _ => L.length - (intOf v3).toNat)
 case atStart => exact ⟨0, Nat.zero_le _, rfl, Lib.hid rfl, Below.refl _ _⟩
 case round =>
  obtain ⟨k, hk, rfl, HD, hbw⟩ := hrel
  have b1 := b0.below hbw b0.lt
  have hB2 := hB1.trans (hbw.mono hB1.size)
  by_cases hkl : k < L.length
  ·obtain ⟨g, off, hA, hg, hcg⟩ : ∃ g off, A = some ⟨g, off, none⟩ ∧ g < wr.heap.size ∧ ∀ i u, (encVV L[k]!)[i]? = some u → wr.cell? ⟨g, off + k * 3 + i, none⟩ = some u := by
    rcases HX.out.on hB2 with ⟨e, _⟩ | ⟨g, off, c2, hv, hg, hc⟩
    ·rw [e] at hkl; simp at hkl
    ·injection hv with e1 _ _
     exact ⟨g, off, e1, hg, fun i u hu => hc k hkl i u hu⟩
   subst hA
   have HVK := Lib.hid (fun q : Bel wr.heap.size wr => HVE.out L[k]! (by rw [getElem!_pos L k hkl]; exact List.getElem_mem hkl) q.w1 (belw hB2 q))
   have HNK := Lib.hid (fun q : Bel wr.heap.size wr => HNU.out (L[k]!).nm q.w1 (belw hB2 q))
   have HSTP := Lib.hid (HD.out.trans (hisB_step hkl))
   generalize L[k]! = x at *
   generalize rightB x = rb at *
   obtain ⟨nm, zs, ls, vZ, vL, ⟨AZ, cZ, rfl⟩, ⟨AL, cL, rfl⟩⟩ := x
   unfold encVV at HVK
   dsimp only at HVK HNK HSTP
   have pv0 : ∀ q : Bel wr.heap.size wr, q.w1.cell? ⟨w.heap.size, 0, none⟩ = some (.slice (some ⟨g, off, none⟩) L.length c) := fun q => (bel_cell q _ _ b1.lt).trans (blk_cl b1 0 _ rfl)
   have pe0 : ∀ q : Bel wr.heap.size wr, q.w1.cell? ⟨g, off + k * 3, none⟩ = some (.string nm) := fun q => (bel_cell q _ _ hg).trans (hcg 0 _ rfl)
   have pe1 : ∀ q : Bel wr.heap.size wr, q.w1.cell? ⟨g, off + k * 3 + 1, none⟩ = some (.slice AZ zs.length cZ) := fun q => (bel_cell q _ _ hg).trans (hcg 1 _ rfl)
   have pe2 : ∀ q : Bel wr.heap.size wr, q.w1.cell? ⟨g, off + k * 3 + 2, none⟩ = some (.slice AL ls.length cL) := fun q => (bel_cell q _ _ hg).trans (hcg 2 _ rfl)
   have v0 := blk_cl b1 0 _ rfl
   have hvl := b1.lt
   clear hcg
   generalize numF L nm = r at *
   cases rb
   ·obtain rfl : vl = false := by rw [HRT.out, HSTP.out]; rfl
    clear HSTP HRT HD
    go_wp2_with fail
    refine wp_region_bel (by kernel_rfl) (by kernel_rfl) ?_
    repeat (go_big_quiet_step ((first | (go_at_call 36; exact bel_of (Nat.le_refl _) (HVK.out _)) | (go_at_call 37; exact bel_of (Nat.le_refl _) (HNK.out _)))))
    refine wpQuiet_nil ?_
    intro w5 hw'
    obtain ⟨⟨w5', hb5⟩, hw2⟩ := hw'
    subst hw2
    go_wp2
    go_ret
    exact ⟨rfl, hB2.trans (hb5.mono hB2.size)⟩
   by_cases hr : r = (k : Int)
   ·have d1 : (r != (k : Int)) = false := by rw [bne_eq_false_iff_eq]; exact hr
    have HD2 := Lib.hid (show hisB L 0 L = hisB L (k + 1) (L.drop (k + 1)) by rw [HSTP.out, decide_eq_true hr]; rfl)
    clear HSTP HD hr
    go_wp2_with fail
    refine wp_region_bel (by kernel_rfl) (by kernel_rfl) ?_
    repeat (go_big_quiet_step ((first | (go_at_call 36; exact bel_of (Nat.le_refl _) (HVK.out _)) | (go_at_call 37; exact bel_of (Nat.le_refl _) (HNK.out _)))))
    refine wpQuiet_nil ?_
    intro w5 hw'
    obtain ⟨⟨w5', hb5⟩, hw2⟩ := hw'
    subst hw2
    go_wp2
    go_roundw
    case rel => exact ⟨k + 1, by omega, by go_num, HD2, hbw.trans (hb5.mono hbw.size)⟩
    case measure => simp [intOf]; omega
   ·have d1 : (r != (k : Int)) = true := bne_iff_ne.2 hr
    obtain rfl : vl = false := by rw [HRT.out, HSTP.out, decide_eq_false hr]; rfl
    clear HSTP HRT HD
    go_wp2_with fail
    refine wp_region_bel (by kernel_rfl) (by kernel_rfl) ?_
    repeat (go_big_quiet_step ((first | (go_at_call 36; exact bel_of (Nat.le_refl _) (HVK.out _)) | (go_at_call 37; exact bel_of (Nat.le_refl _) (HNK.out _)))))
    refine wpQuiet_nil ?_
    intro w5 hw'
    obtain ⟨⟨w5', hb5⟩, hw2⟩ := hw'
    subst hw2
    go_wp2
    go_ret
    exact ⟨rfl, hB2.trans (hb5.mono hB2.size)⟩
  ·have hk' : k = L.length := by omega
   subst hk'
   obtain rfl : vl = true := by rw [HRT.out, HD.out, List.drop_length]; rfl
   have v0 := blk_cl b1 0 _ rfl
   have vl := b1.lt
   go_wp2
   go_ret
   exact ⟨rfl, hB2⟩
end Go.Proofs.YtdafcipilknecaaGreatDoor

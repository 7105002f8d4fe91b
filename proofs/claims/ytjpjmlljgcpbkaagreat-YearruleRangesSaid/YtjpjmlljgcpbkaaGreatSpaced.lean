/- yearrule.Spaced. -/
import Derived.Test.YtjpjmlljgcpbkaaGreatAll
namespace Go.Proofs.YtjpjmlljgcpbkaaGreat
set_option linter.unusedSimpArgs false
set_option linter.unusedVariables false
open Go.ChangeShapes Go.WideShapes Go.ChangeAt Go.RowKit

theorem infoI : (Tryz.prog.info? 3).map (fun i => (i.zero, i.size, i.bytes)) = some (some (.int .i64 0), 1, 8) := by kernel_rfl
theorem Spaced_no (rs : List Rule) (v : Value) (w : World) (hl : rs.length ≤ 300000) (h : Rd Rule.cells 11 w v rs) (ha : allV rs = false) :
    Calls Tryz.prog 16 #[v] w fun e w' => e = .returned (.bool (spacedF rs)) ∧ Below w.heap.size w w' := by
  rw [spacedF_no ha]
  have hA := all_any rs v w (by omega) h
  rw [ha] at hA
  have HA := Lib.hid hA
  clear hA h ha
  go_enter Tryz.func16, Tryz.ntmps16
  go_wp2_with (go_at_call 43; refine HA.out.mono ?_; rintro e w1 ⟨rfl, hb1⟩)
  go_ret
  exact ⟨rfl, hb1⟩
theorem Spaced_nil (A : Option Addr) (c : Nat) (w : World) :
    Calls Tryz.prog 16 #[.slice A 0 c] w fun e w' => e = .returned (.bool (spacedF [])) ∧ Below w.heap.size w w' := by
  have hA := all_any [] (.slice A 0 c) w (by simp) (.inl ⟨rfl, A, c, rfl⟩)
  have HA := Lib.hid hA
  clear hA
  have hs : spacedF [] = true := by decide +kernel
  rw [hs]
  go_enter Tryz.func16, Tryz.ntmps16
  go_wp2_with (go_at_call 43; refine HA.out.mono ?_; rintro e w1 ⟨rfl, hb1⟩; rw [show allV [] = true from rfl])
  refine wp_loop_rounds 1 ?_
  rw [rounds_succ]
  go_wp2_with (first
    | (go_at_call 44; refine (Tryz.slices_Sort_int_none _ _ _).mono ?_; rintro e w' ⟨rfl, rfl⟩)
    | (go_at_call 45; refine (Tryz.slices_Compact_int_empty _ _ _).mono ?_; rintro e w' ⟨rfl, rfl⟩))
  refine wp_loop_rounds 1 ?_
  rw [rounds_succ]
  go_wp2
  go_ret
  exact ⟨rfl, hb1⟩
theorem enc1_len (x : Int) : ([Value.int .i64 x]).length = 1 := rfl
theorem flat_one (l : List Int) : l.flatMap (fun x => [Value.int .i64 x]) = l.map (Value.int .i64) := by induction l <;> simp_all
theorem new_row_at {w : World} {e : TypeId} {B : Nat} (h : B = w.heap.size) (cs : List Value) : ∀ j u, cs[j]? = some u → (w.alloc (.cells cs.toArray e)).cell? ((⟨B, 0, none⟩ : Addr).add j) = some u := by
  subst h; exact new_row w e cs
theorem two_one (a b : Int) : ∀ u ∈ [Value.int .i64 a, Value.int .i64 b], u.oneCell' = true := by
  intro v hv
  simp at hv
  rcases hv with rfl | rfl <;> rfl
theorem grow_below (w : World) (os : Array Obj) : Below w.heap.size w (Sort.grow w os) := ⟨rfl, rfl, rfl, by simp [Sort.grow], fun i hi => by simp [Sort.grow, Array.getElem?_append_left, hi]⟩
theorem not_nil {w : World} {base n : Nat} {v : Value} {xs : List Value} {t : TypeId} (h : w.ownsRow base t 1 v n xs) (hn : 0 < n) : v ≠ .slice none 0 0 := by
  rintro rfl
  rcases h.2 with ⟨_, e1⟩ | ⟨_, _, _, e0, _⟩
  · omega
  · cases e0
/-- a slice of numbers, read as a list -/
def enc1 (x : Int) : List Value := [.int .i64 x]
theorem Sort_own (base : Nat) (zs : List Int) (n : Nat) (v : Value) (w : World) (h : w.ownsRow base 3 1 v n (zs.map (Value.int .i64))) (hn : 0 < n) (hn2 : n ≤ 1000000) :
    Calls Tryz.prog 44 #[v] w fun e w' => e = .returned (.tuple #[]) ∧ w'.ownsRow base 3 1 v n ((zs.mergeSort fun x y => decide (x ≤ y)).map (Value.int .i64)) ∧ ∀ w0, Below base w0 w → Below base w0 w' := by
  obtain ⟨g, cap, rfl, hg1, hg2, hg3, hg4, hg5, hH⟩ := Lib.holds_of_ownsRow h (not_nil h hn)
  subst hg5
  refine (Tryz.slices_Sort_int g 0 cap zs w hH hg2 (by omega)).mono ?_
  rintro e w' ⟨rfl, n, os, rfl⟩
  have h2 := Lib.ownsRow_putRow (q := n) h (ys := zs.mergeSort fun x y => decide (x ≤ y)) (List.length_mergeSort _) (Nat.le_refl _)
  rw [List.take_of_length_le (by rw [List.length_mergeSort]; exact Nat.le_refl _)] at h2
  refine ⟨rfl, own_on h2 (grow_below _ _), fun w0 hb => ?_⟩
  have h3 := Lib.below_putRow (enc := Value.int .i64) (q := n) (d := (zs.mergeSort fun x y => decide (x ≤ y)).toArray) hb hg1
  exact h3.trans ((grow_below _ os).mono (by simp [Sort.putRow, Sort.mapBlock, Sort.ahead]; omega))
theorem Compact_own (base : Nat) (zs : List Int) (n : Nat) (v : Value) (w : World) (h : w.ownsRow base 3 1 v n (zs.map (Value.int .i64))) (hn : 0 < n) :
    Calls Tryz.prog 45 #[v] w fun e w' => ∃ A c, e = .returned (.slice A (Lib.compact zs).length c) ∧ Rd enc1 1 w' (.slice A (Lib.compact zs).length c) (Lib.compact zs) ∧ ∀ w0, Below base w0 w → Below base w0 w' := by
  obtain ⟨g, cap, rfl, hg1, hg2, hg3, hg4, hg5, hH⟩ := Lib.holds_of_ownsRow h (not_nil h hn)
  subst hg5
  have hcl := Lib.compact_length_le zs
  have hm : maxLen = 9223372036854775807 := rfl
  refine (Tryz.slices_Compact_int g 0 cap zs w hH (by omega) hg3).mono ?_
  rintro e w' ⟨rfl, q, rfl⟩
  have h2 := Lib.ownsRow_putRow (q := q) h (ys := Lib.compact zs ++ List.replicate (zs.length - (Lib.compact zs).length) 0) (by simp; omega) hcl
  rw [List.take_left' rfl] at h2
  rw [← flat_one] at h2
  exact ⟨_, _, rfl, rd_of_own (enc := enc1) (fun _ => rfl) h2 rfl, fun w0 hb => Lib.below_putRow hb hg1⟩
set_option maxRecDepth 100000 in
set_option maxHeartbeats 4000000 in
theorem Spaced_some (rs : List Rule) (b off c : Nat) (w : World) (hl : rs.length ≤ 300000) (h0 : 0 < rs.length) (hb : b < w.heap.size)
    (hc : ∀ j, j < rs.length → ∀ i u, (Rule.cells rs[j]!)[i]? = some u → w.cell? ⟨b, off + j * 11 + i, none⟩ = some u) (ha : allV rs = true) :
    Calls Tryz.prog 16 #[.slice (some ⟨b, off, none⟩) rs.length c] w fun e w' => e = .returned (.bool (spacedF rs)) ∧ Below w.heap.size w w' := by
  obtain ⟨i0, hi0, hz0, hz1, hz2⟩ := info_parts infoI
  have hR : Rd Rule.cells 11 w (.slice (some ⟨b, off, none⟩) rs.length c) rs := .inr ⟨b, off, c, rfl, hb, hc⟩
  have hA := all_any rs _ w (by omega) hR
  rw [ha] at hA
  have HA := Lib.hid hA
  have HR := Lib.hid hR
  have HCB := Lib.hid (fun i (hi : i < (cutsF rs).length) => cutsF_bd (allV_bd ha) hi)
  have HRB := Lib.hid (allV_bd ha)
  have HSP := Lib.hid (spacedF_ok ha)
  have HC := Lib.hid hc
  have hCl := cutsF_len rs
  have hB : ∀ y : Int, 0 ≤ y → y ≤ 10001 → ∀ W : World, Rd Rule.cells 11 W (.slice (some ⟨b, off, none⟩) rs.length c) rs → _ := fun y h1 h2 W h => crowded_any rs y _ W hl (by omega) h
  have HB := Lib.hid hB
  clear hA hR ha hc hB
  go_enter Tryz.func16, Tryz.ntmps16
  go_wp2_with (go_at_call 43; refine HA.out.mono ?_; rintro e w1 ⟨rfl, hb1⟩)
  go_loopw [3, 15] (fun v i wr => ∃ k : Nat, k ≤ rs.length ∧ i = .int .i64 k ∧ wr.ownsRow w.heap.size 3 1 v (2 * k) ((cutsL (rs.take k)).map (Value.int .i64)) ∧ Below w.heap.size w wr) (fun _ i _ => rs.length - (intOf i).toNat)
  case atStart => exact ⟨0, Nat.zero_le _, rfl, ⟨by simp [cutsL], .inl ⟨rfl, by simp [cutsL]⟩⟩, hb1⟩
  case round =>
    obtain ⟨k, hk, rfl, hown, hbw⟩ := hrel
    by_cases hlt : k < rs.length
    · have hcell : ∀ i u, (Rule.cells rs[k]!)[i]? = some u → wr.cell? ⟨b, off + k * 11 + i, none⟩ = some u := fun i u hu => (hbw.cell (p := ⟨b, off + k * 11 + i, none⟩) hb).trans (HC.out k hlt i u hu)
      have hbd := HRB.out rs[k]! (by rw [getElem!_pos rs k hlt]; exact List.getElem_mem hlt)
      have hcu := cutsL_take rs k hlt
      generalize hrr : rs[k]! = r at *
      have HCU := Lib.hid hcu
      have c0 : wr.cell? ⟨b, off + k * 11, none⟩ = _ := hcell 0 _ rfl
      have c1 := hcell 1 _ rfl
      have c2 := hcell 2 _ rfl
      have c3 := hcell 3 _ rfl
      have c4 := hcell 4 _ rfl
      have c5 := hcell 5 _ rfl
      have c6 := hcell 6 _ rfl
      have c7 := hcell 7 _ rfl
      have c8 := hcell 8 _ rfl
      have c9 := hcell 9 _ rfl
      have c10 := hcell 10 _ rfl
      clear hcell hrr hcu
      have HOWN := Lib.hid hown
      clear hown
      go_wp2_with (at_builtin; go_loud (refine wpList_append_own _ rfl (.tmp 19) (.tmp 25) _ rfl w.heap.size 3 i0 _ 1 8 Tryz.underlying70 hi0 hz0 hz1 hz2 rfl (by decide) _ _ _ rfl ((own_on HOWN.out (alloc_below _ _)).alloc _) ⟨_, 0, none⟩ 2 2 [.int .i64 r.fr, .int .i64 (r.to + 1)] rfl rfl (new_row_at (by simp) _) (two_one _ _) (by simp only [maxLen]; omega) (by omega) (by have := hbw.size; simp; omega) ?_; intro v' w2 hown2 hg2 _))
      have hB1 : Below w.heap.size w ((wr.alloc (.cells (Rule.cells r).toArray 25)).alloc (.cells #[.int .i64 r.fr, .int .i64 (r.to + 1)] 3)) := (hbw.alloc hbw.size _).alloc (by have := hbw.size; simp; omega) _
      have hB2 := below_app HOWN.out (Nat.le_refl _) hB1 hg2
      go_roundw
      case rel => exact ⟨k + 1, by omega, by go_num, by rw [HCU.out, List.map_append, show 2 * (k + 1) = 2 * k + 2 by omega]; exact hown2, hB2⟩
      case measure => simp [intOf]; omega
    · have hk' : k = rs.length := by omega
      subst hk'
      rw [List.take_length] at hown
      clear HC
      have HS := Lib.hid (Sort_own _ _ _ _ _ hown (by omega) (by omega))
      clear hown
      go_wp2_with (first
        | (go_at_call 44; refine HS.out.mono ?_; rintro e w2 ⟨rfl, hown2, hbl2⟩; have hb2 := hbl2 _ hbw; have HS3 := Lib.hid (Compact_own _ _ _ _ _ hown2 (by omega)); clear hown2 HS)
        | (go_at_call 45; rw [← cutsF_def] at HS3; refine HS3.out.mono ?_; rintro e w3 ⟨A3, c3, rfl, r3, hbl3⟩; have hb3 := hbl3 _ hb2; clear HS3))
      have R3 := Lib.hid r3
      clear r3
      generalize cutsF rs = C at *
      go_loopw [34] (fun i wr => ∃ k : Nat, k ≤ C.length ∧ i = .int .i64 k ∧ badsF rs C k = false ∧ Below w3.heap.size w3 wr ∧ Below w.heap.size w wr) (fun i _ => C.length - (intOf i).toNat)
      case atStart => exact ⟨0, Nat.zero_le _, rfl, rfl, Below.refl _ _, hb3⟩
      case round =>
        obtain ⟨k, hk, rfl, hbd, hb3k, hbk⟩ := hrel
        by_cases hlt : k < C.length
        · rcases R3.out.on hb3k with ⟨e1, _⟩ | ⟨g, o, cc, e1, hg, hcell⟩
          · rw [e1] at hlt; exact absurd hlt (by simp)
          cases e1
          have ha := HCB.out k hlt
          have c0 : wr.cell? ⟨g, o + k, none⟩ = some (.int .i64 C[k]!) := by have := hcell k hlt 0 _ rfl; rw [Nat.mul_one] at this; exact this
          have HD := Lib.hid hbd
          have HBD := Lib.hid (badsF_succ rs C k)
          have hBF := fun q hq h => badsF_yes hlt (badF_busy (rs := rs) (C := C) (i := k) (n := q) h hq)
          have hBL := fun h => badsF_yes hlt (badF_last (rs := rs) (C := C) (i := k) h)
          have hBN := fun h1 h2 => badF_no (rs := rs) (C := C) (i := k) h1 h2
          have hS : spanF C k = (min (toF C k) (C[k]! + 402) - C[k]!).toNat := rfl
          generalize spanF C k = S at *
          by_cases h1 : k + 1 < C.length
          · have c1 : wr.cell? ⟨g, o + (k + 1), none⟩ = some (.int .i64 C[k + 1]!) := by have := hcell (k + 1) h1 0 _ rfl; rw [Nat.mul_one] at this; exact this
            have hT : toF C k = C[k + 1]! := if_pos h1
            rw [hT] at hBL hBN hS
            have hTb := HCB.out (k + 1) h1
            generalize C[k + 1]! = T at *
            generalize C[k]! = a at *
            have HBF := Lib.hid hBF
            have HBL := Lib.hid hBL
            have HBN := Lib.hid hBN
            clear hcell hbd hBF hBL hBN hT
            go_wp2
            rw [show decide ((k : Int) + 1 < (C.length : Int)) = true from decide_eq_true (by omega)]
            go_loopw [9] (fun y wi => ∃ q : Nat, q ≤ S ∧ y = .int .i64 (a + q) ∧ busyF rs a q = false ∧ Below w3.heap.size w3 wi ∧ Below w.heap.size w wi) (fun y _ => (20000 - intOf y).toNat)
            case atStart => exact ⟨0, Nat.zero_le _, by go_num, rfl, hb3k, hbk⟩
            case round =>
              obtain ⟨q, hq, rfl, hbz, hb3i, hbi⟩ := hrel
              by_cases hlq : q < S
              · have HCR := Lib.hid (HB.out (a + q) (by omega) (by omega) wr (HR.out.on hbi))
                have HBS := Lib.hid (busyF_succ rs a q)
                have HBZ := Lib.hid hbz
                have hmin : a + (q : Int) < min T (a + 402) := by omega
                clear hbz
                cases hcr : crowdF rs (a + q)
                · rw [hcr] at HCR HBS
                  go_wp2_with (go_at_call 46; refine HCR.out.mono ?_; rintro e wj ⟨rfl, hbj⟩)
                  go_roundw
                  case rel => exact ⟨q + 1, by omega, by go_num, by rw [HBS.out, HBZ.out]; rfl, hb3i.trans (hbj.mono hb3i.size), hbi.trans (hbj.mono hbi.size)⟩
                  case measure => simp [intOf]; omega
                · rw [hcr] at HCR HBS
                  go_wp2_with (go_at_call 46; refine HCR.out.mono ?_; rintro e wj ⟨rfl, hbj⟩)
                  go_ret
                  rw [HSP.out, HBF.out (q + 1) (by omega) (by rw [HBS.out]; simp)]
                  exact ⟨rfl, hbi.trans (hbj.mono hbi.size)⟩
              · have hqS : q = S := by omega
                have hmin : ¬ a + (q : Int) < min T (a + 402) := by omega
                have HCR := Lib.hid (HB.out (T - 1) (by omega) (by omega) wr (HR.out.on hbi))
                have HBZ := Lib.hid hbz
                clear hbz
                cases hcr : crowdF rs (T - 1)
                · have HCF := Lib.hid hcr
                  rw [hcr] at HCR
                  clear hcr
                  go_wp2_with (go_at_call 46; refine HCR.out.mono ?_; rintro e wj ⟨rfl, hbj⟩)
                  have hbj2 : Below w.heap.size w wj := hbi.trans (hbj.mono hbi.size)
                  go_roundw
                  case rel => exact ⟨k + 1, by omega, by go_num, by rw [HBD.out, HD.out, HBN.out (hqS ▸ HBZ.out) HCF.out]; rfl, hb3i.trans (hbj.mono hb3i.size), hbj2⟩
                  case measure => simp [intOf]; omega
                · have HCF := Lib.hid hcr
                  rw [hcr] at HCR
                  clear hcr
                  go_wp2_with (go_at_call 46; refine HCR.out.mono ?_; rintro e wj ⟨rfl, hbj⟩)
                  go_ret
                  rw [HSP.out, HBL.out HCF.out]
                  exact ⟨rfl, hbi.trans (hbj.mono hbi.size)⟩
          · have hT : toF C k = C[k]! := if_neg h1
            rw [hT] at hBL hBN hS
            generalize C[k]! = a at *
            have HBF := Lib.hid hBF
            have HBL := Lib.hid hBL
            have HBN := Lib.hid hBN
            clear hcell hbd hBF hBL hBN hT
            go_wp2
            go_loopw [9] (fun y wi => ∃ q : Nat, q ≤ S ∧ y = .int .i64 (a + q) ∧ busyF rs a q = false ∧ Below w3.heap.size w3 wi ∧ Below w.heap.size w wi) (fun y _ => (20000 - intOf y).toNat)
            case atStart => exact ⟨0, Nat.zero_le _, by go_num, rfl, hb3k, hbk⟩
            case round =>
              obtain ⟨q, hq, rfl, hbz, hb3i, hbi⟩ := hrel
              by_cases hlq : q < S
              · have HCR := Lib.hid (HB.out (a + q) (by omega) (by omega) wr (HR.out.on hbi))
                have HBS := Lib.hid (busyF_succ rs a q)
                have HBZ := Lib.hid hbz
                have hmin : a + (q : Int) < min a (a + 402) := by omega
                clear hbz
                cases hcr : crowdF rs (a + q)
                · rw [hcr] at HCR HBS
                  go_wp2_with (go_at_call 46; refine HCR.out.mono ?_; rintro e wj ⟨rfl, hbj⟩)
                  go_roundw
                  case rel => exact ⟨q + 1, by omega, by go_num, by rw [HBS.out, HBZ.out]; rfl, hb3i.trans (hbj.mono hb3i.size), hbi.trans (hbj.mono hbi.size)⟩
                  case measure => simp [intOf]; omega
                · rw [hcr] at HCR HBS
                  go_wp2_with (go_at_call 46; refine HCR.out.mono ?_; rintro e wj ⟨rfl, hbj⟩)
                  go_ret
                  rw [HSP.out, HBF.out (q + 1) (by omega) (by rw [HBS.out]; simp)]
                  exact ⟨rfl, hbi.trans (hbj.mono hbi.size)⟩
              · have hqS : q = S := by omega
                have hmin : ¬ a + (q : Int) < min a (a + 402) := by omega
                have HCR := Lib.hid (HB.out (a - 1) (by omega) (by omega) wr (HR.out.on hbi))
                have HBZ := Lib.hid hbz
                clear hbz
                cases hcr : crowdF rs (a - 1)
                · have HCF := Lib.hid hcr
                  rw [hcr] at HCR
                  clear hcr
                  go_wp2_with (go_at_call 46; refine HCR.out.mono ?_; rintro e wj ⟨rfl, hbj⟩)
                  have hbj2 : Below w.heap.size w wj := hbi.trans (hbj.mono hbi.size)
                  go_roundw
                  case rel => exact ⟨k + 1, by omega, by go_num, by rw [HBD.out, HD.out, HBN.out (hqS ▸ HBZ.out) HCF.out]; rfl, hb3i.trans (hbj.mono hb3i.size), hbj2⟩
                  case measure => simp [intOf]; omega
                · have HCF := Lib.hid hcr
                  rw [hcr] at HCR
                  clear hcr
                  go_wp2_with (go_at_call 46; refine HCR.out.mono ?_; rintro e wj ⟨rfl, hbj⟩)
                  go_ret
                  rw [HSP.out, HBL.out HCF.out]
                  exact ⟨rfl, hbi.trans (hbj.mono hbi.size)⟩
        · have hk' : k = C.length := by omega
          subst hk'
          have HD := Lib.hid hbd
          clear hbd
          go_wp2
          go_ret
          rw [HSP.out, HD.out]
          exact ⟨rfl, hbk⟩

/-- Spaced, at every list of rules -/
theorem Spaced_any (rs : List Rule) (v : Value) (w : World) (hl : rs.length ≤ 300000) (h : Rd Rule.cells 11 w v rs) :
    Calls Tryz.prog 16 #[v] w fun e w' => e = .returned (.bool (spacedF rs)) ∧ Below w.heap.size w w' := by
  cases ha : allV rs
  · exact Spaced_no rs v w hl h ha
  · by_cases h0 : rs = []
    · subst h0
      rcases h with ⟨_, A, c, rfl⟩ | ⟨g, off, c, rfl, _⟩
      · exact Spaced_nil A c w
      · exact Spaced_nil _ c w
    · rcases h with ⟨h1, _⟩ | ⟨g, off, c, rfl, hg, hc⟩
      · exact absurd h1 h0
      · exact Spaced_some rs g off c w hl (List.length_pos_iff.2 h0) hg hc ha

end Go.Proofs.YtjpjmlljgcpbkaaGreat

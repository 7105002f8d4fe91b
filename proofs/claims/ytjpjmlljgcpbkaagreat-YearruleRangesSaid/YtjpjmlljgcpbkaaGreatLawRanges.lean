/- The law YearruleRanges: its walk. -/
import Derived.Test.YtjpjmlljgcpbkaaGreatAwake
import Derived.Test.YtjpjmlljgcpbkaaGreatSortedE
import Derived.Test.YtjpjmlljgcpbkaaGreatApartP
namespace Go.Proofs.YtjpjmlljgcpbkaaGreat
set_option linter.unusedSimpArgs false
set_option linter.unusedVariables false
open Go.ChangeShapes Go.WideShapes Go.ChangeAt Go.RowKit

theorem active_at'' (r : Rule) (y : Int) : (r.active y = true ↔ (r.at y).2 = 0) := by
  unfold Rule.active Rule.at
  cases hv : r.valid <;> cases hh : r.has y <;> simp
theorem evs_idx (y : Int) : ∀ (i : Nat) (rs : List Rule), ∀ x ∈ evs y i rs, (i : Int) ≤ x.2 ∧ x.2 < (i + rs.length : Nat)
  | _, [], x, hx => by simp [evs] at hx
  | i, r :: rs, x, hx => by
    rw [evs, List.mem_append] at hx
    rcases hx with hx | hx
    · unfold ev1 at hx
      split at hx
      · simp at hx; subst hx; simp; omega
      · simp at hx
    · have := evs_idx y (i + 1) rs x hx
      simp; omega
theorem evY_at {rs : List Rule} {a : Int} {n : Nat} {x : Int × Int} (h : x ∈ evY rs a n) : (-300000000000 ≤ x.1 ∧ x.1 ≤ 300000000000) ∧ 0 ≤ x.2 ∧ x.2 < rs.length := by
  obtain ⟨j, _, hx⟩ := mem_evY.1 h
  have h1 := yearF_bd rs (a + j) x hx
  have h2 := evs_idx (a + j) 0 rs x ((List.mergeSort_perm _ _).mem_iff.1 hx)
  refine ⟨h1, by simpa using h2.1, by simpa using h2.2⟩
theorem srt_order {rs : List Rule} {a : Int} {n : Nat} (hl : rs.length ≤ 1000) : ∀ j, j + 1 < (srt (evY rs a n)).length → 0 ≤ cmpR (srt (evY rs a n))[j + 1]! (srt (evY rs a n))[j]! := fun j hj => by
  have hp := (List.pairwise_iff_getElem.1 (show (srt (evY rs a n)).Pairwise _ from sorted_E (evY rs a n))) j (j + 1) (by omega) hj (by omega)
  have hm : ∀ i (hi : i < (srt (evY rs a n)).length), (srt (evY rs a n))[i] ∈ evY rs a n := fun i hi => (List.mergeSort_perm _ _).mem_iff.1 (List.getElem_mem hi)
  rw [getElem!_pos _ (j + 1) hj, getElem!_pos _ j (by omega)]
  have h1 := evY_at (hm j (by omega))
  have h2 := evY_at (hm (j + 1) hj)
  exact cmpR_le hp h1.1 h2.1 (by omega) (by omega)
theorem ev_mem {rs : List Rule} {a : Int} {n j k : Nat} (hj : j < n) (hk : k < rs.length) (h : ((rs[k]!).at (a + j)).2 = 0) : (((rs[k]!).at (a + j)).1, (k : Int)) ∈ srt (evY rs a n) := by
  refine (List.mergeSort_perm _ _).mem_iff.2 (mem_evY.2 ⟨j, hj, (List.mergeSort_perm _ _).mem_iff.2 ?_⟩)
  have h1 := evs_take (a + j) rs k hk
  have h2 : (((rs[k]!).at (a + j)).1, (k : Int)) ∈ evs (a + j) 0 (rs.take (k + 1)) := by
    rw [h1]
    refine List.mem_append_right _ ?_
    unfold ev1
    rw [if_pos h]
    exact List.mem_singleton.2 rfl
  have h3 : ∀ i (l1 l2 : List Rule), ∀ x ∈ evs (a + j) i l1, x ∈ evs (a + j) i (l1 ++ l2) := by
    intro i l1
    induction l1 generalizing i with
    | nil => intro l2 x hx; simp [evs] at hx
    | cons r l1 ih =>
      intro l2 x hx
      rw [List.cons_append, evs]
      rw [evs] at hx
      rcases List.mem_append.1 hx with hx | hx
      · exact List.mem_append_left _ hx
      · exact List.mem_append_right _ (ih (i + 1) l2 x hx)
  have h4 := h3 0 (rs.take (k + 1)) (rs.drop (k + 1)) _ h2
  rwa [List.take_append_drop] at h4

set_option maxRecDepth 100000 in
set_option maxHeartbeats 2000000 in
theorem law_YearruleRanges (rs : List Rule) (v : Value) (a b : Int) (w : World) (h : Rd Rule.cells 11 w v rs) (hm : HasMax w) :
    Calls Tryz.prog 8 #[v, .int .i64 a, .int .i64 b] w fun e w' => e = .returned (.bool true) ∧ Below w.heap.size w w' := by
  obtain ⟨A, c, rfl⟩ := rd_vform h
  have HR := Lib.hid h
  clear h
  have HAw := Lib.hid (fun W h => awake_any W h)
  have HM := Lib.hid hm
  clear hm
  by_cases g1 : 8 < rs.length
  · go_enter Tryz.func8, Tryz.ntmps8
    go_wp2_with (go_at_call 9; refine (HAw.out _ HM.out).mono ?_; rintro e w1 ⟨rfl, hb1⟩)
    go_ret
    exact ⟨rfl, hb1⟩
  have z1 : decide (8 < (rs.length : Int)) = false := decide_eq_false (by omega)
  by_cases g30 : 30 < wrap64 (b - a)
  · go_enter Tryz.func8, Tryz.ntmps8
    go_wp2_with (go_at_call 9; refine (HAw.out _ HM.out).mono ?_; rintro e w1 ⟨rfl, hb1⟩)
    go_ret
    exact ⟨ret1 (vbool (by simp)), hb1⟩
  by_cases g31 : a < 1
  · go_enter Tryz.func8, Tryz.ntmps8
    go_wp2_with (go_at_call 9; refine (HAw.out _ HM.out).mono ?_; rintro e w1 ⟨rfl, hb1⟩)
    go_ret
    exact ⟨ret1 (vbool (by simp)), hb1⟩
  by_cases g32 : 9999 < b
  · go_enter Tryz.func8, Tryz.ntmps8
    go_wp2_with (go_at_call 9; refine (HAw.out _ HM.out).mono ?_; rintro e w1 ⟨rfl, hb1⟩)
    go_ret
    exact ⟨ret1 (vbool (by simp)), hb1⟩
  have z3 : decide (30 < wrap64 (b - a)) = false := decide_eq_false g30
  have z4 : decide (a < 1) = false := decide_eq_false g31
  have z5 : decide (9999 < b) = false := decide_eq_false g32
  have hmul : rs.length * (b - a + 1).toNat ≤ 1000 := by
    have hn : (b - a + 1).toNat ≤ 31 := by unfold wrap64 at g30; omega
    exact Nat.le_trans (Nat.mul_le_mul (show rs.length ≤ 8 by omega) hn) (by decide)
  have HG := Lib.hid (fun W h => Range_any rs a b (.slice A rs.length c) W (by omega) h (fun _ _ => hmul))
  unfold RangeOut at HG
  obtain ⟨⟨X, E⟩, hP⟩ : ∃ P, rangeF rs a b = P := ⟨_, rfl⟩
  have HX : E ≠ 0 ∨ (E = 0 ∧ 1 ≤ a ∧ a ≤ b ∧ b ≤ 9999 ∧ X = srt (evY rs a (b - a + 1).toNat)) := by
    unfold rangeF at hP
    split at hP
    · cases hP; exact .inl (by decide)
    · split at hP
      · cases hP; exact .inl (by decide)
      · cases hP; exact .inr ⟨rfl, by omega, by omega, by omega, rfl⟩
  rw [hP] at HG
  dsimp only at HG
  clear hP
  rcases HX with hE | ⟨rfl, ha, hab, hb, hX⟩
  · have hE' : (E != 0) = true := by simpa using hE
    have hE'' : (E == 0) = false := by simpa using hE
    clear hE
    go_enter Tryz.func8, Tryz.ntmps8
    go_wp2_with (first
      | (go_at_call 9; refine (HAw.out _ HM.out).mono ?_; rintro e w1 ⟨rfl, hb1⟩)
      | (go_at_call 23; refine (HG.out _ (HR.out.on hb1)).mono ?_; rintro e w5 ⟨v5, rfl, r5, hb5⟩; have hB5 := hb1.trans (hb5.mono hb1.size); clear r5))
    go_ret
    exact ⟨rfl, hB5⟩
  obtain ⟨n, hn⟩ : ∃ n, (b - a + 1).toNat = n := ⟨_, rfl⟩
  have hbn : b - a + 1 = (n : Int) := by omega
  rw [hn] at hX hmul
  have hxl : X.length = (evY rs a n).length := by rw [hX]; exact List.length_mergeSort _
  have hyl : ∀ j : Nat, j ≤ n → (evY rs a j).length ≤ 1000 := fun j hj => by
    have h1 := evY_len rs a j
    have h2 := Nat.mul_le_mul_right rs.length hj
    rw [Nat.mul_comm n] at h2
    omega
  have hxl2 := hyl n (Nat.le_refl _)
  have HYL := Lib.hid hyl
  have HCo := Lib.hid (fun (j k : Nat) hj hk h v W hr => ContE_yes X _ v W (by omega) hr (hX ▸ ev_mem (rs := rs) (a := a) (n := n) (j := j) (k := k) hj hk h))
  have HSo := Lib.hid (fun v W hr => IsSorted_any X v W (by omega) hr (by rw [hX]; exact srt_order (by omega)))
  have HXL := Lib.hid hxl
  have HBN := Lib.hid hbn
  have z33 : decide (30 < b - a) = false := decide_eq_false (by unfold wrap64 at g30; omega)
  clear hX hn hxl hyl hmul hbn
  go_enter Tryz.func8, Tryz.ntmps8
  go_wp2_with (first
    | (go_at_call 9; refine (HAw.out _ HM.out).mono ?_; rintro e w1 ⟨rfl, hb1⟩)
    | (go_at_call 23; refine (HG.out _ (HR.out.on hb1)).mono ?_; rintro e w5 ⟨v5, rfl, r5, hb5⟩; have hB5 := hb1.trans (hb5.mono hb1.size); have R5 := Lib.hid r5; clear r5; obtain ⟨A5, c5, rfl⟩ := rd_len R5.out))
  go_loopw [9, 10] (fun m y wr => ∃ j : Nat, j ≤ n ∧ y = .int .i64 (a + j) ∧ m = .int .i64 (evY rs a j).length ∧ Below w.heap.size w wr ∧ Below w5.heap.size w5 wr) (fun _ y _ => (20000 - intOf y).toNat)
  case atStart => exact ⟨0, by omega, vint (by omega), vint (by simp [evY]), hB5, Below.refl _ _⟩
  case round =>
    obtain ⟨j, hj, rfl, rfl, hbw, hb5w⟩ := hrel
    by_cases hlt : j < n
    · have hle : a + (j : Int) ≤ b := by have := HBN.out; omega
      have hcnt := HYL.out j hj
      have hcnt2 := HYL.out (j + 1) hlt
      have HE := Lib.hid (show (evY rs a (j + 1)).length = (evY rs a j).length + (evs (a + j) 0 rs).length by rw [evY, List.length_append, yearF_len])
      have hcnt3 := hcnt2
      rw [HE.out] at hcnt3
      generalize (evY rs a j).length = M at *
      go_wp2
      go_loopw [9, 52] (fun m i wr => ∃ k : Nat, k ≤ rs.length ∧ i = .int .i64 k ∧ m = .int .i64 ((M : Int) + ((evs (a + j) 0 (rs.take k)).length : Int)) ∧ Below w.heap.size w wr ∧ Below w5.heap.size w5 wr) (fun _ i _ => rs.length - (intOf i).toNat)
      case atStart => exact ⟨0, Nat.zero_le _, rfl, vint (by simp [evs]), hbw, hb5w⟩
      case round =>
        obtain ⟨k, hk, rfl, rfl, hbk, hb5k⟩ := hrel
        have hln := evs_len (a + j) 0 (rs.take k)
        rw [List.length_take] at hln
        by_cases hkl : k < rs.length
        · obtain ⟨g, off, hA, hg, hcr⟩ : ∃ g off, A = some ⟨g, off, none⟩ ∧ g < w.heap.size ∧ ∀ j, j < rs.length → ∀ i u, (Rule.cells rs[j]!)[i]? = some u → w.cell? ⟨g, off + j * 11 + i, none⟩ = some u := by
            rcases HR.out with ⟨h0, _⟩ | ⟨g, off, c', hv', hg, hc⟩
            · rw [h0] at hkl; simp at hkl
            · cases hv'; exact ⟨g, off, rfl, hg, hc⟩
          subst hA
          have hcell : ∀ i u, (Rule.cells rs[k]!)[i]? = some u → wr.cell? ⟨g, off + k * 11 + i, none⟩ = some u := fun i u hu => (hbk.cell (p := ⟨g, off + k * 11 + i, none⟩) hg).trans (hcr k hkl i u hu)
          have HCk := Lib.hid (fun h v W hr => HCo.out j k hlt hkl h v W hr)
          have hev := evs_take (a + j) rs k hkl
          generalize hrr : rs[k]! = r at *
          have c0 : wr.cell? ⟨g, off + k * 11, none⟩ = _ := hcell 0 _ rfl
          have c1 := hcell 1 _ rfl
          have c2 := hcell 2 _ rfl
          have c3 := hcell 3 _ rfl
          have c4 := hcell 4 _ rfl
          have c5 := hcell 5 _ rfl
          have c6 := hcell 6 _ rfl
          have c7 := hcell 7 _ rfl
          have c8 := hcell 8 _ rfl
          have c9 := hcell 9 _ rfl
          have c10 := hcell 10 _ rfl
          have HEV := Lib.hid hev
          have HAt := Lib.hid (fun W => At_any r (a + j) W)
          have HAc := Lib.hid (fun W => Active_any r (a + j) W)
          have hact := active_at'' r (a + j)
          clear hcell hrr hev hcr
          generalize hEk : evs (a + j) 0 (rs.take k) = Ek at *
          by_cases he : (r.at (a + j)).2 = 0
          · have hac : r.active (a + j) = true := hact.2 he
            have HC2 := Lib.hid (HCk.out he)
            rw [hac] at HAc
            rw [he] at HAt
            have hev1 := Lib.hid (show ev1 (a + j) k r = [((r.at (a + j)).1, (k : Int))] from if_pos he)
            clear he hact hac HCk
            generalize (r.at (a + j)).1 = T at *
            go_wp2_with (first
              | (go_at_call 12; refine (HAt.out _).mono ?_; rintro e w6 ⟨rfl, hb6⟩; obtain ⟨hc6, hf6⟩ := bcell hb6; have hz6 := hb6.size)
              | (go_at_call 19; refine (HAc.out _).mono ?_; rintro e w7 ⟨rfl, hb7⟩)
              | (go_at_call 27; refine (HC2.out _ _ (((R5.out.on (hb5k.alloc hb5k.size _)).on hb6).on hb7)).mono ?_; rintro e w8 ⟨rfl, hb8⟩))
            have hB6 := (hbk.alloc hbk.size _).trans (hb6.mono (by have := hbk.size; simp; omega))
            have hB7 := hB6.trans (hb7.mono hB6.size)
            have hB8 := hB7.trans (hb8.mono hB7.size)
            have hC6 := (hb5k.alloc hb5k.size _).trans (hb6.mono (by have := hb5k.size; simp; omega))
            have hC7 := hC6.trans (hb7.mono hC6.size)
            have hC8 := hC7.trans (hb8.mono hC7.size)
            go_roundw
            case rel => exact ⟨k + 1, by omega, by go_num, by rw [HEV.out, hev1.out, List.length_append]; exact vint (by simp; omega), hB8, hC8⟩
            case measure => simp [intOf]; omega
          · have hac : r.active (a + j) = false := by
              cases hx : r.active (a + j)
              · rfl
              · exact absurd (hact.1 hx) he
            rw [hac] at HAc
            have hev1 := Lib.hid (show ev1 (a + j) k r = [] from if_neg he)
            have he1 : ((r.at (a + j)).2 == 0) = false := by simpa using he
            have he2 : ((r.at (a + j)).2 != 0) = true := by simpa using he
            clear he hact hac HCk
            generalize (r.at (a + j)).1 = T at *
            generalize (r.at (a + j)).2 = F at *
            go_wp2_with (first
              | (go_at_call 12; refine (HAt.out _).mono ?_; rintro e w6 ⟨rfl, hb6⟩; obtain ⟨hc6, hf6⟩ := bcell hb6; have hz6 := hb6.size)
              | (go_at_call 19; refine (HAc.out _).mono ?_; rintro e w7 ⟨rfl, hb7⟩))
            have hB6 := (hbk.alloc hbk.size _).trans (hb6.mono (by have := hbk.size; simp; omega))
            have hB7 := hB6.trans (hb7.mono hB6.size)
            have hC6 := (hb5k.alloc hb5k.size _).trans (hb6.mono (by have := hb5k.size; simp; omega))
            have hC7 := hC6.trans (hb7.mono hC6.size)
            go_roundw
            case rel => exact ⟨k + 1, by omega, by go_num, by rw [HEV.out, hev1.out, List.append_nil], hB7, hC7⟩
            case measure => simp [intOf]; omega
        · have hk' : k = rs.length := by omega
          subst hk'
          rw [List.take_length] at *
          go_wp2
          go_roundw
          case rel => exact ⟨j + 1, by omega, by go_num, by rw [HE.out]; exact vint (by omega), hbk, hb5k⟩
          case measure => simp [intOf]; omega
    · have hj' : j = n := by omega
      subst hj'
      have hle : ¬ a + (j : Int) ≤ b := by have := HBN.out; omega
      rw [← HXL.out]
      go_wp2_with (go_at_call 28; refine (HSo.out _ _ (R5.out.on hb5w)).mono ?_; rintro e w9 ⟨rfl, hb9⟩)
      go_ret
      exact ⟨ret1 (vbool (by simp)), hbw.trans (hb9.mono hbw.size)⟩

end Go.Proofs.YtjpjmlljgcpbkaaGreat

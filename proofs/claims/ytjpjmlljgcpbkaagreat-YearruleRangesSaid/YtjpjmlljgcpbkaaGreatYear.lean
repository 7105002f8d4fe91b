/- yearrule.Year. -/
import Derived.Test.YtjpjmlljgcpbkaaGreatEvents
import Derived.Test.YtjpjmlljgcpbkaaGreatAt
import Derived.Test.YtjpjmlljgcpbkaaGreatShelf
namespace Go.Proofs.YtjpjmlljgcpbkaaGreat
set_option linter.unusedSimpArgs false
set_option linter.unusedVariables false
open Go.ChangeShapes Go.WideShapes Go.ChangeAt Go.RowKit

theorem infoE : (Tryz.prog.info? 44).map (fun i => (i.zero, i.size, i.bytes)) = some (some (.agg #[.int .i64 0, .int .i64 0]), 2, 16) := by kernel_rfl
theorem isAggE (w : World) : (isAgg 44).run Tryz.prog w = .ok true w := by kernel_rfl
theorem sizeOfE (w : World) : (Go.sizeOf 44).run Tryz.prog w = .ok 2 w := by kernel_rfl
/-- the library's sort, by order, at a row of the call's own -/
theorem sortE (es : List (Int × Int)) (g cap : Nat) (w : World) (hH : Sort.HoldsK encE 2 w g 0 es.toArray) (hg : g < w.heap.size) (hl : es.length ≤ 1000000) :
    Calls Tryz.prog 51 #[.slice (some ⟨g, 0, none⟩) es.length cap, .func (.func 52) #[] #[]] w fun e w' => e = .returned (.tuple #[]) ∧ Rd encE 2 w' (.slice (some ⟨g, 0, none⟩) es.length cap) (es.mergeSort leE) ∧ ∀ B w0, Below B w0 w → B ≤ g → B ≤ w.heap.size → Below B w0 w' := by
  have h := Tryz.slices_SortFunc_total 2 isAggE sizeOfE encE encE_len encE_one ordF swoE 52 #[] g 0 cap es.toArray w (enters_of Tryz.func52 (by kernel_rfl) rfl) (fun _ _ _ _ x y => order_any x y _) hH hg (by simp; omega) totE
  have e : (fun x y => !(ltOf ordF) y x) = leE := by rw [ltOf_ord']; rfl
  rw [e] at h
  refine h.mono ?_
  rintro e' w' ⟨rfl, n, os, rfl⟩
  exact ⟨rfl, rd_sorted encE_len hH (List.length_mergeSort _) hg, fun B w0 hb hB hB2 => below_sorted hb hB hB2⟩
set_option maxRecDepth 100000 in
set_option maxHeartbeats 2000000 in
theorem Year_some (rs : List Rule) (y : Int) (b off c : Nat) (w : World) (hb : b < w.heap.size) (hl : rs.length ≤ 1000000) (h0 : 0 < rs.length)
    (hc : ∀ j, j < rs.length → ∀ i u, (Rule.cells rs[j]!)[i]? = some u → w.cell? ⟨b, off + j * 11 + i, none⟩ = some u) :
    Calls Tryz.prog 21 #[.slice (some ⟨b, off, none⟩) rs.length c, .int .i64 y] w fun e w' => ∃ v, e = .returned v ∧ Rd encE 2 w' v (yearF rs y) ∧ Below w.heap.size w w' := by
  obtain ⟨i0, hi0, hz0, hz1, hz2⟩ := info_parts infoE
  have HC := Lib.hid hc
  clear hc
  go_enter Tryz.func21, Tryz.ntmps21
  go_wp2
  go_loopw [5, 12] (fun v i wr => ∃ k : Nat, k ≤ rs.length ∧ i = .int .i64 k ∧ wr.ownsRow w.heap.size 44 2 v (evs y 0 (rs.take k)).length ((evs y 0 (rs.take k)).flatMap encE) ∧ Below w.heap.size w wr) (fun _ i _ => rs.length - (intOf i).toNat)
  case atStart => exact ⟨0, Nat.zero_le _, rfl, ⟨by simp [evs], .inl ⟨rfl, by simp [evs]⟩⟩, Below.refl _ _⟩
  case round =>
    obtain ⟨k, hk, rfl, hown, hbw⟩ := hrel
    by_cases hlt : k < rs.length
    · have hcell : ∀ i u, (Rule.cells rs[k]!)[i]? = some u → wr.cell? ⟨b, off + k * 11 + i, none⟩ = some u := fun i u hu => (hbw.cell (p := ⟨b, off + k * 11 + i, none⟩) hb).trans (HC.out k hlt i u hu)
      have hr : Hid (rs[k]! = rs[k]!) := rfl
      generalize hrr : rs[k]! = r at *
      have c0 : wr.cell? ⟨b, off + k * 11, none⟩ = _ := hcell 0 _ rfl
      have c1 := hcell 1 _ rfl
      have c2 := hcell 2 _ rfl
      have c3 := hcell 3 _ rfl
      have c4 := hcell 4 _ rfl
      have c5 := hcell 5 _ rfl
      have c6 := hcell 6 _ rfl
      have c7 := hcell 7 _ rfl
      have c8 := hcell 8 _ rfl
      have c9 := hcell 9 _ rfl
      have c10 := hcell 10 _ rfl
      have hev := evs_take y rs k hlt
      rw [hrr] at hev
      have HEV := Lib.hid hev
      have hA := fun W => At_any r y W
      have HA := Lib.hid hA
      have hln := evs_len y 0 (rs.take k)
      rw [List.length_take] at hln
      have hln' : (evs y 0 (rs.take k)).length ≤ k := by omega
      clear hcell hrr hr hev hA hln
      generalize evs y 0 (rs.take k) = E at *
      have HOWN := Lib.hid hown
      clear hown
      by_cases he : (r.at y).2 = 0
      · have hev1 : Hid (ev1 y k r = [((r.at y).1, (k : Int))]) := if_pos he
        have HE := Lib.hid he
        clear he
        go_wp2_with (first
          | (go_at_call 12; refine (HA.out _).mono ?_; rintro e w1 ⟨rfl, hb1⟩; rw [HE.out])
          | (at_builtin; refine wpList_append_own _ rfl (.tmp 25) (.tmp 29) _ rfl w.heap.size 44 i0 _ 2 16 Tryz.underlying42 hi0 hz0 hz1 hz2 rfl (by decide) _ _ _ rfl ((own_on (HOWN.out.alloc _) hb1).alloc _) ⟨w1.heap.size, 0, none⟩ 1 1 (encE ((r.at y).1, (k : Int))) rfl rfl (new_row w1 _ _) (encE_one _) (by simp only [maxLen]; omega) (by omega) (by have := hbw.size; have := hb1.size; simp at this ⊢; omega) ?_; intro v' w2 hown2 hg2 _))
        have hB1 : Below w.heap.size w (w1.alloc (.cells #[.int .i64 (r.at y).1, .int .i64 (k : Int)] 44)) := ((hbw.alloc hbw.size _).trans (hb1.mono (by have := hbw.size; simp; omega))).alloc (by have := hbw.size; have := hb1.size; simp at this; omega) _
        have hB2 := below_app HOWN.out (Nat.le_refl _) hB1 hg2
        go_roundw
        case rel => exact ⟨k + 1, by omega, by go_num, by rw [HEV.out, hev1.out]; exact own_snoc hown2, hB2⟩
        case measure => simp [intOf]; omega
      · have hev1 : Hid (ev1 y k r = []) := if_neg he
        have he' : ((r.at y).2 == 0) = false := by simpa using he
        clear he
        go_wp2_with (go_at_call 12; refine (HA.out _).mono ?_; rintro e w1 ⟨rfl, hb1⟩)
        go_roundw
        case rel => exact ⟨k + 1, by omega, by go_num, by rw [HEV.out, hev1.out, List.append_nil]; exact own_on (HOWN.out.alloc _) hb1, (hbw.alloc hbw.size _).trans (hb1.mono (by have := hbw.size; simp; omega))⟩
        case measure => simp [intOf]; omega
    · have hk' : k = rs.length := by omega
      subst hk'
      rw [List.take_length] at hown
      have hln := evs_len y 0 rs
      have hY := Lib.hid (show yearF rs y = (evs y 0 rs).mergeSort leE from rfl)
      by_cases hv : u5 = .slice none 0 0
      · have hn : (evs y 0 rs) = [] := by
          rcases hown.2 with ⟨_, e1⟩ | ⟨g, cap, cur, e0, _⟩
          · exact List.eq_nil_of_length_eq_zero e1
          · rw [hv] at e0; cases e0
        have hY2 : Hid (yearF rs y = []) := by rw [RowKit.Hid, hY.out, hn, List.mergeSort_nil]
        subst hv
        clear hown hn
        go_wp2_with (go_at_call 51; refine (Tryz.slices_SortFunc_none (α := Int × Int) _ _ _ _).mono ?_; rintro e w1 ⟨rfl, rfl⟩)
        go_ret
        exact ⟨_, rfl, .inl ⟨hY2.out, none, 0, rfl⟩, hbw⟩
      · obtain ⟨g, cap, rfl, hg1, hg2, hg3, hg4, hH⟩ := holdsK_of_own encE_len hown rfl hv
        have hS := sortE (evs y 0 rs) g cap wr hH hg2 (by omega)
        have HS := Lib.hid hS
        clear hown hv hH hS
        go_wp2_with (go_at_call 51; refine HS.out.mono ?_; rintro e w1 ⟨rfl, hrd, hbl⟩)
        go_ret
        exact ⟨_, rfl, by rw [hY.out]; exact hrd, hbl _ _ hbw hg1 hbw.size⟩

theorem Year_none (y : Int) (A : Option Addr) (c : Nat) (w : World) :
    Calls Tryz.prog 21 #[.slice A 0 c, .int .i64 y] w fun e w' => ∃ v, e = .returned v ∧ Rd encE 2 w' v (yearF [] y) ∧ Below w.heap.size w w' := by
  go_enter Tryz.func21, Tryz.ntmps21
  go_wp2
  refine wp_loop_rounds 1 ?_
  rw [rounds_succ]
  go_wp2_with (go_at_call 51; refine (Tryz.slices_SortFunc_none (α := Int × Int) _ _ _ _).mono ?_; rintro e w1 ⟨rfl, rfl⟩)
  go_ret
  exact ⟨_, rfl, .inl ⟨List.mergeSort_nil, none, 0, rfl⟩, Below.refl _ _⟩

/-- Year, at every list of rules -/
theorem Year_any (rs : List Rule) (y : Int) (v : Value) (w : World) (hl : rs.length ≤ 1000000) (h : Rd Rule.cells 11 w v rs) :
    Calls Tryz.prog 21 #[v, .int .i64 y] w fun e w' => ∃ v, e = .returned v ∧ Rd encE 2 w' v (yearF rs y) ∧ Below w.heap.size w w' := by
  by_cases h0 : rs = []
  · subst h0
    rcases h with ⟨_, A, c, rfl⟩ | ⟨g, off, c, rfl, _⟩
    · exact Year_none y A c w
    · exact Year_none y _ c w
  · rcases h with ⟨h1, _⟩ | ⟨g, off, c, rfl, hg, hc⟩
    · exact absurd h1 h0
    · exact Year_some rs y g off c w hg hl (List.length_pos_iff.2 h0) hc

end Go.Proofs.YtjpjmlljgcpbkaaGreat

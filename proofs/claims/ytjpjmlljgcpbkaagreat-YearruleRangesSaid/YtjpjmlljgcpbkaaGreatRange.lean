/- yearrule.Range: the events of years as a list. -/
import Derived.Test.YtjpjmlljgcpbkaaGreatYear
import Derived.Test.YtjpjmlljgcpbkaaGreatAll
import Derived.Test.YtjpjmlljgcpbkaaGreatStable4
import Derived.Test.YtjpjmlljgcpbkaaGreatFarP
namespace Go.Proofs.YtjpjmlljgcpbkaaGreat
set_option linter.unusedSimpArgs false
set_option linter.unusedVariables false
open Go.ChangeShapes Go.WideShapes Go.ChangeAt Go.RowKit Go.Sort

/-- the events of some years from one on, in the years' order -/
def evY (rs : List Rule) (from_ : Int) : Nat → List (Int × Int)
  | 0 => []
  | n + 1 => evY rs from_ n ++ yearF rs (from_ + n)
def srt (l : List (Int × Int)) : List (Int × Int) := l.mergeSort leE
theorem evY_len (rs : List Rule) (a : Int) : ∀ n, (evY rs a n).length ≤ n * rs.length
  | 0 => by simp [evY]
  | n + 1 => by
    have h1 := evY_len rs a n
    have h2 := crowd_len rs (a + n)
    rw [evY, List.length_append, Nat.add_mul, Nat.one_mul]; omega
/-- the library's stable sort, by order, at a row of the call's own -/
theorem stableE (es : List (Int × Int)) (g cap : Nat) (w : World) (hH : HoldsK encE 2 w g 0 es.toArray) (hg : g < w.heap.size) (hl : es.length ≤ 1000000) :
    Calls Tryz.prog 54 #[.slice (some ⟨g, 0, none⟩) es.length cap, .func (.func 52) #[] #[]] w fun e w' => e = .returned (.tuple #[]) ∧ Rd encE 2 w' (.slice (some ⟨g, 0, none⟩) es.length cap) (srt es) ∧ ∀ B w0, Below B w0 w → B ≤ g → B ≤ w.heap.size → Below B w0 w' := by
  have R : RowK encE 2 w g 0 es.toArray := ⟨encE_len, encE_one, hH, hg⟩
  have h := stableFunc_w (k := 2) (enc := encE) (cap := cap) (g := 52) (cb := #[]) (cf := ordF) sizE (enters_of Tryz.func52 (by kernel_rfl) rfl) (fun m os dk _ x y => order_any x y _) swoE R es.toArray w rfl (SWK.start hH) (by simp; omega)
  have e1 : es.toArray.size = es.length := by simp
  rw [e1] at h
  refine h.mono ?_
  rintro e w' ⟨rfl, d', hp, hso, n, os, rfl⟩
  have hq : d'.toList = es.mergeSort (fun x y => !(ltOf ordF) y x) := by
    have := sorted_unique_holds swoE totE es.toArray d' (by rw [e1]; exact hp) (by rw [e1]; exact hso)
    simpa using this
  have e2 : (fun x y => !(ltOf ordF) y x) = leE := by rw [ltOf_ord']; rfl
  rw [e2] at hq
  have hd : d' = (srt es).toArray := by unfold srt; rw [← hq]
  rw [hd]
  exact ⟨rfl, rd_sorted encE_len hH (List.length_mergeSort _) hg, fun B w0 hb hB hB2 => below_sorted hb hB hB2⟩

theorem stable_none (A : Option Addr) (c : Nat) (fv : Value) (w : World) : Calls Tryz.prog 86 #[.slice A 0 c, .int .i64 0, fv] w fun e w' => e = .returned (.tuple #[]) ∧ w = w' := by
  go_enter Tryz.func86, Tryz.ntmps86
  go_wp2
  refine wp_loop_rounds 1 ?_
  rw [rounds_succ]
  go_wp2_with (go_at_call 106; refine (Tryz.insertionSortCmpFunc_none (α := Int) _ _ _ _).mono ?_; rintro e w' ⟨rfl, rfl⟩)
  refine wp_loop_rounds 1 ?_
  rw [rounds_succ]
  go_wp2
  go_end0
  exact ⟨rfl, rfl⟩
theorem stableFunc_none (A : Option Addr) (c : Nat) (fv : Value) (w : World) : Calls Tryz.prog 54 #[.slice A 0 c, fv] w fun e w' => e = .returned (.tuple #[]) ∧ w = w' := by
  go_enter Tryz.func54, Tryz.ntmps54
  go_wp2_with (go_at_call 86; refine (stable_none _ _ _ _).mono ?_; rintro e w' ⟨rfl, rfl⟩)
  go_end0
  exact ⟨rfl, rfl⟩

theorem own_form {w : World} {base n : Nat} {e : TypeId} {v : Value} {xs : List Value} (h : w.ownsRow base e 2 v n xs) : ∃ A c, v = .slice A n c := by
  rcases h.2 with ⟨rfl, rfl⟩ | ⟨g, cap, cur, rfl, _⟩
  · exact ⟨none, 0, rfl⟩
  · exact ⟨_, _, rfl⟩
/-- Range: the events, and the error; where there are not too many. -/
def rangeF (rs : List Rule) (a b : Int) : List (Int × Int) × Int :=
  if allV rs = false then ([], 1) else if a < 1 ∨ b < a ∨ 9999 < b then ([], 2) else (srt (evY rs a (b - a + 1).toNat), 0)
def RangeOut (rs : List Rule) (a b : Int) (w : World) (e : Ending) (w' : World) : Prop :=
  ∃ v, e = .returned (.tuple #[v, .int .i64 (rangeF rs a b).2]) ∧ Rd encE 2 w' v (rangeF rs a b).1 ∧ Below w.heap.size w w'
set_option maxRecDepth 100000 in
set_option maxHeartbeats 2000000 in
theorem Range_any (rs : List Rule) (a b : Int) (v : Value) (w : World) (hl : rs.length ≤ 300000) (h : Rd Rule.cells 11 w v rs) (hf : 1 ≤ a → b ≤ 9999 → rs.length * (b - a + 1).toNat ≤ 1000) :
    Calls Tryz.prog 23 #[v, .int .i64 a, .int .i64 b] w (RangeOut rs a b w) := by
  have HA := Lib.hid (fun W h => all_any rs v W (by omega) h)
  have H := Lib.hid h
  cases hv : allV rs
  · have e1 : rangeF rs a b = ([], 1) := if_pos hv
    have E := Lib.hid e1
    rw [hv] at HA
    clear h hf hv e1
    go_enter Tryz.func23, Tryz.ntmps23
    go_wp2_with fail
    refine (HA.out _ H.out).mono ?_
    rintro e w1 ⟨rfl, hb1⟩
    go_wp2
    go_ret2
    exact ⟨_, ret2 rfl (by rw [E.out]; rfl), by rw [E.out]; exact .inl ⟨rfl, none, 0, rfl⟩, hb1⟩
  · by_cases hr : a < 1 ∨ b < a ∨ 9999 < b
    · have e1 : rangeF rs a b = ([], 2) := by unfold rangeF; rw [if_neg (by simp [hv]), if_pos hr]
      have E := Lib.hid e1
      rw [hv] at HA
      clear h hf hv e1
      by_cases r1 : a < 1
      all_goals by_cases r2 : b < a
      all_goals
        have r3 : 1 ≤ a → a ≤ b → 9999 < b := fun h1 h2 => by omega
        first | (have r4 := r3 (by omega) (by omega); clear r3 hr) | clear r3 hr
        go_enter Tryz.func23, Tryz.ntmps23
        go_wp2_with fail
        refine (HA.out _ H.out).mono ?_
        rintro e w1 ⟨rfl, hb1⟩
        go_wp2
        all_goals go_ret2
        all_goals exact ⟨_, ret2 rfl (by rw [E.out]; rfl), by rw [E.out]; exact .inl ⟨rfl, none, 0, rfl⟩, hb1⟩
    · have e1 : rangeF rs a b = (srt (evY rs a (b - a + 1).toNat), 0) := by unfold rangeF; rw [if_neg (by simp [hv]), if_neg hr]
      have E := Lib.hid e1
      rw [hv] at HA
      obtain ⟨r1, r2, r3⟩ : 1 ≤ a ∧ a ≤ b ∧ b ≤ 9999 := by omega
      have hcount := hf r1 r3
      have HY := Lib.hid (fun y W h => Year_any rs y v W (by omega) h)
      obtain ⟨i0, hi0, hz0, hz1, hz2⟩ := info_parts infoE
      clear h hf hv e1 hr
      go_enter Tryz.func23, Tryz.ntmps23
      go_wp2_with fail
      refine (HA.out _ H.out).mono ?_
      rintro e w1 ⟨rfl, hb1⟩
      have HB1 := Lib.hid hb1
      clear hb1
      go_wp2_with fail
      go_loopw [8, 9] (fun v8 v9 wr => ∃ n : Nat, (n : Int) ≤ b - a + 1 ∧ v9 = .int .i64 (a + n) ∧ wr.ownsRow w.heap.size 44 2 v8 (evY rs a n).length ((evY rs a n).flatMap encE) ∧ Below w.heap.size w wr) (fun _ v9 _ => (b + 1 - intOf v9).toNat)
      case atStart => exact ⟨0, by omega, vint (by omega), ⟨by simp [evY], .inl ⟨rfl, by simp [evY]⟩⟩, HB1.out⟩
      case round =>
        clear HB1 HA
        obtain ⟨n, hn, rfl, hown, hbw⟩ := hrel
        have hlen := evY_len rs a n
        have hlen2 := crowd_len rs (a + n)
        have hmul : n * rs.length + rs.length ≤ 1000 ∨ b - a < n := by
          by_cases hlt : (n : Int) ≤ b - a
          · left
            have h1 : n + 1 ≤ (b - a + 1).toNat := by omega
            have h2 := Nat.mul_le_mul_right rs.length h1
            rw [Nat.add_mul, Nat.one_mul, Nat.mul_comm (b - a + 1).toNat] at h2
            omega
          · right; omega
        have HO := Lib.hid hown
        by_cases hlt : (n : Int) ≤ b - a
        · have hz : a + (n : Int) ≤ b := by omega
          have hm : n * rs.length + rs.length ≤ 1000 := by omega
          have HEV := Lib.hid (show evY rs a (n + 1) = evY rs a n ++ yearF rs (a + n) from rfl)
          have hlen3 : (evY rs a (n + 1)).length = (evY rs a n).length + (yearF rs (a + n)).length := by rw [HEV.out, List.length_append]
          clear hown hmul hcount
          go_wp2_with fail
          refine (HY.out _ _ (H.out.on hbw)).mono ?_
          rintro e w2 ⟨v1, rfl, hr1, b1⟩
          have R1 := Lib.hid hr1
          obtain ⟨A1, d1, rfl⟩ := rd_len hr1
          clear hr1
          have hb2 : Below w.heap.size w w2 := hbw.trans (b1.mono hbw.size)
          have HO2 := Lib.hid (own_on HO.out b1)
          go_wp2_with (at_builtin; refine wpList_append_rd rfl (.tmp 32) (.tmp 35) _ rfl w.heap.size 44 i0 _ 2 16 Tryz.underlying42 hi0 hz0 hz1 hz2 rfl (by decide) _ _ _ rfl HO2.out encE encE_len encE_one _ rfl (yearF rs (a + n)) R1.out (by simp only [maxLen]; omega) (by omega) hb2.size ?_; intro v2 w3 hown3 hg3; obtain ⟨A2, c2, rfl⟩ := own_form hown3)
          have hb3 := below_app HO2.out (Nat.le_refl _) hb2 hg3
          go_roundw
          case rel => exact ⟨n + 1, by omega, vint (by omega), by rw [HEV.out, List.length_append, List.flatMap_append]; exact hown3, hb3⟩
          case measure => simp [intOf]; omega
        · have hz : ¬ a + (n : Int) ≤ b := by omega
          have hn1 : (b - a + 1).toNat = n := by omega
          have E2 := Lib.hid (show rangeF rs a b = (srt (evY rs a n), 0) by rw [E.out, hn1])
          have hle : (evY rs a n).length ≤ 1000 := by
            rw [hn1, Nat.mul_comm] at hcount
            omega
          clear hcount hmul hn1 E HO
          by_cases hv : u8 = .slice none 0 0
          · have hnil : evY rs a n = [] := by
              rcases hown.2 with ⟨_, e1⟩ | ⟨g, cap, cur, e0, _⟩
              · exact List.eq_nil_of_length_eq_zero e1
              · rw [hv] at e0; cases e0
            have E3 := Lib.hid (show rangeF rs a b = ([], 0) by rw [E2.out, hnil]; unfold srt; rw [List.mergeSort_nil])
            subst hv
            clear hown hnil E2
            go_wp2_with (go_at_call 54; refine (stableFunc_none _ _ _ _).mono ?_; rintro e w1 ⟨rfl, rfl⟩)
            go_ret2
            exact ⟨_, ret2 rfl (by rw [E3.out]; rfl), by rw [E3.out]; exact .inl ⟨rfl, none, 0, rfl⟩, hbw⟩
          · obtain ⟨g, cap, rfl, hg1, hg2, hg3, hg4, hH⟩ := holdsK_of_own encE_len hown rfl hv
            have HS := Lib.hid (stableE (evY rs a n) g cap wr hH hg2 (by omega))
            clear hown hv hH
            go_wp2_with (go_at_call 54; refine HS.out.mono ?_; rintro e w1 ⟨rfl, hrd, hbl⟩)
            go_ret2
            exact ⟨_, ret2 rfl (by rw [E2.out]; rfl), by rw [E2.out]; exact hrd, hbl _ _ hbw hg1 hbw.size⟩

end Go.Proofs.YtjpjmlljgcpbkaaGreat

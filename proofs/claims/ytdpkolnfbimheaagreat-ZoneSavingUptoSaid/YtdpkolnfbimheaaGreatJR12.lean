/- The reference's functions on runs: Number, Span, Spans, Valid, In. -/
import Derived.Test.YtdpkolnfbimheaaGreatGRn
import Derived.BigQuiet
namespace Go.Proofs.YtdpkolnfbimheaaGreat
set_option linter.unusedSimpArgs false
set_option linter.unusedVariables false
open Go.ChangeShapes Go.WideShapes Go.ChangeAt Go.RowKit

theorem r12_Number (x : Int) (w : World) (h : -4398046511104 ≤ x ∧ x ≤ 4398046511104) : Calls Tryz.prog 148 #[.int .i64 x] w fun e w' => e = .returned (.bool true) ∧ Below w.heap.size w w' := by
  obtain ⟨h1, h2⟩ := h
  go_enter Tryz.func148, Tryz.ntmps148
  go_wp2
  go_ret
  exact ⟨ret1 (vbool (by simp)), Below.refl _ _⟩
theorem r12_Span (s : Spn) (w : World) (h : s.ok = true) : Calls Tryz.prog 108 #[.agg #[.int .i64 s.fr, .int .i64 s.to]] w fun e w' => e = .returned (.bool true) ∧ Below w.heap.size w w' := by
  obtain ⟨h1, h2, h3⟩ := Spn.ok_iff.1 h
  obtain ⟨a, b⟩ := s
  dsimp only at *
  have b0 := Blk.new w #[.int .i64 a, .int .i64 b] 34
  have hB : Below w.heap.size w (w.alloc (.cells #[.int .i64 a, .int .i64 b] 34)) := (Below.refl _ _).alloc (Nat.le_refl _) _
  have hN1 := Lib.hid (fun W => r12_Number a W ⟨by omega, by omega⟩)
  have hN2 := Lib.hid (fun W => r12_Number b W ⟨by omega, by omega⟩)
  have d3 : decide (a < b) = true := decide_eq_true h3
  have d4 : decide ((b : Int) ≤ a) = false := decide_eq_false (by omega)
  clear h h1 h2 h3
  go_enter Tryz.func108, Tryz.ntmps108
  go_wp2_with fail
  refine (hN1.out _).mono ?_
  rintro e w1 ⟨rfl, hb1⟩
  have k1 := b0.below hb1 b0.lt
  have c0 := k1.cl 0 _ rfl
  have c1 := k1.cl 1 _ rfl
  have k1l := k1.lt
  go_wp2_with fail
  refine (hN2.out _).mono ?_
  rintro e w2 ⟨rfl, hb2⟩
  have k2 := k1.below hb2 k1.lt
  have e0 := k2.cl 0 _ rfl
  have e1 := k2.cl 1 _ rfl
  clear c0 c1
  go_wp2
  go_ret
  exact ⟨ret1 (vbool (by simp)), (hB.trans (hb1.mono hB.size)).trans (hb2.mono (Nat.le_trans hB.size hb1.size))⟩
theorem r12_Spans (l : List Spn) (v : Value) (w : World) (h : Rd encN 2 w v l) (hl : l.length ≤ 2000000) (hok : ∀ s ∈ l, s.ok = true) : Calls Tryz.prog 53 #[v] w fun e w' => e = .returned (.bool true) ∧ Below w.heap.size w w' := by
  have HR := Lib.hid h
  have HS := Lib.hid (fun k (hk : k < l.length) W => r12_Span l[k]! W (hok _ (by rw [getElem!_pos l k hk]; exact List.getElem_mem _)))
  obtain ⟨A, c, rfl⟩ := rd_vf h
  clear h hok
  go_enter Tryz.func53, Tryz.ntmps53
  go_wp2
  go_loopw [3] (fun i wr => ∃ k : Nat, k ≤ l.length ∧ i = .int .i64 k ∧ Below w.heap.size w wr) (fun i _ => l.length - (intOf i).toNat)
  case atStart => exact ⟨0, Nat.zero_le _, rfl, Below.refl _ _⟩
  case round =>
    obtain ⟨k, hk, rfl, hbr⟩ := hrel
    by_cases hlt : k < l.length
    · obtain ⟨_, hP0 | ⟨g, o, rfl, hg, hcs⟩⟩ := rd_at (HR.out.on hbr)
      · rw [hP0] at hlt; exact absurd hlt (Nat.not_lt_zero _)
      · obtain ⟨e1, e2⟩ := hcs k hlt
        have HSk := Lib.hid (HS.out k hlt)
        obtain ⟨s, hs⟩ : ∃ s, l[k]! = s := ⟨_, rfl⟩
        rw [hs] at e1 e2 HSk
        clear hcs hs
        go_wp2_with fail
        refine (HSk.out _).mono ?_
        rintro e w2 ⟨rfl, hb2⟩
        go_wp2
        go_roundw
        case rel => exact ⟨k + 1, by omega, by go_num, hbr.trans (hb2.mono hbr.size)⟩
        case measure => simp [intOf]; omega
    · go_wp2
      go_ret
      exact ⟨rfl, hbr⟩
theorem r12_Valid (l : List Spn) (v : Value) (w : World) (h : Rd encN 2 w v l) (hl : l.length ≤ 2000) (hok : ∀ s ∈ l, s.ok = true) (hc : Canon l) : Calls Tryz.prog 20 #[v] w fun e w' => e = .returned (.bool true) ∧ Below w.heap.size w w' := by
  have HR := Lib.hid h
  have HS := Lib.hid (r12_Spans l v w h (by omega) hok)
  have HA := Lib.hid (fun j (hj : j + 1 < l.length) => show (l[j]!).to < (l[j + 1]!).fr from by
    have := List.pairwise_iff_getElem.1 hc.asc j (j + 1) (by omega) hj (by omega)
    rwa [getElem!_pos l j (by omega), getElem!_pos l (j + 1) hj])
  obtain ⟨A, c, rfl⟩ := rd_vf h
  have d0 : decide ((2000 : Int) < (l.length : Int)) = false := decide_eq_false (by omega)
  clear h hok hc
  go_enter Tryz.func20, Tryz.ntmps20
  go_wp2_with fail
  refine HS.out.mono ?_
  rintro e w1 ⟨rfl, hb1⟩
  clear HS
  go_wp2
  go_loopw [3] (fun i wr => ∃ k : Nat, (k ≤ l.length ∨ k = 1) ∧ 1 ≤ k ∧ i = .int .i64 k ∧ Below w.heap.size w wr) (fun i _ => l.length - (intOf i).toNat)
  case atStart => exact ⟨1, .inr rfl, Nat.le_refl _, rfl, hb1⟩
  case round =>
    obtain ⟨k, hk, hk1, rfl, hbr⟩ := hrel
    by_cases hlt : k < l.length
    · obtain ⟨_, hP0 | ⟨g, o, rfl, hg, hcs⟩⟩ := rd_at (HR.out.on hbr)
      · rw [hP0] at hlt; exact absurd hlt (Nat.not_lt_zero _)
      · obtain ⟨j, rfl⟩ : ∃ j, k = j + 1 := ⟨k - 1, by omega⟩
        obtain ⟨e1, e2⟩ := hcs j (by omega)
        obtain ⟨f1, f2⟩ := hcs (j + 1) hlt
        have hlt3 := HA.out j hlt
        obtain ⟨s, hs⟩ : ∃ s, l[j]! = s := ⟨_, rfl⟩
        obtain ⟨t, ht⟩ : ∃ t, l[j + 1]! = t := ⟨_, rfl⟩
        rw [hs, ht] at hlt3
        rw [hs] at e1 e2
        rw [ht] at f1 f2
        have d1 : decide (t.fr ≤ s.to) = false := decide_eq_false (by omega)
        have hj0 : (0 : Int) ≤ (j : Int) := by omega
        have hj1 : (j : Int) < (l.length : Int) := by omega
        have hj2 : (0 : Int) ≤ ((j + 1 : Nat) : Int) := by omega
        have hj3 : ((j + 1 : Nat) : Int) < (l.length : Int) := by omega
        have hje : ((j + 1 : Nat) : Int) - 1 = (j : Int) := by omega
        have hje2 : IntKind.i64.wrap (((j + 1 : Nat) : Int) - 1) = (j : Int) := by rw [hje]; exact IntWalk.i64_in _ (by omega)
        clear hcs hs ht hlt3
        go_wp2_with fail
        go_quiet (fail)
        go_wp2
        go_roundw
        case rel => exact ⟨j + 1 + 1, .inl (by omega), by omega, by go_num, below_drewN hbr nq⟩
        case measure => simp [intOf]; omega
    · go_wp2
      go_ret
      exact ⟨rfl, hbr⟩
theorem r12_In (l : List Spn) (x : Int) (v : Value) (w : World) (h : Rd encN 2 w v l) (hl : l.length ≤ 2000000) : Calls Tryz.prog 22 #[v, .int .i64 x] w fun e w' => e = .returned (.bool (l.any fun s => decide (s.fr ≤ x) && decide (x < s.to))) ∧ Below w.heap.size w w' := by
  have HR := Lib.hid h
  obtain ⟨A, c, rfl⟩ := rd_vf h
  clear h
  go_enter Tryz.func22, Tryz.ntmps22
  go_wp2
  go_loopw [5] (fun i wr => ∃ k : Nat, k ≤ l.length ∧ i = .int .i64 k ∧ ((l.take k).any fun s => decide (s.fr ≤ x) && decide (x < s.to)) = false ∧ Below w.heap.size w wr) (fun i _ => l.length - (intOf i).toNat)
  case atStart => exact ⟨0, Nat.zero_le _, rfl, rfl, Below.refl _ _⟩
  case round =>
    obtain ⟨k, hk, rfl, hno, hbr⟩ := hrel
    have HNO := Lib.hid hno
    clear hno
    by_cases hlt : k < l.length
    · have HST := Lib.hid (show ((l.take (k + 1)).any fun s => decide (s.fr ≤ x) && decide (x < s.to)) = (decide ((l[k]!).fr ≤ x) && decide (x < (l[k]!).to)) from by
        rw [List.take_succ_eq_append_getElem hlt, List.any_append, HNO.out, Bool.false_or, getElem!_pos l k hlt, List.any_cons, List.any_nil, Bool.or_false])
      have HYES := Lib.hid (fun (h1 : (l[k]!).fr ≤ x) (h2 : x < (l[k]!).to) => show (l.any fun s => decide (s.fr ≤ x) && decide (x < s.to)) = true from List.any_eq_true.2 ⟨l[k]!, by rw [getElem!_pos l k hlt]; exact List.getElem_mem _, by show (decide _ && decide _) = true; rw [decide_eq_true h1, decide_eq_true h2]; rfl⟩)
      obtain ⟨_, hP0 | ⟨g, o, rfl, hg, hcs⟩⟩ := rd_at (HR.out.on hbr)
      · rw [hP0] at hlt; exact absurd hlt (Nat.not_lt_zero _)
      · obtain ⟨e1, e2⟩ := hcs k hlt
        obtain ⟨s, hs⟩ : ∃ s, l[k]! = s := ⟨_, rfl⟩
        rw [hs] at e1 e2 HST HYES
        clear hcs hs HNO
        by_cases h1 : s.fr ≤ x
        · have d1 : decide (s.fr ≤ x) = true := decide_eq_true h1
          by_cases h2 : x < s.to
          · have d2 : decide (x < s.to) = true := decide_eq_true h2
            go_wp2
            go_ret
            exact ⟨ret1 (vbool (by rw [HYES.out h1 h2])), hbr⟩
          · have d2 : decide (x < s.to) = false := decide_eq_false h2
            go_wp2
            go_roundw
            case rel => exact ⟨k + 1, by omega, by go_num, by rw [HST.out, decide_eq_false h2, Bool.and_false], hbr⟩
            case measure => simp [intOf]; omega
        · have d1 : decide (s.fr ≤ x) = false := decide_eq_false h1
          go_wp2
          go_roundw
          case rel => exact ⟨k + 1, by omega, by go_num, by rw [HST.out, decide_eq_false h1, Bool.false_and], hbr⟩
          case measure => simp [intOf]; omega
    · obtain rfl : k = l.length := by omega
      have hn2 := HNO.out
      rw [List.take_length] at hn2
      have HN2 := Lib.hid hn2
      clear hn2 HNO
      go_wp2
      go_ret
      exact ⟨ret1 (vbool (by rw [HN2.out])), hbr⟩

end Go.Proofs.YtdpkolnfbimheaaGreat

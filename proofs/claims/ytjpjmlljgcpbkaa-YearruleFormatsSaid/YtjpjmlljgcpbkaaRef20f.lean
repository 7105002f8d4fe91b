/- The reference of layer 20: part, cut, Form, Format. -/
import Derived.Test.YtjpjmlljgcpbkaaRef20l
import Derived.Test.YtjpjmlljgcpbkaaFormP
namespace Go.Proofs.Ytjpjmlljgcpbkaa
set_option linter.unusedSimpArgs false
set_option linter.unusedVariables false
open Go.ChangeShapes Go.WideShapes Go.ChangeAt Go.RowKit

theorem occ_raw (s p : ByteArray) (k : Nat) (h : k + p.size ≤ s.size) : ((s.extract k (k + p.size)).toList == p.toList) = Lib.occAt s.data.toList p.data.toList k := by
  rw [Lib.extract_toList, Lib.toList_data, Nat.add_sub_cancel_left]
  unfold Lib.occAt
  have e := Lib.hasPrefix_of_take (s.data.toList.drop k) p.data.toList
  unfold Lib.hasPrefix at e
  rw [← e, decide_eq_true (by rw [List.length_drop, ← Lib.size_eq, ← Lib.size_eq]; omega), Bool.true_and, Lib.size_eq]
theorem cut_hit {s p : ByteArray} {k : Nat} (h : Lib.NoOcc s.data.toList p.data.toList k) (hk : k + p.size ≤ s.size) (ho : Lib.occAt s.data.toList p.data.toList k = true) :
    Lib.cut s.data.toList p.data.toList = (s.data.toList.take k, s.data.toList.drop (k + p.size), true) := by
  have e := Lib.index_hit h (by rw [← Lib.size_eq]; omega) ho
  unfold Lib.cut
  rw [if_pos (by omega), e, Lib.size_eq p]; try rfl
theorem cut_none {s p : ByteArray} {k : Nat} (h : Lib.NoOcc s.data.toList p.data.toList k) (hp : 0 < p.size) (hk : s.size < k + p.size) :
    Lib.cut s.data.toList p.data.toList = (s.data.toList, [], false) := by
  have e := Lib.index_past (s := s.data.toList) (sub := p.data.toList) (i := k) (by intro h; rw [Lib.size_eq, h] at hp; simp at hp) h (by rw [← Lib.size_eq, ← Lib.size_eq]; omega)
  unfold Lib.cut
  rw [if_neg (by omega)]
theorem ext_take (s : ByteArray) (k : Nat) : s.extract 0 k = ⟨(s.data.toList.take k).toArray⟩ := by rw [Lib.extract_eq]; simp
theorem ext_drop (s : ByteArray) (k : Nat) : s.extract k s.size = ⟨(s.data.toList.drop k).toArray⟩ := by
  rw [Lib.extract_eq, List.take_of_length_le (by rw [List.length_drop, ← Lib.size_eq]; omega)]
theorem ret3v {a b : ByteArray} {f : Bool} {c : List UInt8 × List UInt8 × Bool} (hc : c = (a.data.toList, b.data.toList, f)) : Ending.returned (.tuple #[.string a, .string b, .bool f]) = .returned (.tuple #[.string ⟨c.1.toArray⟩, .string ⟨c.2.1.toArray⟩, .bool c.2.2]) := by
  rw [hc]

set_option maxRecDepth 100000 in
set_option maxHeartbeats 1000000 in
theorem r20_cut (s p : ByteArray) (w : World) (hp : 0 < p.size) (hs : s.size ≤ 1000000) (hp2 : p.size ≤ 1000000) :
    Calls Try.prog 23 #[.string s, .string p] w fun e w' => e = .returned (.tuple #[.string ⟨(Lib.cut s.data.toList p.data.toList).1.toArray⟩, .string ⟨(Lib.cut s.data.toList p.data.toList).2.1.toArray⟩, .bool (Lib.cut s.data.toList p.data.toList).2.2]) ∧ ∃ n, w.drewN n = w' := by
  go_enter Try.func23, Try.ntmps23
  go_wp2
  go_loop [7] (fun i => ∃ k : Nat, k ≤ s.size + 1 ∧ i = .int .i64 k ∧ Lib.NoOcc s.data.toList p.data.toList k) (fun i => s.size + 1 - (intOf i).toNat)
  case atStart => exact ⟨0, by omega, rfl, Lib.NoOcc.zero _ _⟩
  case round =>
    obtain ⟨k, hk, rfl, hno⟩ := hrel
    have HN := Lib.hid hno
    clear hno
    by_cases hlt : k + p.size ≤ s.size
    · have ho := occ_raw s p k hlt
      have hsl := fun wx : World => run_slice_string (P := Try.prog) (w := wx) 9 s .i64 .i64 (k : Int) ((k : Int) + p.size) Try.underlying9 (by omega) (by omega) (by omega)
      rw [show ((k : Int) + p.size).toNat = k + p.size by omega, Int.toNat_natCast] at hsl
      cases hoc : Lib.occAt s.data.toList p.data.toList k
      · rw [hoc] at ho
        have HO := Lib.hid hoc
        clear hoc
        go_wp2
        go_round
        case rel => exact ⟨k + 1, by omega, by go_num, HN.out.succ HO.out⟩
        case measure => simp [intOf]; omega
      · rw [hoc] at ho
        have HC := Lib.hid (cut_hit HN.out hlt hoc)
        clear hoc
        go_wp2_with (go_quiet (fail))
        go_ret3
        exact ⟨ret3v (HC.out.trans (by rw [ext_take s k, ext_drop s (k + p.size)])), _, rfl⟩
    · have HC := Lib.hid (cut_none HN.out hp (by omega))
      go_wp2
      go_ret3
      exact ⟨ret3v HC.out, 0, rfl⟩

def prI (c : Int) : Bool := Cv.ltrI c || Cv.digI c || c == 43 || c == 45
theorem pr_bad (c : UInt8) : (!Cv.badR [43, 45] c.toNat) = prI c.toNat := by
  have hc := c.toNat_lt
  unfold Cv.badR Cv.alnumN prI Cv.ltrI Cv.digI
  rw [Bool.eq_iff_iff]
  simp
  omega
def spc2I (c : Int) : Bool := c == 43 || c == 45
theorem prI_spc {c : Int} (h1 : Cv.ltrI c = false) (h2 : Cv.digI c = false) : prI c = spc2I c := by unfold prI spc2I; rw [h1, h2]; simp
def prAll (s : ByteArray) : Bool := s.data.toList.all fun b => prI b.toNat
set_option maxRecDepth 100000 in
set_option maxHeartbeats 1000000 in
theorem r20_part (s : ByteArray) (w : World) : Calls Try.prog 44 #[.string s] w fun e w' => e = .returned (.bool (partB s)) ∧ w = w' := by
  unfold partB
  by_cases h2 : s.size ≤ 8
  · rw [decide_eq_true h2, Bool.true_and]
    have hL := Lib.hid (show Cv.lettersB [43, 45] s.data.toList = prAll s by unfold Cv.lettersB prAll; congr 1; funext b; exact pr_bad b)
    rw [hL.out]
    go_enter Try.func44, Try.ntmps44
    go_wp2
    go_loop [3] (fun i => ∃ k : Nat, k ≤ s.size ∧ i = .int .i64 k ∧ (s.data.toList.take k).all (fun b => prI b.toNat) = true) (fun i => s.size - (intOf i).toNat)
    case atStart => exact ⟨0, Nat.zero_le _, rfl, by simp⟩
    case round =>
      obtain ⟨k, hk, rfl, hr⟩ := hrel
      have HR := Lib.hid hr
      clear hr
      by_cases hlt : k < s.size
      · cases a1 : Cv.ltrI (s[k]'hlt).toNat
        · cases a2 : Cv.digI (s[k]'hlt).toNat
          · have A1 := Lib.hid a1
            have A2 := Lib.hid a2
            have NS := Lib.hid (prI_spc a1 a2)
            clear a1 a2
            go_wp2_with (first | (go_at_call 42; refine (r20_letter _ _).mono ?_; rintro e w1 ⟨rfl, rfl⟩; rw [A1.out]) | (go_at_call 43; refine (r20_digit _ _).mono ?_; rintro e w1 ⟨rfl, rfl⟩; rw [A2.out]))
            all_goals first
              | (go_round
                 case rel => exact ⟨k + 1, by omega, by go_num, Cv.all_snoc hlt HR.out (by rw [NS.out]; clear NS HR A1 A2; (try simp only [bne_iff_ne, bne_eq_false_iff_eq, ne_eq] at *); simp [spc2I]; omega)⟩
                 case measure => simp [intOf]; omega)
              | (go_ret
                 exact ⟨ret1 (vbool (Cv.all_bad hlt (by rw [NS.out]; clear NS HR A1 A2; (try simp only [bne_iff_ne, bne_eq_false_iff_eq, ne_eq] at *); simp [spc2I]; omega)).symm), rfl⟩)
          · have A1 := Lib.hid a1
            have A2 := Lib.hid a2
            clear a1 a2
            go_wp2_with (first | (go_at_call 42; refine (r20_letter _ _).mono ?_; rintro e w1 ⟨rfl, rfl⟩; rw [A1.out]) | (go_at_call 43; refine (r20_digit _ _).mono ?_; rintro e w1 ⟨rfl, rfl⟩; rw [A2.out]))
            go_round
            case rel => exact ⟨k + 1, by omega, by go_num, Cv.all_snoc hlt HR.out (by simp only [prI, A1.out, A2.out]; simp)⟩
            case measure => simp [intOf]; omega
        · have A1 := Lib.hid a1
          clear a1
          go_wp2_with (go_at_call 42; refine (r20_letter _ _).mono ?_; rintro e w1 ⟨rfl, rfl⟩; rw [A1.out])
          go_round
          case rel => exact ⟨k + 1, by omega, by go_num, Cv.all_snoc hlt HR.out (by simp only [prI, A1.out]; simp)⟩
          case measure => simp [intOf]; omega
      · go_wp2
        go_ret
        exact ⟨ret1 (vbool (Cv.all_end (by omega) HR.out).symm), rfl⟩
  · rw [decide_eq_false h2, Bool.false_and]
    go_enter Try.func44, Try.ntmps44
    go_wp2
    go_ret
    exact ⟨rfl, rfl⟩

end Go.Proofs.Ytjpjmlljgcpbkaa

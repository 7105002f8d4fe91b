/- The law YearruleNames: its walk. -/
import Derived.Test.YtjpjmlljgcpbkaaAwake
import Derived.Test.YtjpjmlljgcpbkaaFormP
namespace Go.Proofs.Ytjpjmlljgcpbkaa
set_option linter.unusedSimpArgs false
set_option linter.unusedVariables false
open Go.ChangeShapes Go.WideShapes Go.ChangeAt Go.RowKit

theorem contains_any (s sub : ByteArray) (w : World) (hm : HasMax w) (hs : s.size < 4294967281) :
    Calls Try.prog 9 #[.string s, .string sub] w fun e w' => e = .returned (.bool (Lib.contains s.data.toList sub.data.toList)) ∧ w = w' := by
  obtain ⟨m, h1, _⟩ := hm
  exact (Try.strings_Contains s sub m w hs h1).mono fun _ _ ⟨he, hw⟩ => ⟨he, hw.symm⟩
theorem contains_cut (s sub : List UInt8) : Lib.contains s sub = (Lib.cut s sub).2.2 := by
  unfold Lib.contains Lib.cut
  by_cases h : 0 ≤ Lib.index s sub
  · rw [if_pos h, decide_eq_true h]
  · rw [if_neg h, decide_eq_false h]
theorem strFin_out (o : ByteArray) : ((strFin o).2 ≠ 0 ∧ (strFin o).1 = ⟨#[]⟩) ∨ ((strFin o).2 = 0 ∧ (strFin o).1 = o ∧ 1 ≤ o.size ∧ o.size ≤ 8) := by
  unfold strFin
  by_cases h : 1 ≤ o.size ∧ o.size ≤ 8
  · rw [if_pos h]; exact .inr ⟨rfl, rfl, h.1, h.2⟩
  · rw [if_neg h]; exact .inl ⟨by decide, rfl⟩
theorem format_out (f l : ByteArray) (sv : Int) : ((formatF f l sv).2 ≠ 0 ∧ (formatF f l sv).1 = ⟨#[]⟩) ∨ ((formatF f l sv).2 = 0 ∧ formB f = true ∧ (l.size ≤ 8 ∧ Cv.lettersB [] l.data.toList = true) ∧ (formatF f l sv).1 = rname f l sv ∧ 1 ≤ (rname f l sv).size ∧ (rname f l sv).size ≤ 8) := by
  rw [← rformat_eq]
  unfold rformatF
  by_cases hl : l.size ≤ 8 ∧ Cv.lettersB [] l.data.toList = true
  · rw [if_neg (not_not_intro hl)]
    cases hf : formB f
    · rw [if_pos rfl]; exact .inl ⟨by decide, rfl⟩
    · rw [if_neg (by simp)]
      rcases strFin_out (rname f l sv) with ⟨h1, h2⟩ | ⟨h1, h2, h3, h4⟩
      · exact .inl ⟨h1, h2⟩
      · exact .inr ⟨h1, rfl, hl, h2, h3, h4⟩
  · rw [if_pos hl]; exact .inl ⟨by decide, rfl⟩
/-- formats without a percent sign do not depend on the letter -/
theorem name_letter (f l o : ByteArray) (sv : Int) (h : pcF f = false) : rname f l sv = rname f o sv := by unfold rname; rw [h]; rfl
/-- formats without a slash do not depend on the saving -/
theorem name_saving (f l : ByteArray) (sv : Int) (h : slF f = false) : formatF f l sv = formatF f l 0 := by
  rw [← rformat_eq, ← rformat_eq]
  have e : rname f l sv = rname f l 0 := by unfold rname; rw [h]; rfl
  unfold rformatF
  rw [e]
theorem fmt_pair {p : ByteArray × Int} {a : ByteArray} {b : Int} (h1 : p.1 = a) (h2 : p.2 = b) : p = (a, b) := by rw [← h1, ← h2]

set_option maxRecDepth 100000 in
set_option maxHeartbeats 4000000 in
theorem law_YearruleNames (f l o : ByteArray) (sv : Int) (w : World) (hm : HasMax w) : Calls Try.prog 4 #[.string f, .string l, .string o, .int .i64 sv] w fun e w' => e = .returned (.bool true) ∧ Below w.heap.size w w' := by
  have HAw := Lib.hid (fun W h => awake_any W h)
  have HM := Lib.hid hm
  clear hm
  by_cases h1 : f.size ≤ 200
  · by_cases h2 : l.size ≤ 200
    · by_cases h3 : o.size ≤ 200
      · have HF := Lib.hid (fun l sv W h => Format_any f l sv W h (by omega))
        have HC := Lib.hid (fun s W h => contains_any f s W h (by omega))
        have C1 := fun W h => HC.out ⟨#[37, 115]⟩ W h
        have C2 := fun W h => HC.out ⟨#[47]⟩ W h
        rw [contains_cut, show (Lib.cut f.data.toList (⟨#[37, 115]⟩ : ByteArray).data.toList).2.2 = pcF f from rfl] at C1
        rw [contains_cut, show (Lib.cut f.data.toList (⟨#[47]⟩ : ByteArray).data.toList).2.2 = slF f from rfl] at C2
        obtain ⟨⟨t, e2⟩, hT⟩ : ∃ X, formatF f o sv = X := ⟨_, rfl⟩
        obtain ⟨⟨u, e3⟩, hU⟩ : ∃ X, formatF f l 0 = X := ⟨_, rfl⟩
        rcases format_out f l sv with ⟨a1, a2⟩ | ⟨a1, a2, a3, a4, a5, a6⟩
        · obtain ⟨e1, he1⟩ : ∃ e1, (formatF f l sv).2 = e1 := ⟨_, rfl⟩
          have hP := fmt_pair a2 he1
          rw [he1] at a1
          have z1 : (e1 == 0) = false := by simpa using a1
          have z2 : (e1 != 0) = true := by simpa using a1
          have F1 := fun W h => HF.out l sv W h
          have F2 := fun W h => HF.out o sv W h
          have F3 := fun W h => HF.out l 0 W h
          rw [hP] at F1
          rw [hT] at F2
          rw [hU] at F3
          have F1 := Lib.hid F1
          have F2 := Lib.hid F2
          have F3 := Lib.hid F3
          clear hP hT hU he1 a1 a2 C1 C2
          go_enter Try.func4, Try.ntmps4
          go_wp2_with fail
          refine (HAw.out _ HM.out).mono ?_
          rintro e w1 ⟨rfl, hb1⟩
          go_wp2_with fail
          refine (F1.out _ (HM.out.on hb1)).mono ?_
          rintro e w2 ⟨rfl, hb2⟩
          go_wp2_with fail
          refine (F2.out _ ((HM.out.on hb1).on hb2)).mono ?_
          rintro e w3 ⟨rfl, hb3⟩
          go_wp2_with fail
          refine (F3.out _ (((HM.out.on hb1).on hb2).on hb3)).mono ?_
          rintro e w4 ⟨rfl, hb4⟩
          have hb := below4 hb1 hb2 hb3 hb4
          have HM4 := Lib.hid (HM.out.on hb)
          go_wp2
          all_goals go_ret
          all_goals exact ⟨rfl, hb⟩
        · obtain ⟨s, hs⟩ : ∃ s, rname f l sv = s := ⟨_, rfl⟩
          have hP := fmt_pair (a4.trans hs) a1
          have HS := Lib.hid hs
          rw [hs] at a5 a6
          clear hs
          cases c2 : slF f
          · have hU2 : formatF f l 0 = (s, 0) := by rw [← name_saving f l sv c2]; exact hP
            cases c1 : pcF f
            · by_cases g : e2 = 0
              · have hT2 : formatF f o sv = (s, 0) := by
                  rcases format_out f o sv with ⟨b1, _⟩ | ⟨b1, _, _, b4, _⟩
                  · rw [hT] at b1; exact absurd g b1
                  · exact fmt_pair (b4.trans ((name_letter f o l sv c1).trans HS.out)) b1
                rw [c1] at C1
                rw [c2] at C2
                have C1 := Lib.hid C1
                have C2 := Lib.hid C2
                have F1 := fun W h => HF.out l sv W h
                have F2 := fun W h => HF.out o sv W h
                have F3 := fun W h => HF.out l 0 W h
                rw [hP] at F1
                rw [hT2] at F2
                rw [hU2] at F3
                have F1 := Lib.hid F1
                have F2 := Lib.hid F2
                have F3 := Lib.hid F3
                clear hP hT hT2 hU hU2 g c1 c2
                go_enter Try.func4, Try.ntmps4
                go_wp2_with fail
                refine (HAw.out _ HM.out).mono ?_
                rintro e w1 ⟨rfl, hb1⟩
                go_wp2_with fail
                refine (F1.out _ (HM.out.on hb1)).mono ?_
                rintro e w2 ⟨rfl, hb2⟩
                go_wp2_with fail
                refine (F2.out _ ((HM.out.on hb1).on hb2)).mono ?_
                rintro e w3 ⟨rfl, hb3⟩
                go_wp2_with fail
                refine (F3.out _ (((HM.out.on hb1).on hb2).on hb3)).mono ?_
                rintro e w4 ⟨rfl, hb4⟩
                have hb := below4 hb1 hb2 hb3 hb4
                have HM4 := Lib.hid (HM.out.on hb)
                go_wp2_with fail
                refine (C1.out _ HM4.out).mono ?_
                rintro e w5 ⟨rfl, rfl⟩
                go_wp2_with fail
                refine (C2.out _ HM4.out).mono ?_
                rintro e w5 ⟨rfl, rfl⟩
                go_wp2
                all_goals go_ret
                all_goals exact ⟨rfl, hb⟩
              · have g1 : (e2 == 0) = false := by simpa using g
                rw [c1] at C1
                rw [c2] at C2
                have C1 := Lib.hid C1
                have C2 := Lib.hid C2
                have F1 := fun W h => HF.out l sv W h
                have F2 := fun W h => HF.out o sv W h
                have F3 := fun W h => HF.out l 0 W h
                rw [hP] at F1
                rw [hT] at F2
                rw [hU2] at F3
                have F1 := Lib.hid F1
                have F2 := Lib.hid F2
                have F3 := Lib.hid F3
                clear hP hT hU hU2 g c1 c2
                go_enter Try.func4, Try.ntmps4
                go_wp2_with fail
                refine (HAw.out _ HM.out).mono ?_
                rintro e w1 ⟨rfl, hb1⟩
                go_wp2_with fail
                refine (F1.out _ (HM.out.on hb1)).mono ?_
                rintro e w2 ⟨rfl, hb2⟩
                go_wp2_with fail
                refine (F2.out _ ((HM.out.on hb1).on hb2)).mono ?_
                rintro e w3 ⟨rfl, hb3⟩
                go_wp2_with fail
                refine (F3.out _ (((HM.out.on hb1).on hb2).on hb3)).mono ?_
                rintro e w4 ⟨rfl, hb4⟩
                have hb := below4 hb1 hb2 hb3 hb4
                have HM4 := Lib.hid (HM.out.on hb)
                go_wp2_with fail
                refine (C1.out _ HM4.out).mono ?_
                rintro e w5 ⟨rfl, rfl⟩
                go_wp2_with fail
                refine (C2.out _ HM4.out).mono ?_
                rintro e w5 ⟨rfl, rfl⟩
                go_wp2
                all_goals go_ret
                all_goals exact ⟨rfl, hb⟩
            · rw [c1] at C1
              rw [c2] at C2
              have C1 := Lib.hid C1
              have C2 := Lib.hid C2
              have F1 := fun W h => HF.out l sv W h
              have F2 := fun W h => HF.out o sv W h
              have F3 := fun W h => HF.out l 0 W h
              rw [hP] at F1
              rw [hT] at F2
              rw [hU2] at F3
              have F1 := Lib.hid F1
              have F2 := Lib.hid F2
              have F3 := Lib.hid F3
              clear hP hT hU hU2 c1 c2
              go_enter Try.func4, Try.ntmps4
              go_wp2_with fail
              refine (HAw.out _ HM.out).mono ?_
              rintro e w1 ⟨rfl, hb1⟩
              go_wp2_with fail
              refine (F1.out _ (HM.out.on hb1)).mono ?_
              rintro e w2 ⟨rfl, hb2⟩
              go_wp2_with fail
              refine (F2.out _ ((HM.out.on hb1).on hb2)).mono ?_
              rintro e w3 ⟨rfl, hb3⟩
              go_wp2_with fail
              refine (F3.out _ (((HM.out.on hb1).on hb2).on hb3)).mono ?_
              rintro e w4 ⟨rfl, hb4⟩
              have hb := below4 hb1 hb2 hb3 hb4
              have HM4 := Lib.hid (HM.out.on hb)
              go_wp2_with fail
              refine (C1.out _ HM4.out).mono ?_
              rintro e w5 ⟨rfl, rfl⟩
              go_wp2_with fail
              refine (C2.out _ HM4.out).mono ?_
              rintro e w5 ⟨rfl, rfl⟩
              go_wp2
              all_goals go_ret
              all_goals exact ⟨rfl, hb⟩
          · skip
            cases c1 : pcF f
            · by_cases g : e2 = 0
              · have hT2 : formatF f o sv = (s, 0) := by
                  rcases format_out f o sv with ⟨b1, _⟩ | ⟨b1, _, _, b4, _⟩
                  · rw [hT] at b1; exact absurd g b1
                  · exact fmt_pair (b4.trans ((name_letter f o l sv c1).trans HS.out)) b1
                rw [c1] at C1
                rw [c2] at C2
                have C1 := Lib.hid C1
                have C2 := Lib.hid C2
                have F1 := fun W h => HF.out l sv W h
                have F2 := fun W h => HF.out o sv W h
                have F3 := fun W h => HF.out l 0 W h
                rw [hP] at F1
                rw [hT2] at F2
                rw [hU] at F3
                have F1 := Lib.hid F1
                have F2 := Lib.hid F2
                have F3 := Lib.hid F3
                clear hP hT hT2 hU  g c1 c2
                go_enter Try.func4, Try.ntmps4
                go_wp2_with fail
                refine (HAw.out _ HM.out).mono ?_
                rintro e w1 ⟨rfl, hb1⟩
                go_wp2_with fail
                refine (F1.out _ (HM.out.on hb1)).mono ?_
                rintro e w2 ⟨rfl, hb2⟩
                go_wp2_with fail
                refine (F2.out _ ((HM.out.on hb1).on hb2)).mono ?_
                rintro e w3 ⟨rfl, hb3⟩
                go_wp2_with fail
                refine (F3.out _ (((HM.out.on hb1).on hb2).on hb3)).mono ?_
                rintro e w4 ⟨rfl, hb4⟩
                have hb := below4 hb1 hb2 hb3 hb4
                have HM4 := Lib.hid (HM.out.on hb)
                go_wp2_with fail
                refine (C1.out _ HM4.out).mono ?_
                rintro e w5 ⟨rfl, rfl⟩
                go_wp2_with fail
                refine (C2.out _ HM4.out).mono ?_
                rintro e w5 ⟨rfl, rfl⟩
                go_wp2
                all_goals go_ret
                all_goals exact ⟨rfl, hb⟩
              · have g1 : (e2 == 0) = false := by simpa using g
                rw [c1] at C1
                rw [c2] at C2
                have C1 := Lib.hid C1
                have C2 := Lib.hid C2
                have F1 := fun W h => HF.out l sv W h
                have F2 := fun W h => HF.out o sv W h
                have F3 := fun W h => HF.out l 0 W h
                rw [hP] at F1
                rw [hT] at F2
                rw [hU] at F3
                have F1 := Lib.hid F1
                have F2 := Lib.hid F2
                have F3 := Lib.hid F3
                clear hP hT hU  g c1 c2
                go_enter Try.func4, Try.ntmps4
                go_wp2_with fail
                refine (HAw.out _ HM.out).mono ?_
                rintro e w1 ⟨rfl, hb1⟩
                go_wp2_with fail
                refine (F1.out _ (HM.out.on hb1)).mono ?_
                rintro e w2 ⟨rfl, hb2⟩
                go_wp2_with fail
                refine (F2.out _ ((HM.out.on hb1).on hb2)).mono ?_
                rintro e w3 ⟨rfl, hb3⟩
                go_wp2_with fail
                refine (F3.out _ (((HM.out.on hb1).on hb2).on hb3)).mono ?_
                rintro e w4 ⟨rfl, hb4⟩
                have hb := below4 hb1 hb2 hb3 hb4
                have HM4 := Lib.hid (HM.out.on hb)
                go_wp2_with fail
                refine (C1.out _ HM4.out).mono ?_
                rintro e w5 ⟨rfl, rfl⟩
                go_wp2_with fail
                refine (C2.out _ HM4.out).mono ?_
                rintro e w5 ⟨rfl, rfl⟩
                go_wp2
                all_goals go_ret
                all_goals exact ⟨rfl, hb⟩
            · rw [c1] at C1
              rw [c2] at C2
              have C1 := Lib.hid C1
              have C2 := Lib.hid C2
              have F1 := fun W h => HF.out l sv W h
              have F2 := fun W h => HF.out o sv W h
              have F3 := fun W h => HF.out l 0 W h
              rw [hP] at F1
              rw [hT] at F2
              rw [hU] at F3
              have F1 := Lib.hid F1
              have F2 := Lib.hid F2
              have F3 := Lib.hid F3
              clear hP hT hU  c1 c2
              go_enter Try.func4, Try.ntmps4
              go_wp2_with fail
              refine (HAw.out _ HM.out).mono ?_
              rintro e w1 ⟨rfl, hb1⟩
              go_wp2_with fail
              refine (F1.out _ (HM.out.on hb1)).mono ?_
              rintro e w2 ⟨rfl, hb2⟩
              go_wp2_with fail
              refine (F2.out _ ((HM.out.on hb1).on hb2)).mono ?_
              rintro e w3 ⟨rfl, hb3⟩
              go_wp2_with fail
              refine (F3.out _ (((HM.out.on hb1).on hb2).on hb3)).mono ?_
              rintro e w4 ⟨rfl, hb4⟩
              have hb := below4 hb1 hb2 hb3 hb4
              have HM4 := Lib.hid (HM.out.on hb)
              go_wp2_with fail
              refine (C1.out _ HM4.out).mono ?_
              rintro e w5 ⟨rfl, rfl⟩
              go_wp2_with fail
              refine (C2.out _ HM4.out).mono ?_
              rintro e w5 ⟨rfl, rfl⟩
              go_wp2
              all_goals go_ret
              all_goals exact ⟨rfl, hb⟩
      · go_enter Try.func4, Try.ntmps4
        go_wp2_with (go_at_call 6; refine (HAw.out _ HM.out).mono ?_; rintro e w1 ⟨rfl, hb1⟩)
        all_goals go_ret
        all_goals exact ⟨rfl, hb1⟩
    · go_enter Try.func4, Try.ntmps4
      go_wp2_with (go_at_call 6; refine (HAw.out _ HM.out).mono ?_; rintro e w1 ⟨rfl, hb1⟩)
      all_goals go_ret
      all_goals exact ⟨rfl, hb1⟩
  · go_enter Try.func4, Try.ntmps4
    go_wp2_with (go_at_call 6; refine (HAw.out _ HM.out).mono ?_; rintro e w1 ⟨rfl, hb1⟩)
    all_goals go_ret
    all_goals exact ⟨rfl, hb1⟩

end Go.Proofs.Ytjpjmlljgcpbkaa

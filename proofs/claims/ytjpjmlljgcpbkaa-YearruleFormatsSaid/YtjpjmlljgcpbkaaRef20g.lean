/- The reference of layer 20: Form, Format. -/
import Derived.Test.YtjpjmlljgcpbkaaRef20f
namespace Go.Proofs.Ytjpjmlljgcpbkaa
set_option linter.unusedSimpArgs false
set_option linter.unusedVariables false
open Go.ChangeShapes Go.WideShapes Go.ChangeAt Go.RowKit

theorem cut_pc (f : ByteArray) (w : World) (hf : f.size ≤ 1000000) :
    Calls Try.prog 23 #[.string f, .string ⟨#[37, 115]⟩] w fun e w' => e = .returned (.tuple #[.string (pcA f), .string (pcB f), .bool (pcF f)]) ∧ ∃ n, w.drewN n = w' :=
  r20_cut f ⟨#[37, 115]⟩ w (by decide) hf (by decide)
theorem cut_sl (f : ByteArray) (w : World) (hf : f.size ≤ 1000000) :
    Calls Try.prog 23 #[.string f, .string ⟨#[47]⟩] w fun e w' => e = .returned (.tuple #[.string (slA f), .string (slB f), .bool (slF f)]) ∧ ∃ n, w.drewN n = w' :=
  r20_cut f ⟨#[47]⟩ w (by decide) hf (by decide)
theorem drewN_add (w : World) (a b : Nat) : (w.drewN a).drewN b = w.drewN (a + b) := by simp [World.drewN, Nat.add_assoc]
theorem fullB_no {s : ByteArray} (h : fullB s = false) : s.toList.isEmpty = true := by
  unfold fullB at h
  rw [decide_eq_false_iff_not, Lib.size_eq] at h
  rw [Lib.toList_data]
  cases e : s.data.toList
  · rfl
  · rw [e] at h; simp at h
theorem fullB_yes {s : ByteArray} (h : fullB s = true) : s.toList.isEmpty = false := by
  unfold fullB at h
  rw [decide_eq_true_eq, Lib.size_eq] at h
  rw [Lib.toList_data]
  cases e : s.data.toList
  · rw [e] at h; simp at h
  · rfl

set_option maxRecDepth 100000 in
set_option maxHeartbeats 2000000 in
theorem r20_Form (f : ByteArray) (w : World) (hf : f.size ≤ 1000000) :
    Calls Try.prog 22 #[.string f] w fun e w' => e = .returned (.bool (formB f)) ∧ Below w.heap.size w w' := by
  have HP := Lib.hid (fun w => cut_pc f w hf)
  have HS := Lib.hid (fun w => cut_sl f w hf)
  have HT := Lib.hid (fun s w => r20_part s w)
  cases ep : pcF f
  · have EP := Lib.hid ep
    cases es : slF f
    · have E := Lib.hid (show formB f = (fullB f && partB f) by unfold formB; rw [ep, es]; rfl)
      rw [E.out]
      have ES := Lib.hid es
      clear ep es
      cases hf1 : fullB f
      · have n1 := fullB_no hf1
        clear hf1
        go_enter Try.func22, Try.ntmps22
        go_wp2_with fail
        refine (HP.out _).mono ?_
        rintro e w1 ⟨rfl, n, rfl⟩
        rw [EP.out]
        go_wp2_with fail
        refine (HS.out _).mono ?_
        rintro e w1 ⟨rfl, m, rfl⟩
        rw [ES.out]
        go_wp2_with (go_at_call 44; refine (HT.out _ _).mono ?_; rintro e w1 ⟨rfl, rfl⟩)
        all_goals (go_ret; exact ⟨ret1 (vbool (by simp [*])), below_drewN (Below.refl _ _) _⟩)
      · have n1 := fullB_yes hf1
        clear hf1
        go_enter Try.func22, Try.ntmps22
        go_wp2_with fail
        refine (HP.out _).mono ?_
        rintro e w1 ⟨rfl, n, rfl⟩
        rw [EP.out]
        go_wp2_with fail
        refine (HS.out _).mono ?_
        rintro e w1 ⟨rfl, m, rfl⟩
        rw [ES.out]
        go_wp2_with (go_at_call 44; refine (HT.out _ _).mono ?_; rintro e w1 ⟨rfl, rfl⟩)
        all_goals (go_ret; exact ⟨ret1 (vbool (by simp [*])), below_drewN (Below.refl _ _) _⟩)
    · have E := Lib.hid (show formB f = (fullB (slA f) && (fullB (slB f) && (partB (slA f) && partB (slB f)))) by unfold formB; rw [ep, es]; rfl)
      rw [E.out]
      have ES := Lib.hid es
      clear ep es
      generalize slA f = A at *
      generalize slB f = B at *
      cases hf1 : fullB A
      · have n1 := fullB_no hf1
        clear hf1
        go_enter Try.func22, Try.ntmps22
        go_wp2_with fail
        refine (HP.out _).mono ?_
        rintro e w1 ⟨rfl, n, rfl⟩
        rw [EP.out]
        go_wp2_with fail
        refine (HS.out _).mono ?_
        rintro e w1 ⟨rfl, m, rfl⟩
        rw [ES.out]
        go_wp2_with (go_at_call 44; refine (HT.out _ _).mono ?_; rintro e w1 ⟨rfl, rfl⟩)
        all_goals (go_ret; exact ⟨ret1 (vbool (by simp [*])), below_drewN (Below.refl _ _) _⟩)
      · cases hf2 : fullB B
        all_goals
          have n1 := fullB_yes hf1
          first | have n2 := fullB_no hf2 | have n2 := fullB_yes hf2
          clear hf1 hf2
          go_enter Try.func22, Try.ntmps22
          go_wp2_with fail
          refine (HP.out _).mono ?_
          rintro e w1 ⟨rfl, n, rfl⟩
          rw [EP.out]
          go_wp2_with fail
          refine (HS.out _).mono ?_
          rintro e w1 ⟨rfl, m, rfl⟩
          rw [ES.out]
          go_wp2_with (go_at_call 44; refine (HT.out _ _).mono ?_; rintro e w1 ⟨rfl, rfl⟩)
          all_goals (go_ret; exact ⟨ret1 (vbool (by simp [*])), below_drewN (Below.refl _ _) _⟩)
  · have E := Lib.hid (show formB f = (decide (f.size ≤ 8) && (partB (pcA f) && partB (pcB f))) by unfold formB; rw [if_pos ep])
    rw [E.out]
    have EP := Lib.hid ep
    clear ep
    generalize pcA f = A at *
    generalize pcB f = B at *
    by_cases h8 : f.size ≤ 8
    all_goals
      go_enter Try.func22, Try.ntmps22
      go_wp2_with fail
      refine (HP.out _).mono ?_
      rintro e w1 ⟨rfl, n, rfl⟩
      rw [EP.out]
      go_wp2_with (go_at_call 44; refine (HT.out _ _).mono ?_; rintro e w1 ⟨rfl, rfl⟩)
      all_goals (go_ret; exact ⟨ret1 (vbool (by simp [*])), below_drewN (Below.refl _ _) _⟩)

theorem emp_le {s : ByteArray} (h : ¬ 1 ≤ s.size) : s.size = 0 := by omega
set_option maxRecDepth 100000 in
set_option maxHeartbeats 4000000 in
theorem r20_Format (f l : ByteArray) (sv : Int) (w : World) (hf : f.size ≤ 1000000) :
    Calls Try.prog 8 #[.string f, .string l, .int .i64 sv] w fun e w' => e = .returned (.tuple #[.string (rformatF f l sv).1, .int .i64 (rformatF f l sv).2]) ∧ Below w.heap.size w w' := by
  have HP := Lib.hid (fun w => cut_pc f w hf)
  have HS := Lib.hid (fun w => cut_sl f w hf)
  have HF := Lib.hid (fun w => r20_Form f w hf)
  by_cases hl : l.size ≤ 8 ∧ Cv.lettersB [] l.data.toList = true
  · have HL := Lib.hid (show (decide (l.size ≤ 8) && Cv.lettersB [] l.data.toList) = true by rw [hl.2, decide_eq_true hl.1]; rfl)
    have l8 := hl.1
    cases h3 : formB f
    · have H3 := Lib.hid h3
      rw [show rformatF f l sv = (⟨#[]⟩, 3) by unfold rformatF; rw [if_neg (not_not_intro hl), if_pos h3]]
      clear hl h3
      go_enter Try.func8, Try.ntmps8
      go_wp2_with (first
          | (go_at_call 21; (with_reducible refine (r20_Letter _ _).mono ?_); rintro e w1 ⟨rfl, rfl⟩; rw [HL.out])
          | (go_at_call 22; (with_reducible refine (HF.out _).mono ?_); rintro e w2 ⟨rfl, hb2⟩; rw [H3.out]))
      go_ret2
      exact ⟨rfl, hb2⟩
    · have H3 := Lib.hid h3
      have HR := Lib.hid (show rformatF f l sv = strFin (rname f l sv) by unfold rformatF; rw [if_neg (not_not_intro hl), if_neg (by simp [h3])])
      rw [HR.out]
      clear hl h3 HR
      cases ep : pcF f
      · have EP := Lib.hid ep
        cases es : slF f
        · have ES := Lib.hid es
          rw [show rname f l sv = f by unfold rname; rw [ep, es]; rfl]
          clear ep es
          by_cases z1 : 1 ≤ (f).size
          · have e1 := isEmpty_no z1
            have e2 : ¬ (f).toList = [] := fun h => by rw [h] at e1; cases e1
            by_cases z2 : (f).size ≤ 8
            · rw [show strFin (f) = (f, 0) from if_pos ⟨z1, z2⟩]
              skip
              go_enter Try.func8, Try.ntmps8
              go_wp2_with (first
                    | (go_at_call 21; (with_reducible refine (r20_Letter _ _).mono ?_); rintro e w1 ⟨rfl, rfl⟩; rw [HL.out])
                    | (go_at_call 22; (with_reducible refine (HF.out _).mono ?_); rintro e w2 ⟨rfl, hb2⟩; rw [H3.out])
                    | (go_at_call 23; (with_reducible refine (HP.out _).mono ?_); rintro e w3 ⟨rfl, n3, rfl⟩; rw [EP.out])
                    | (go_at_call 23; (with_reducible refine (HS.out _).mono ?_); rintro e w4 ⟨rfl, n4, rfl⟩; rw [ES.out]))
              go_ret2
              exact ⟨rfl, below_drewN hb2 _⟩
            · rw [show strFin (f) = (⟨#[]⟩, 2) from if_neg (by omega)]
              have z3 : 8 < (f).size := by omega
              go_enter Try.func8, Try.ntmps8
              go_wp2_with (first
                    | (go_at_call 21; (with_reducible refine (r20_Letter _ _).mono ?_); rintro e w1 ⟨rfl, rfl⟩; rw [HL.out])
                    | (go_at_call 22; (with_reducible refine (HF.out _).mono ?_); rintro e w2 ⟨rfl, hb2⟩; rw [H3.out])
                    | (go_at_call 23; (with_reducible refine (HP.out _).mono ?_); rintro e w3 ⟨rfl, n3, rfl⟩; rw [EP.out])
                    | (go_at_call 23; (with_reducible refine (HS.out _).mono ?_); rintro e w4 ⟨rfl, n4, rfl⟩; rw [ES.out]))
              go_ret2
              exact ⟨rfl, below_drewN hb2 _⟩
          · rw [show strFin (f) = (⟨#[]⟩, 2) from if_neg (by omega)]
            have e1 := isEmpty_nil (s := f) (by omega)
            skip
            go_enter Try.func8, Try.ntmps8
            go_wp2_with (first
                    | (go_at_call 21; (with_reducible refine (r20_Letter _ _).mono ?_); rintro e w1 ⟨rfl, rfl⟩; rw [HL.out])
                    | (go_at_call 22; (with_reducible refine (HF.out _).mono ?_); rintro e w2 ⟨rfl, hb2⟩; rw [H3.out])
                    | (go_at_call 23; (with_reducible refine (HP.out _).mono ?_); rintro e w3 ⟨rfl, n3, rfl⟩; rw [EP.out])
                    | (go_at_call 23; (with_reducible refine (HS.out _).mono ?_); rintro e w4 ⟨rfl, n4, rfl⟩; rw [ES.out]))
            go_ret2
            exact ⟨rfl, below_drewN hb2 _⟩
        · have ES := Lib.hid es
          by_cases g : sv = 0
          · have g' : (sv != 0) = false := by simp [g]
            rw [show rname f l sv = slA f by unfold rname; rw [ep, es, if_pos g]; rfl]
            clear ep es g
            generalize slA f = p at *
            generalize slB f = q at *
            by_cases z1 : 1 ≤ (p).size
            · have e1 := isEmpty_no z1
              have e2 : ¬ (p).toList = [] := fun h => by rw [h] at e1; cases e1
              by_cases z2 : (p).size ≤ 8
              · rw [show strFin (p) = (p, 0) from if_pos ⟨z1, z2⟩]
                skip
                go_enter Try.func8, Try.ntmps8
                go_wp2_with (first
                      | (go_at_call 21; (with_reducible refine (r20_Letter _ _).mono ?_); rintro e w1 ⟨rfl, rfl⟩; rw [HL.out])
                      | (go_at_call 22; (with_reducible refine (HF.out _).mono ?_); rintro e w2 ⟨rfl, hb2⟩; rw [H3.out])
                      | (go_at_call 23; (with_reducible refine (HP.out _).mono ?_); rintro e w3 ⟨rfl, n3, rfl⟩; rw [EP.out])
                      | (go_at_call 23; (with_reducible refine (HS.out _).mono ?_); rintro e w4 ⟨rfl, n4, rfl⟩; rw [ES.out]))
                go_ret2
                exact ⟨rfl, below_drewN hb2 _⟩
              · rw [show strFin (p) = (⟨#[]⟩, 2) from if_neg (by omega)]
                have z3 : 8 < (p).size := by omega
                go_enter Try.func8, Try.ntmps8
                go_wp2_with (first
                      | (go_at_call 21; (with_reducible refine (r20_Letter _ _).mono ?_); rintro e w1 ⟨rfl, rfl⟩; rw [HL.out])
                      | (go_at_call 22; (with_reducible refine (HF.out _).mono ?_); rintro e w2 ⟨rfl, hb2⟩; rw [H3.out])
                      | (go_at_call 23; (with_reducible refine (HP.out _).mono ?_); rintro e w3 ⟨rfl, n3, rfl⟩; rw [EP.out])
                      | (go_at_call 23; (with_reducible refine (HS.out _).mono ?_); rintro e w4 ⟨rfl, n4, rfl⟩; rw [ES.out]))
                go_ret2
                exact ⟨rfl, below_drewN hb2 _⟩
            · rw [show strFin (p) = (⟨#[]⟩, 2) from if_neg (by omega)]
              have e1 := isEmpty_nil (s := p) (by omega)
              skip
              go_enter Try.func8, Try.ntmps8
              go_wp2_with (first
                      | (go_at_call 21; (with_reducible refine (r20_Letter _ _).mono ?_); rintro e w1 ⟨rfl, rfl⟩; rw [HL.out])
                      | (go_at_call 22; (with_reducible refine (HF.out _).mono ?_); rintro e w2 ⟨rfl, hb2⟩; rw [H3.out])
                      | (go_at_call 23; (with_reducible refine (HP.out _).mono ?_); rintro e w3 ⟨rfl, n3, rfl⟩; rw [EP.out])
                      | (go_at_call 23; (with_reducible refine (HS.out _).mono ?_); rintro e w4 ⟨rfl, n4, rfl⟩; rw [ES.out]))
              go_ret2
              exact ⟨rfl, below_drewN hb2 _⟩
          · have g' : (sv != 0) = true := by simp [g]
            rw [show rname f l sv = slB f by unfold rname; rw [ep, es, if_neg g]; rfl]
            clear ep es g
            generalize slA f = p at *
            generalize slB f = q at *
            by_cases z1 : 1 ≤ (q).size
            · have e1 := isEmpty_no z1
              have e2 : ¬ (q).toList = [] := fun h => by rw [h] at e1; cases e1
              by_cases z2 : (q).size ≤ 8
              · rw [show strFin (q) = (q, 0) from if_pos ⟨z1, z2⟩]
                skip
                go_enter Try.func8, Try.ntmps8
                go_wp2_with (first
                      | (go_at_call 21; (with_reducible refine (r20_Letter _ _).mono ?_); rintro e w1 ⟨rfl, rfl⟩; rw [HL.out])
                      | (go_at_call 22; (with_reducible refine (HF.out _).mono ?_); rintro e w2 ⟨rfl, hb2⟩; rw [H3.out])
                      | (go_at_call 23; (with_reducible refine (HP.out _).mono ?_); rintro e w3 ⟨rfl, n3, rfl⟩; rw [EP.out])
                      | (go_at_call 23; (with_reducible refine (HS.out _).mono ?_); rintro e w4 ⟨rfl, n4, rfl⟩; rw [ES.out]))
                go_ret2
                exact ⟨rfl, below_drewN hb2 _⟩
              · rw [show strFin (q) = (⟨#[]⟩, 2) from if_neg (by omega)]
                have z3 : 8 < (q).size := by omega
                go_enter Try.func8, Try.ntmps8
                go_wp2_with (first
                      | (go_at_call 21; (with_reducible refine (r20_Letter _ _).mono ?_); rintro e w1 ⟨rfl, rfl⟩; rw [HL.out])
                      | (go_at_call 22; (with_reducible refine (HF.out _).mono ?_); rintro e w2 ⟨rfl, hb2⟩; rw [H3.out])
                      | (go_at_call 23; (with_reducible refine (HP.out _).mono ?_); rintro e w3 ⟨rfl, n3, rfl⟩; rw [EP.out])
                      | (go_at_call 23; (with_reducible refine (HS.out _).mono ?_); rintro e w4 ⟨rfl, n4, rfl⟩; rw [ES.out]))
                go_ret2
                exact ⟨rfl, below_drewN hb2 _⟩
            · rw [show strFin (q) = (⟨#[]⟩, 2) from if_neg (by omega)]
              have e1 := isEmpty_nil (s := q) (by omega)
              skip
              go_enter Try.func8, Try.ntmps8
              go_wp2_with (first
                      | (go_at_call 21; (with_reducible refine (r20_Letter _ _).mono ?_); rintro e w1 ⟨rfl, rfl⟩; rw [HL.out])
                      | (go_at_call 22; (with_reducible refine (HF.out _).mono ?_); rintro e w2 ⟨rfl, hb2⟩; rw [H3.out])
                      | (go_at_call 23; (with_reducible refine (HP.out _).mono ?_); rintro e w3 ⟨rfl, n3, rfl⟩; rw [EP.out])
                      | (go_at_call 23; (with_reducible refine (HS.out _).mono ?_); rintro e w4 ⟨rfl, n4, rfl⟩; rw [ES.out]))
              go_ret2
              exact ⟨rfl, below_drewN hb2 _⟩
      · have EP := Lib.hid ep
        have ES : Hid True := trivial
        rw [show rname f l sv = pcA f ++ l ++ pcB f by unfold rname; rw [ep]; rfl]
        clear ep
        have m1 : (pcA f).size ≤ 1000000 := by have := cut_len1 f.data.toList [37, 115]; rw [← Lib.size_eq] at this; exact Nat.le_trans this hf
        have m2 : (pcB f).size ≤ 1000000 := by have := cut_len2 f.data.toList [37, 115]; rw [← Lib.size_eq] at this; exact Nat.le_trans this hf
        generalize pcA f = p at *
        generalize pcB f = q at *
        have hz : (p ++ l ++ q).size = p.size + l.size + q.size := by simp [ByteArray.size_append]
        by_cases z1 : 1 ≤ (p ++ l ++ q).size
        · have e1 := isEmpty_no z1
          have e2 : ¬ (p ++ l ++ q).toList = [] := fun h => by rw [h] at e1; cases e1
          by_cases z2 : (p ++ l ++ q).size ≤ 8
          · rw [show strFin (p ++ l ++ q) = (p ++ l ++ q, 0) from if_pos ⟨z1, z2⟩]
            have z3 : p.size + l.size + q.size ≤ 8 := by omega
            clear hz
            go_enter Try.func8, Try.ntmps8
            go_wp2_with (first
                  | (go_at_call 21; (with_reducible refine (r20_Letter _ _).mono ?_); rintro e w1 ⟨rfl, rfl⟩; rw [HL.out])
                  | (go_at_call 22; (with_reducible refine (HF.out _).mono ?_); rintro e w2 ⟨rfl, hb2⟩; rw [H3.out])
                  | (go_at_call 23; (with_reducible refine (HP.out _).mono ?_); rintro e w3 ⟨rfl, n3, rfl⟩; rw [EP.out])
                  | (go_at_call 23; (with_reducible refine (HS.out _).mono ?_); rintro e w4 ⟨rfl, n4, rfl⟩; rw [ES.out]))
            go_ret2
            exact ⟨rfl, below_drewN hb2 _⟩
          · rw [show strFin (p ++ l ++ q) = (⟨#[]⟩, 2) from if_neg (by omega)]
            have z3 : 8 < p.size + l.size + q.size := by omega
            clear hz
            go_enter Try.func8, Try.ntmps8
            go_wp2_with (first
                  | (go_at_call 21; (with_reducible refine (r20_Letter _ _).mono ?_); rintro e w1 ⟨rfl, rfl⟩; rw [HL.out])
                  | (go_at_call 22; (with_reducible refine (HF.out _).mono ?_); rintro e w2 ⟨rfl, hb2⟩; rw [H3.out])
                  | (go_at_call 23; (with_reducible refine (HP.out _).mono ?_); rintro e w3 ⟨rfl, n3, rfl⟩; rw [EP.out])
                  | (go_at_call 23; (with_reducible refine (HS.out _).mono ?_); rintro e w4 ⟨rfl, n4, rfl⟩; rw [ES.out]))
            go_ret2
            exact ⟨rfl, below_drewN hb2 _⟩
        · rw [show strFin (p ++ l ++ q) = (⟨#[]⟩, 2) from if_neg (by omega)]
          have e1 := isEmpty_nil (s := p ++ l ++ q) (by omega)
          clear hz
          go_enter Try.func8, Try.ntmps8
          go_wp2_with (first
                  | (go_at_call 21; (with_reducible refine (r20_Letter _ _).mono ?_); rintro e w1 ⟨rfl, rfl⟩; rw [HL.out])
                  | (go_at_call 22; (with_reducible refine (HF.out _).mono ?_); rintro e w2 ⟨rfl, hb2⟩; rw [H3.out])
                  | (go_at_call 23; (with_reducible refine (HP.out _).mono ?_); rintro e w3 ⟨rfl, n3, rfl⟩; rw [EP.out])
                  | (go_at_call 23; (with_reducible refine (HS.out _).mono ?_); rintro e w4 ⟨rfl, n4, rfl⟩; rw [ES.out]))
          go_ret2
          exact ⟨rfl, below_drewN hb2 _⟩
  · have HL := Lib.hid (show (decide (l.size ≤ 8) && Cv.lettersB [] l.data.toList) = false by
      rw [Bool.and_eq_false_iff]
      by_cases h8 : l.size ≤ 8
      · right; exact Bool.eq_false_iff.2 fun h => hl ⟨h8, h⟩
      · left; exact decide_eq_false h8)
    rw [show rformatF f l sv = (⟨#[]⟩, 1) from if_pos hl]
    clear hl
    go_enter Try.func8, Try.ntmps8
    go_wp2_with (go_at_call 21; refine (r20_Letter _ _).mono ?_; rintro e w1 ⟨rfl, rfl⟩; rw [HL.out])
    go_ret2
    exact ⟨rfl, Below.refl _ _⟩

end Go.Proofs.Ytjpjmlljgcpbkaa

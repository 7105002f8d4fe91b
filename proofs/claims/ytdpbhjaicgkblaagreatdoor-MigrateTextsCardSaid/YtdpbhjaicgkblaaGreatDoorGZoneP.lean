/- Joined by merge.py: Format, ZoneP, ZoneP2, SpacedL, ZoneP3. -/
import Derived.Test.YtdpbhjaicgkblaaGreatDoorGLet
import Derived.Lib.IndexMore
import Derived.Test.YtdpbhjaicgkblaaGreatDoorGRange
/- yearrule.Format. -/
namespace Go.Proofs.YtdpbhjaicgkblaaGreatDoor
set_option linter.unusedSimpArgs false
set_option linter.unusedVariables false
open Go.ChangeShapes Go.WideShapes Go.ChangeAt Go.RowKit
def HasMax (w : World) : Prop := ∃ m : Int, w.cell? ⟨2, 0, none⟩ = some (.int .i64 m) ∧ 2 < w.heap.size
theorem HasMax.below {w w' : World} {B : Nat} (h : HasMax w) (hb : Below B w w') (hB : w.heap.size ≤ B) : HasMax w' := by
 obtain ⟨m, h1, h2⟩ := h
 exact ⟨m, (hb.cell (p := ⟨2, 0, none⟩) (Nat.lt_of_lt_of_le h2 hB)).trans h1, Nat.lt_of_lt_of_le h2 hb.size⟩
theorem HasMax.drewN {w : World} (h : HasMax w) (n : Nat) : HasMax (w.drewN n) := h.below (below_drewN (Below.refl w.heap.size w) n) (Nat.le_refl _)
theorem hasMax_of {w : World} (h : w.ShapedOpen Tryz.prog) : HasMax w := by
 obtain ⟨m, hm⟩ := cell_of_shapedOpen_int (P := Tryz.prog) (g := 2) (t := 3) (zero := #[.int .i64 0]) (k := .i64) h (of_decide_eq_true (by kernel_rfl)) (by kernel_rfl) rfl (by kernel_rfl) (by kernel_rfl) Tryz.underlying3
 refine ⟨m, hm, ?_⟩
 rcases Nat.lt_or_ge 2 w.heap.size with h' | h'
 ·exact h'
 ·rw [World.cell?] at hm; simp [Array.getElem?_eq_none h'] at hm
theorem cut_any (s sep : ByteArray) (w : World) (hm : HasMax w) (hs : s.size < 4294967281) :
  Calls Tryz.prog 128 #[.string s, .string sep] w fun e w' => e = .returned (.tuple #[.string ⟨(Lib.cut s.data.toList sep.data.toList).1.toArray⟩, .string ⟨(Lib.cut s.data.toList sep.data.toList).2.1.toArray⟩, .bool (Lib.cut s.data.toList sep.data.toList).2.2]) ∧ ∃ n, w.drewN n = w' := by
 obtain ⟨m, h1, _⟩ := hm
 exact (Tryz.strings_Cut s sep m w hs h1).mono fun _ _ ⟨he, n, hn⟩ => ⟨he, n, hn.symm⟩
theorem cut_is {s sep b a : ByteArray} {f : Bool} (hs : s.size < 4294967281) (hb : (⟨(Lib.cut s.data.toList sep.data.toList).1.toArray⟩ : ByteArray) = b) (ha : (⟨(Lib.cut s.data.toList sep.data.toList).2.1.toArray⟩ : ByteArray) = a) (hf : (Lib.cut s.data.toList sep.data.toList).2.2 = f) (w : World) (hm : HasMax w) :
  Calls Tryz.prog 128 #[.string s, .string sep] w fun e w' => e = .returned (.tuple #[.string b, .string a, .bool f]) ∧ Below w.heap.size w w' := by
 rw [← hb, ← ha, ← hf]
 exact (cut_any s sep w hm hs).mono fun _ _ ⟨he, n, hn⟩ => ⟨he, hn ▸ below_drewN (Below.refl _ _) n⟩
theorem HasMax.on {w w' : World} (h : HasMax w) (hb : Below w.heap.size w w') : HasMax w' := h.below hb (Nat.le_refl _)
theorem below4 {w w1 w2 w3 w4 : World} (h1 : Below w.heap.size w w1) (h2 : Below w1.heap.size w1 w2) (h3 : Below w2.heap.size w2 w3) (h4 : Below w3.heap.size w3 w4) : Below w.heap.size w w4 :=
 ((h1.trans (h2.mono h1.size)).trans (h3.mono (Nat.le_trans h1.size h2.size))).trans (h4.mono (Nat.le_trans (Nat.le_trans h1.size h2.size) h3.size))
theorem nameB_size {s : ByteArray} (h : Cv.nameB s = true) : 1 ≤ s.size ∧ s.size ≤ 8 := by
 unfold Cv.nameB at h
 rw [Bool.and_eq_true, decide_eq_true_eq] at h
 exact h.1
theorem cut_len1 (s sep : List UInt8) : (Lib.cut s sep).1.length ≤ s.length := by
 unfold Lib.cut; split
 ·dsimp only; rw [List.length_take]; omega
 ·exact Nat.le_refl _
theorem cut_len2 (s sep : List UInt8) : (Lib.cut s sep).2.1.length ≤ s.length := by
 unfold Lib.cut; split
 ·simp
 ·simp
theorem append_list (p q : ByteArray) : (p ++ q).data.toList = p.data.toList ++ q.data.toList := by simp
theorem toArray_id (p : ByteArray) : (⟨p.data.toList.toArray⟩ : ByteArray) = p := by simp
def strFin (o : ByteArray) : ByteArray × Int := if 1 ≤ o.size ∧ o.size ≤ 8 then (o, 0) else (⟨#[]⟩, 2)
def formatF (f l : ByteArray) (sv : Int) : ByteArray × Int :=
 if ¬ (l.size ≤ 8 ∧ Cv.lettersB [] l.data.toList = true) then (⟨#[]⟩, 1)
 else if (Lib.cut f.data.toList [47]).2.2 = true then
  if ¬ (Cv.nameB ⟨(Lib.cut f.data.toList [47]).1.toArray⟩ = true ∧ Cv.nameB ⟨(Lib.cut f.data.toList [47]).2.1.toArray⟩ = true) then (⟨#[]⟩, 3)
  else strFin (if sv = 0 then ⟨(Lib.cut f.data.toList [47]).1.toArray⟩ else ⟨(Lib.cut f.data.toList [47]).2.1.toArray⟩)
 else if (Lib.cut f.data.toList [37, 115]).2.2 = true then
  if ¬ (f.size ≤ 8 ∧ Cv.lettersB [43, 45] ((Lib.cut f.data.toList [37, 115]).1 ++ (Lib.cut f.data.toList [37, 115]).2.1) = true) then (⟨#[]⟩, 3)
  else strFin ⟨((Lib.cut f.data.toList [37, 115]).1 ++ l.data.toList ++ (Lib.cut f.data.toList [37, 115]).2.1).toArray⟩
 else if Cv.nameB f = false then (⟨#[]⟩, 3) else strFin f
set_option maxRecDepth 100000 in
set_option maxHeartbeats 2000000 in
theorem Format_arg (f l : ByteArray) (sv : Int) (w : World) (hl : ¬ (l.size ≤ 8 ∧ Cv.lettersB [] l.data.toList = true)) :
  Calls Tryz.prog 115 #[.string f, .string l, .int .i64 sv] w fun e w' => e = .returned (.tuple #[.string (formatF f l sv).1, .int .i64 (formatF f l sv).2]) ∧ Below w.heap.size w w' := by
 rw [show formatF f l sv = (⟨#[]⟩, 1) from if_pos hl]
 by_cases h8 : l.size ≤ 8
 ·have h := Lib.hid (show Cv.lettersB [] l.data.toList = false by cases e : Cv.lettersB [] l.data.toList <;> simp_all)
  clear hl
  go_enter Tryz.func115, Tryz.ntmps115
  go_wp2_with (go_at_call 126; refine (letters_any _ _ _ oth_none).mono ?_; rintro e w1 ⟨rfl, hb1⟩; rw [h.out])
  go_ret2
  exact ⟨rfl, hb1⟩
 ·clear hl
  go_enter Tryz.func115, Tryz.ntmps115
  go_wp2
  go_ret2
  exact ⟨rfl, Below.refl _ _⟩
set_option maxRecDepth 100000 in
set_option maxHeartbeats 2000000 in
theorem Format_slash (f l : ByteArray) (sv : Int) (w : World) (hl : l.size ≤ 8) (hl2 : Cv.lettersB [] l.data.toList = true) (hm : HasMax w) (hs : f.size < 4294967281) (hc : (Lib.cut f.data.toList [47]).2.2 = true) :
  Calls Tryz.prog 115 #[.string f, .string l, .int .i64 sv] w fun e w' => e = .returned (.tuple #[.string (formatF f l sv).1, .int .i64 (formatF f l sv).2]) ∧ Below w.heap.size w w' := by
 have hf : formatF f l sv = if ¬ (Cv.nameB ⟨(Lib.cut f.data.toList [47]).1.toArray⟩ = true ∧ Cv.nameB ⟨(Lib.cut f.data.toList [47]).2.1.toArray⟩ = true) then (⟨#[]⟩, 3)
  else strFin (if sv = 0 then ⟨(Lib.cut f.data.toList [47]).1.toArray⟩ else ⟨(Lib.cut f.data.toList [47]).2.1.toArray⟩) := by
  unfold formatF; rw [if_neg (by simp [hl, hl2]), if_pos hc]
 rw [hf]
 clear hf
 have H2 := Lib.hid hl2
 have HM := Lib.hid hm
 generalize hb : (⟨(Lib.cut f.data.toList [47]).1.toArray⟩ : ByteArray) = bf at *
 generalize hbe : (⟨(Lib.cut f.data.toList [47]).2.1.toArray⟩ : ByteArray) = be at *
 have C1 := Lib.hid (cut_is (sep := ⟨#[47]⟩) hs hb hbe hc)
 have C2 := Lib.hid (cut_is (s := f) (sep := ⟨#[37, 115]⟩) hs rfl rfl rfl)
 generalize (⟨(Lib.cut f.data.toList (⟨#[37, 115]⟩ : ByteArray).data.toList).1.toArray⟩ : ByteArray) = x1 at C2
 generalize (⟨(Lib.cut f.data.toList (⟨#[37, 115]⟩ : ByteArray).data.toList).2.1.toArray⟩ : ByteArray) = x2 at C2
 generalize (Lib.cut f.data.toList (⟨#[37, 115]⟩ : ByteArray).data.toList).2.2 = x3 at C2
 clear hl2 hc hm hb hbe
 cases n1 : Cv.nameB bf
 ·have N1 := Lib.hid n1
  rw [if_pos (by simp)]
  clear n1
  go_enter Tryz.func115, Tryz.ntmps115
  go_wp2_with (first
   | (go_at_call 126; refine (letters_any _ _ _ oth_none).mono ?_; rintro e w1 ⟨rfl, hb1⟩; rw [H2.out])
   | (go_at_call 128; (with_reducible refine (C1.out _ (HM.out.on hb1)).mono ?_); rintro e w2 ⟨rfl, hb2⟩)
   | (go_at_call 128; (with_reducible refine (C2.out _ ((HM.out.on hb1).on hb2)).mono ?_); rintro e w3 ⟨rfl, hb3⟩)
   | (go_at_call 129; (with_reducible refine (name_any bf _).mono ?_); rintro e w4 ⟨rfl, hb4⟩; rw [N1.out])
   | (go_at_call 129; (with_reducible refine (name_any be _).mono ?_); rintro e w5 ⟨rfl, hb5⟩; rw [N2.out]))
  go_ret2
  exact ⟨rfl, below4 hb1 hb2 hb3 hb4⟩
 ·have N1 := Lib.hid n1
  cases n2 : Cv.nameB be
  ·have N2 := Lib.hid n2
   rw [if_pos (by simp)]
   clear n1 n2
   go_enter Tryz.func115, Tryz.ntmps115
   go_wp2_with (first
   | (go_at_call 126; refine (letters_any _ _ _ oth_none).mono ?_; rintro e w1 ⟨rfl, hb1⟩; rw [H2.out])
   | (go_at_call 128; (with_reducible refine (C1.out _ (HM.out.on hb1)).mono ?_); rintro e w2 ⟨rfl, hb2⟩)
   | (go_at_call 128; (with_reducible refine (C2.out _ ((HM.out.on hb1).on hb2)).mono ?_); rintro e w3 ⟨rfl, hb3⟩)
   | (go_at_call 129; (with_reducible refine (name_any bf _).mono ?_); rintro e w4 ⟨rfl, hb4⟩; rw [N1.out])
   | (go_at_call 129; (with_reducible refine (name_any be _).mono ?_); rintro e w5 ⟨rfl, hb5⟩; rw [N2.out]))
   go_ret2
   exact ⟨rfl, (below4 hb1 hb2 hb3 hb4).trans (hb5.mono (below4 hb1 hb2 hb3 hb4).size)⟩
  ·have N2 := Lib.hid n2
   rw [if_neg (by simp)]
   have s1 := nameB_size n1
   have s2 := nameB_size n2
   obtain ⟨s11, s12⟩ := s1
   obtain ⟨s21, s22⟩ := s2
   have e1 := isEmpty_no s11
   have e2 := isEmpty_no s21
   have e1' : ¬ bf.toList = [] := fun h => by rw [h] at e1; cases e1
   have e2' : ¬ be.toList = [] := fun h => by rw [h] at e2; cases e2
   clear n1 n2
   by_cases hz : sv = 0
   ·rw [if_pos hz, show strFin bf = (bf, 0) from if_pos ⟨s11, s12⟩]
    subst hz
    go_enter Tryz.func115, Tryz.ntmps115
    go_wp2_with (first
   | (go_at_call 126; refine (letters_any _ _ _ oth_none).mono ?_; rintro e w1 ⟨rfl, hb1⟩; rw [H2.out])
   | (go_at_call 128; (with_reducible refine (C1.out _ (HM.out.on hb1)).mono ?_); rintro e w2 ⟨rfl, hb2⟩)
   | (go_at_call 128; (with_reducible refine (C2.out _ ((HM.out.on hb1).on hb2)).mono ?_); rintro e w3 ⟨rfl, hb3⟩)
   | (go_at_call 129; (with_reducible refine (name_any bf _).mono ?_); rintro e w4 ⟨rfl, hb4⟩; rw [N1.out])
   | (go_at_call 129; (with_reducible refine (name_any be _).mono ?_); rintro e w5 ⟨rfl, hb5⟩; rw [N2.out]))
    go_ret2
    exact ⟨rfl, (below4 hb1 hb2 hb3 hb4).trans (hb5.mono (below4 hb1 hb2 hb3 hb4).size)⟩
   ·rw [if_neg hz, show strFin be = (be, 0) from if_pos ⟨s21, s22⟩]
    go_enter Tryz.func115, Tryz.ntmps115
    go_wp2_with (first
   | (go_at_call 126; refine (letters_any _ _ _ oth_none).mono ?_; rintro e w1 ⟨rfl, hb1⟩; rw [H2.out])
   | (go_at_call 128; (with_reducible refine (C1.out _ (HM.out.on hb1)).mono ?_); rintro e w2 ⟨rfl, hb2⟩)
   | (go_at_call 128; (with_reducible refine (C2.out _ ((HM.out.on hb1).on hb2)).mono ?_); rintro e w3 ⟨rfl, hb3⟩)
   | (go_at_call 129; (with_reducible refine (name_any bf _).mono ?_); rintro e w4 ⟨rfl, hb4⟩; rw [N1.out])
   | (go_at_call 129; (with_reducible refine (name_any be _).mono ?_); rintro e w5 ⟨rfl, hb5⟩; rw [N2.out]))
    go_ret2
    exact ⟨rfl, (below4 hb1 hb2 hb3 hb4).trans (hb5.mono (below4 hb1 hb2 hb3 hb4).size)⟩
set_option maxRecDepth 100000 in
set_option maxHeartbeats 2000000 in
theorem Format_rest (f l : ByteArray) (sv : Int) (w : World) (hl : l.size ≤ 8) (hl2 : Cv.lettersB [] l.data.toList = true) (hm : HasMax w) (hs : f.size < 4294967281) (hc : (Lib.cut f.data.toList [47]).2.2 = false) :
  Calls Tryz.prog 115 #[.string f, .string l, .int .i64 sv] w fun e w' => e = .returned (.tuple #[.string (formatF f l sv).1, .int .i64 (formatF f l sv).2]) ∧ Below w.heap.size w w' := by
 have H2 := Lib.hid hl2
 have HM := Lib.hid hm
 have C1 := Lib.hid (cut_is (s := f) (sep := ⟨#[47]⟩) hs rfl rfl hc)
 generalize (⟨(Lib.cut f.data.toList (⟨#[47]⟩ : ByteArray).data.toList).1.toArray⟩ : ByteArray) = bf at C1
 generalize (⟨(Lib.cut f.data.toList (⟨#[47]⟩ : ByteArray).data.toList).2.1.toArray⟩ : ByteArray) = be at C1
 cases hp : (Lib.cut f.data.toList [37, 115]).2.2
 ·have hf : formatF f l sv = if Cv.nameB f = false then (⟨#[]⟩, 3) else strFin f := by
   unfold formatF; rw [if_neg (by simp [hl, hl2]), if_neg (by simp [hc]), if_neg (by simp [hp])]
  rw [hf]
  have C2 := Lib.hid (cut_is (s := f) (sep := ⟨#[37, 115]⟩) hs rfl rfl hp)
  generalize (⟨(Lib.cut f.data.toList (⟨#[37, 115]⟩ : ByteArray).data.toList).1.toArray⟩ : ByteArray) = x1 at C2
  generalize (⟨(Lib.cut f.data.toList (⟨#[37, 115]⟩ : ByteArray).data.toList).2.1.toArray⟩ : ByteArray) = x2 at C2
  clear hl2 hc hm hp hf
  cases n1 : Cv.nameB f
  ·have N1 := Lib.hid n1
   rw [if_pos rfl]
   clear n1
   go_enter Tryz.func115, Tryz.ntmps115
   go_wp2_with (first
   | (go_at_call 126; refine (letters_any _ _ _ oth_none).mono ?_; rintro e w1 ⟨rfl, hb1⟩; rw [H2.out])
   | (go_at_call 128; (with_reducible refine (C1.out _ (HM.out.on hb1)).mono ?_); rintro e w2 ⟨rfl, hb2⟩)
   | (go_at_call 128; (with_reducible refine (C2.out _ ((HM.out.on hb1).on hb2)).mono ?_); rintro e w3 ⟨rfl, hb3⟩)
   | (go_at_call 129; (with_reducible refine (name_any f _).mono ?_); rintro e w4 ⟨rfl, hb4⟩; rw [N1.out]))
   go_ret2
   exact ⟨rfl, below4 hb1 hb2 hb3 hb4⟩
  ·have N1 := Lib.hid n1
   rw [if_neg (by simp)]
   obtain ⟨s11, s12⟩ := nameB_size n1
   have e1 := isEmpty_no s11
   have e1' : ¬ f.toList = [] := fun h => by rw [h] at e1; cases e1
   rw [show strFin f = (f, 0) from if_pos ⟨s11, s12⟩]
   clear n1
   go_enter Tryz.func115, Tryz.ntmps115
   go_wp2_with (first
   | (go_at_call 126; refine (letters_any _ _ _ oth_none).mono ?_; rintro e w1 ⟨rfl, hb1⟩; rw [H2.out])
   | (go_at_call 128; (with_reducible refine (C1.out _ (HM.out.on hb1)).mono ?_); rintro e w2 ⟨rfl, hb2⟩)
   | (go_at_call 128; (with_reducible refine (C2.out _ ((HM.out.on hb1).on hb2)).mono ?_); rintro e w3 ⟨rfl, hb3⟩)
   | (go_at_call 129; (with_reducible refine (name_any f _).mono ?_); rintro e w4 ⟨rfl, hb4⟩; rw [N1.out]))
   go_ret2
   exact ⟨rfl, below4 hb1 hb2 hb3 hb4⟩
 ·have hf : formatF f l sv = if ¬ (f.size ≤ 8 ∧ Cv.lettersB [43, 45] ((Lib.cut f.data.toList [37, 115]).1 ++ (Lib.cut f.data.toList [37, 115]).2.1) = true) then (⟨#[]⟩, 3)
   else strFin ⟨((Lib.cut f.data.toList [37, 115]).1 ++ l.data.toList ++ (Lib.cut f.data.toList [37, 115]).2.1).toArray⟩ := by
   unfold formatF; rw [if_neg (by simp [hl, hl2]), if_neg (by simp [hc]), if_pos hp]
  rw [hf]
  have C2 := Lib.hid (cut_is (s := f) (sep := ⟨#[37, 115]⟩) hs rfl rfl hp)
  have l1 := cut_len1 f.data.toList [37, 115]
  have l2 := cut_len2 f.data.toList [37, 115]
  obtain ⟨p, hp1⟩ : ∃ p : ByteArray, (Lib.cut f.data.toList [37, 115]).1 = p.data.toList := ⟨⟨(Lib.cut f.data.toList [37, 115]).1.toArray⟩, by simp⟩
  obtain ⟨q, hq1⟩ : ∃ p : ByteArray, (Lib.cut f.data.toList [37, 115]).2.1 = p.data.toList := ⟨⟨(Lib.cut f.data.toList [37, 115]).2.1.toArray⟩, by simp⟩
  have C2' : Hid (∀ w : World, HasMax w → Calls Tryz.prog 128 #[.string f, .string ⟨#[37, 115]⟩] w fun e w' => e = .returned (.tuple #[.string ⟨(Lib.cut f.data.toList [37, 115]).1.toArray⟩, .string ⟨(Lib.cut f.data.toList [37, 115]).2.1.toArray⟩, .bool true]) ∧ Below w.heap.size w w') := C2
  clear C2
  have C2 := C2'
  clear C2'
  rw [hp1, hq1] at C2
  rw [hp1] at l1 ⊢
  rw [hq1] at l2 ⊢
  rw [← append_list, ← append_list, ← append_list, toArray_id]
  simp only [Array.toArray_toList] at C2
  have C2' : Hid (∀ w : World, HasMax w → Calls Tryz.prog 128 #[.string f, .string ⟨#[37, 115]⟩] w fun e w' => e = .returned (.tuple #[.string p, .string q, .bool true]) ∧ Below w.heap.size w w') := C2
  clear C2
  have C2 := C2'
  have m1 : p.size ≤ f.size := l1
  have m2 : q.size ≤ f.size := l2
  clear C2' hl2 hc hm hp hf l1 l2 hp1 hq1
  by_cases h8 : f.size ≤ 8
  ·have m1' : p.size ≤ 8 := by omega
   have m2' : q.size ≤ 8 := by omega
   clear m1 m2
   cases n1 : Cv.lettersB [43, 45] (p ++ q).data.toList
   ·have N1 := Lib.hid n1
    rw [if_pos (by simp)]
    clear n1
    go_enter Tryz.func115, Tryz.ntmps115
    go_wp2_with (first
     | (go_at_call 126; (with_reducible refine (letters_any l _ _ oth_none).mono ?_); rintro e w1 ⟨rfl, hb1⟩; rw [H2.out])
     | (go_at_call 128; (with_reducible refine (C1.out _ (HM.out.on hb1)).mono ?_); rintro e w2 ⟨rfl, hb2⟩)
     | (go_at_call 128; (with_reducible refine (C2.out _ ((HM.out.on hb1).on hb2)).mono ?_); rintro e w3 ⟨rfl, hb3⟩)
     | (go_at_call 126; (with_reducible refine (letters_any (p ++ q) _ _ oth_signs).mono ?_); rintro e w4 ⟨rfl, hb4⟩; rw [N1.out]))
    go_ret2
    exact ⟨rfl, below4 hb1 hb2 hb3 hb4⟩
   ·have N1 := Lib.hid n1
    rw [if_neg (by simp [h8])]
    clear n1
    have hz : (p ++ l ++ q).size = p.size + l.size + q.size := by simp [ByteArray.size_append]
    by_cases z1 : 1 ≤ (p ++ l ++ q).size
    ·have e1 := isEmpty_no z1
     have e2 : ¬ (p ++ l ++ q).toList = [] := fun h => by rw [h] at e1; cases e1
     by_cases z2 : (p ++ l ++ q).size ≤ 8
     ·rw [show strFin (p ++ l ++ q) = (p ++ l ++ q, 0) from if_pos ⟨z1, z2⟩]
      have z3 : p.size + l.size + q.size ≤ 8 := by omega
      clear hz
      go_enter Tryz.func115, Tryz.ntmps115
      go_wp2_with (first
     | (go_at_call 126; (with_reducible refine (letters_any l _ _ oth_none).mono ?_); rintro e w1 ⟨rfl, hb1⟩; rw [H2.out])
     | (go_at_call 128; (with_reducible refine (C1.out _ (HM.out.on hb1)).mono ?_); rintro e w2 ⟨rfl, hb2⟩)
     | (go_at_call 128; (with_reducible refine (C2.out _ ((HM.out.on hb1).on hb2)).mono ?_); rintro e w3 ⟨rfl, hb3⟩)
     | (go_at_call 126; (with_reducible refine (letters_any (p ++ q) _ _ oth_signs).mono ?_); rintro e w4 ⟨rfl, hb4⟩; rw [N1.out]))
      go_ret2
      exact ⟨rfl, below4 hb1 hb2 hb3 hb4⟩
     ·rw [show strFin (p ++ l ++ q) = (⟨#[]⟩, 2) from if_neg (by omega)]
      have z3 : 8 < p.size + l.size + q.size := by omega
      clear hz
      go_enter Tryz.func115, Tryz.ntmps115
      go_wp2_with (first
     | (go_at_call 126; (with_reducible refine (letters_any l _ _ oth_none).mono ?_); rintro e w1 ⟨rfl, hb1⟩; rw [H2.out])
     | (go_at_call 128; (with_reducible refine (C1.out _ (HM.out.on hb1)).mono ?_); rintro e w2 ⟨rfl, hb2⟩)
     | (go_at_call 128; (with_reducible refine (C2.out _ ((HM.out.on hb1).on hb2)).mono ?_); rintro e w3 ⟨rfl, hb3⟩)
     | (go_at_call 126; (with_reducible refine (letters_any (p ++ q) _ _ oth_signs).mono ?_); rintro e w4 ⟨rfl, hb4⟩; rw [N1.out]))
      go_ret2
      exact ⟨rfl, below4 hb1 hb2 hb3 hb4⟩
    ·rw [show strFin (p ++ l ++ q) = (⟨#[]⟩, 2) from if_neg (by omega)]
     have e1 := isEmpty_nil (s := p ++ l ++ q) (by omega)
     have z3 : p.size + l.size + q.size = 0 := by omega
     clear hz z3
     go_enter Tryz.func115, Tryz.ntmps115
     go_wp2_with (first
     | (go_at_call 126; (with_reducible refine (letters_any l _ _ oth_none).mono ?_); rintro e w1 ⟨rfl, hb1⟩; rw [H2.out])
     | (go_at_call 128; (with_reducible refine (C1.out _ (HM.out.on hb1)).mono ?_); rintro e w2 ⟨rfl, hb2⟩)
     | (go_at_call 128; (with_reducible refine (C2.out _ ((HM.out.on hb1).on hb2)).mono ?_); rintro e w3 ⟨rfl, hb3⟩)
     | (go_at_call 126; (with_reducible refine (letters_any (p ++ q) _ _ oth_signs).mono ?_); rintro e w4 ⟨rfl, hb4⟩; rw [N1.out]))
     go_ret2
     exact ⟨rfl, below4 hb1 hb2 hb3 hb4⟩
  ·rw [if_pos (by omega)]
   clear m1 m2
   go_enter Tryz.func115, Tryz.ntmps115
   go_wp2_with (first
     | (go_at_call 126; (with_reducible refine (letters_any l _ _ oth_none).mono ?_); rintro e w1 ⟨rfl, hb1⟩; rw [H2.out])
     | (go_at_call 128; (with_reducible refine (C1.out _ (HM.out.on hb1)).mono ?_); rintro e w2 ⟨rfl, hb2⟩)
     | (go_at_call 128; (with_reducible refine (C2.out _ ((HM.out.on hb1).on hb2)).mono ?_); rintro e w3 ⟨rfl, hb3⟩)
     | (go_at_call 126; (with_reducible refine (letters_any (p ++ q) _ _ oth_signs).mono ?_); rintro e w4 ⟨rfl, hb4⟩))
   go_ret2
   exact ⟨rfl, (hb1.trans (hb2.mono hb1.size)).trans (hb3.mono (Nat.le_trans hb1.size hb2.size))⟩
theorem Format_any (f l : ByteArray) (sv : Int) (w : World) (hm : HasMax w) (hs : f.size < 4294967281) :
  Calls Tryz.prog 115 #[.string f, .string l, .int .i64 sv] w fun e w' => e = .returned (.tuple #[.string (formatF f l sv).1, .int .i64 (formatF f l sv).2]) ∧ Below w.heap.size w w' := by
 by_cases hl : l.size ≤ 8 ∧ Cv.lettersB [] l.data.toList = true
 ·cases hc : (Lib.cut f.data.toList [47]).2.2
  ·exact Format_rest f l sv w hl.1 hl.2 hm hs hc
  ·exact Format_slash f l sv w hl.1 hl.2 hm hs hc
 ·exact Format_arg f l sv w hl
end Go.Proofs.YtdpbhjaicgkblaaGreatDoor
/- Zones as plain data: their happenings and transitions. No program in sight. -/
namespace Go.Proofs.YtdpbhjaicgkblaaGreatDoor
set_option linter.unusedSimpArgs false
set_option linter.unusedVariables false
open Go.Sort
structure Typ where
 off : Int
 sv : Int
 nm : ByteArray
theorem Typ.ext_iff' (a b : Typ) : a = b ↔ a.off = b.off ∧ a.sv = b.sv ∧ a.nm = b.nm := by
 cases a; cases b; simp
instance : DecidableEq Typ := fun a b => decidable_of_iff _ (Typ.ext_iff' a b).symm
instance : Inhabited Typ := ⟨⟨0, 0, ⟨#[]⟩⟩⟩
structure Trn where
 at_ : Int
 ty : Typ
instance : Inhabited Trn := ⟨⟨0, default⟩⟩
structure Zn where
 nm : ByteArray
 first : Typ
 table : List Trn
 tail : List Rule
 off : Int
 form : ByteArray
 year : Int
def Zn.lastT (z : Zn) : Typ := if z.table = [] then z.first else (z.table[z.table.length - 1]!).ty
def Zn.rule (z : Zn) (i : Int) : Rule := z.tail[i.toNat]!
def Zn.tyR (z : Zn) (r : Rule) : Typ := ⟨z.off + r.sv, r.sv, (formatF z.form r.lt r.sv).1⟩
def Zn.shift (z : Zn) (s : Int) (r : Rule) : Int := if r.cl = 2 then z.off else if r.cl = 1 then z.off + s else 0
def Zn.hap1 (z : Zn) (s : Int) (x : Int × Int × Int) : Int × Trn := (x.1, ⟨x.2.1 - z.shift s (z.rule x.2.2), z.tyR (z.rule x.2.2)⟩)
def outT (t : Int) : Bool := decide (t < -62135596800 ∨ 253402300800 ≤ t)
def Zn.happ (z : Zn) : Int → List (Int × Int × Int) → List (Int × Trn)
 | _, [] => []
 | s, x :: xs => if outT (z.hap1 s x).2.at_ then z.happ s xs else z.hap1 s x :: z.happ (z.rule x.2.2).sv xs
def Zn.aft (z : Zn) : Int → List (Int × Int × Int) → Int
 | s, [] => s
 | s, x :: xs => if outT (z.hap1 s x).2.at_ then z.aft s xs else z.aft (z.rule x.2.2).sv xs
theorem happ_append (z : Zn) : ∀ (s : Int) (xs ys : List (Int × Int × Int)), z.happ s (xs ++ ys) = z.happ s xs ++ z.happ (z.aft s xs) ys
 | s, [], ys => rfl
 | s, x :: xs, ys => by
  rw [List.cons_append, Zn.happ, Zn.happ, Zn.aft]
  split
  ·exact happ_append z s xs ys
  ·rw [happ_append z _ xs ys]; rfl
def trans : Typ → Bool → List (Int × Trn) → List (Int × Trn)
 | _, _, [] => []
 | b, k, x :: xs => if k = true ∧ x.2.ty ≠ b then x :: trans x.2.ty true xs else trans x.2.ty true xs
def lastTy (b : Typ) (l : List (Int × Trn)) : Typ := if l = [] then b else (l[l.length - 1]!).2.ty
theorem lastTy_cons (b : Typ) (x : Int × Trn) (l : List (Int × Trn)) : lastTy b (x :: l) = lastTy x.2.ty l := by
 unfold lastTy
 by_cases h : l = []
 ·subst h; simp
 ·have : 0 < l.length := List.length_pos_iff.2 h
  rw [if_neg (by simp), if_neg h, List.length_cons, Nat.add_sub_cancel, getElem!_pos (x :: l) l.length (by simp), getElem!_pos l (l.length - 1) (by omega)]
  rw [List.getElem_cons]
  rw [dif_neg (by omega)]
theorem trans_append : ∀ (b : Typ) (k : Bool) (xs ys : List (Int × Trn)), trans b k (xs ++ ys) = trans b k xs ++ trans (lastTy b xs) (k || !xs.isEmpty) ys
 | b, k, [], ys => by simp [trans, lastTy]
 | b, k, x :: xs, ys => by
  rw [List.cons_append, trans, trans, lastTy_cons, trans_append _ true xs ys]
  split <;> simp
theorem trans_sub : ∀ (b : Typ) (k : Bool) (xs : List (Int × Trn)), (trans b k xs).Sublist xs
 | _, _, [] => List.Sublist.refl _
 | b, k, x :: xs => by
  rw [trans]
  split
  ·exact (trans_sub _ _ xs).cons_cons x
  ·exact (trans_sub _ _ xs).cons x
theorem trans_nil : ∀ (b : Typ) (xs : List (Int × Trn)), trans b true xs = [] ↔ ∀ x ∈ xs, x.2.ty = b
 | b, [] => by simp [trans]
 | b, x :: xs => by
  rw [trans]
  by_cases h : x.2.ty = b
  ·rw [if_neg (by simp [h]), trans_nil]
   constructor
   ·intro h2 y hy
    rcases List.mem_cons.1 hy with rfl | hy
    ·exact h
    ·rw [h2 y hy, h]
   ·intro h2 y hy
    rw [h2 y (List.mem_cons_of_mem _ hy), h]
  ·rw [if_pos ⟨rfl, h⟩]
   constructor
   ·intro h2; cases h2
   ·intro h2; exact absurd (h2 x List.mem_cons_self) h
theorem lastTy_same {b : Typ} {xs : List (Int × Trn)} (h : ∀ x ∈ xs, x.2.ty = b) : lastTy b xs = b := by
 unfold lastTy
 split
 ·rfl
 ·rename_i hn
  have : 0 < xs.length := List.length_pos_iff.2 hn
  rw [getElem!_pos xs (xs.length - 1) (by omega)]
  exact h _ (List.getElem_mem _)
def evT (rs : List Rule) (a : Int) : Nat → List (Int × Int × Int)
 | 0 => []
 | n + 1 => evT rs a n ++ (yearF rs (a + n)).map fun x => (a + n, x)
theorem evT_evY (rs : List Rule) (a : Int) : ∀ n, (evT rs a n).map Prod.snd = evY rs a n
 | 0 => rfl
 | n + 1 => by
  rw [evT, evY, List.map_append, evT_evY rs a n, List.map_map]
  congr 1
  exact List.map_id _
theorem evT_add (rs : List Rule) (a : Int) (m : Nat) : ∀ n, evT rs a (m + n) = evT rs a m ++ evT rs (a + m) n
 | 0 => by simp [evT]
 | n + 1 => by
  rw [← Nat.add_assoc, evT, evT_add rs a m n, evT, List.append_assoc]
  congr 2
  rw [show a + ((m + n : Nat) : Int) = a + (m : Int) + (n : Int) by omega]
theorem mem_evT {rs : List Rule} {a : Int} {x : Int × Int × Int} : ∀ {n : Nat}, x ∈ evT rs a n ↔ (a ≤ x.1 ∧ x.1 < a + n) ∧ x.2 ∈ yearF rs x.1
 | 0 => by simp [evT]; omega
 | n + 1 => by
  rw [evT, List.mem_append, mem_evT (n := n), List.mem_map]
  constructor
  ·rintro (⟨h1, h2⟩ | ⟨y, hy, rfl⟩)
   ·exact ⟨⟨h1.1, by omega⟩, h2⟩
   ·exact ⟨⟨by dsimp only; omega, by dsimp only; omega⟩, hy⟩
  ·rintro ⟨h1, h2⟩
   by_cases h3 : x.1 < a + n
   ·exact .inl ⟨⟨h1.1, h3⟩, h2⟩
   ·have h4 : x.1 = a + n := by omega
    exact .inr ⟨x.2, by rw [← h4]; exact h2, by rw [← h4]⟩
theorem mem_evs (y : Int) : ∀ (i : Nat) (rs : List Rule) (x : Int × Int), x ∈ evs y i rs ↔ ∃ j, j < rs.length ∧ x = (((rs[j]!).at y).1, ((i + j : Nat) : Int)) ∧ ((rs[j]!).at y).2 = 0
 | i, [], x => by simp [evs]
 | i, r :: rs, x => by
  rw [evs, List.mem_append, mem_evs y (i + 1) rs x]
  constructor
  ·rintro (h | ⟨j, h1, h2, h3⟩)
   ·unfold ev1 at h
    split at h
    ·rename_i h0
     rw [List.mem_singleton] at h
     exact ⟨0, by simp, by simpa using h, by simpa using h0⟩
    ·cases h
   ·exact ⟨j + 1, by simpa using h1, by rw [h2]; simp; omega, by simpa using h3⟩
  ·rintro ⟨j, h1, h2, h3⟩
   cases j with
   | zero =>
    left
    have h3' : (r.at y).2 = 0 := by simpa using h3
    unfold ev1
    rw [if_pos h3', List.mem_singleton]
    simpa using h2
   | succ j => exact .inr ⟨j, by simpa using h1, by rw [h2]; simp; omega, by simpa using h3⟩
theorem mem_yearI {rs : List Rule} {y : Int} {x : Int × Int} : x ∈ yearF rs y ↔ ∃ j, j < rs.length ∧ x = (((rs[j]!).at y).1, (j : Int)) ∧ ((rs[j]!).at y).2 = 0 := by
 unfold yearF
 rw [(List.mergeSort_perm _ _).mem_iff, mem_evs]
 simp
structure TailOk (z : Zn) : Prop where
 ne : z.tail ≠ []
 y1 : 1 ≤ z.year
 y2 : z.year ≤ 9999
 o1 : -57600 ≤ z.off
 o2 : z.off ≤ 57600
 rv : ∀ r ∈ z.tail, r.valid = true ∧ r.to = 9999 ∧ r.fr ≤ z.year
 far : ∀ y, z.year ≤ y → FarT z.tail y
 s1 : -10800 ≤ z.lastT.sv
 s2 : z.lastT.sv ≤ 10800
def loL (y : Int) : Int := (Cv.first y - 6) * 86400
def hiL (y : Int) : Int := (Cv.first y + 377) * 86400 + 93600
theorem ev_bd {rs : List Rule} {y : Int} {x : Int × Int} (h : x ∈ yearF rs y) : 1 ≤ y ∧ y ≤ 9999 ∧ loL y ≤ x.1 ∧ x.1 ≤ hiL y := by
 obtain ⟨j, hj, rfl, h0⟩ := mem_yearI.1 h
 obtain ⟨_, h1, h2, h3, h4⟩ := at_month h0
 unfold loL hiL
 exact ⟨h1.1, h1.2, by omega, by dsimp only; omega⟩
theorem rule_mem {z : Zn} {y : Int} {x : Int × Int} (h : x ∈ yearF z.tail y) : z.rule x.2 ∈ z.tail := by
 obtain ⟨j, hj, rfl, h0⟩ := mem_yearI.1 h
 unfold Zn.rule
 dsimp only
 rw [Int.toNat_natCast, getElem!_pos z.tail j hj]
 exact List.getElem_mem hj
theorem sv_bd {z : Zn} (ok : TailOk z) {r : Rule} (h : r ∈ z.tail) : -10800 ≤ r.sv ∧ r.sv ≤ 10800 := by
 have := Rule.valid_ok (ok.rv r h).1
 exact ⟨this.sv0, this.sv1⟩
theorem shift_bd {z : Zn} (ok : TailOk z) {s : Int} (hs : -10800 ≤ s ∧ s ≤ 10800) (r : Rule) : -68400 ≤ z.shift s r ∧ z.shift s r ≤ 68400 := by
 have := ok.o1
 have := ok.o2
 unfold Zn.shift
 split
 ·omega
 ·split <;> omega
theorem mem_happ {z : Zn} (ok : TailOk z) : ∀ {s : Int} {xs : List (Int × Int × Int)}, (-10800 ≤ s ∧ s ≤ 10800) → (∀ x ∈ xs, x.2 ∈ yearF z.tail x.1) → ∀ t ∈ z.happ s xs, ∃ x ∈ xs, t.1 = x.1 ∧ t.2.ty = z.tyR (z.rule x.2.2) ∧ x.2.1 - 68400 ≤ t.2.at_ ∧ t.2.at_ ≤ x.2.1 + 68400 ∧ -62135596800 ≤ t.2.at_ ∧ t.2.at_ < 253402300800
 | s, [], _, _ => fun t ht => by cases ht
 | s, x :: xs, hs, hx => fun t ht => by
  rw [Zn.happ] at ht
  have hr := rule_mem (hx x List.mem_cons_self)
  have hxs : ∀ x ∈ xs, x.2 ∈ yearF z.tail x.1 := fun y hy => hx y (List.mem_cons_of_mem _ hy)
  have hb := shift_bd ok hs (z.rule x.2.2)
  split at ht
  ·obtain ⟨y, hy, h⟩ := mem_happ ok hs hxs t ht
   exact ⟨y, List.mem_cons_of_mem _ hy, h⟩
  ·rename_i ho
   rcases List.mem_cons.1 ht with rfl | ht
   ·refine ⟨x, List.mem_cons_self, rfl, rfl, ?_⟩
    unfold outT at ho
    simp only [decide_eq_true_eq] at ho
    unfold Zn.hap1 at *
    dsimp only at *
    omega
   ·obtain ⟨y, hy, h⟩ := mem_happ ok (sv_bd ok hr) hxs t ht
    exact ⟨y, List.mem_cons_of_mem _ hy, h⟩
theorem aft_bd {z : Zn} (ok : TailOk z) : ∀ {s : Int} {xs : List (Int × Int × Int)}, (-10800 ≤ s ∧ s ≤ 10800) → (∀ x ∈ xs, x.2 ∈ yearF z.tail x.1) → -10800 ≤ z.aft s xs ∧ z.aft s xs ≤ 10800
 | s, [], hs, _ => hs
 | s, x :: xs, hs, hx => by
  rw [Zn.aft]
  have hr := rule_mem (hx x List.mem_cons_self)
  have hxs : ∀ x ∈ xs, x.2 ∈ yearF z.tail x.1 := fun y hy => hx y (List.mem_cons_of_mem _ hy)
  split
  ·exact aft_bd ok hs hxs
  ·exact aft_bd ok (sv_bd ok hr) hxs
def Asc (a b : Int × Trn) : Prop := a.1 ≤ b.1 ∧ a.2.at_ < b.2.at_
def farT (a b : Int × Int × Int) : Prop := a.1 ≤ b.1 ∧ 604800 ≤ b.2.1 - a.2.1
theorem evT_far {rs : List Rule} {a : Int} (h : ∀ y, a ≤ y → FarT rs y) : ∀ n, (evT rs a n).Pairwise farT
 | 0 => List.Pairwise.nil
 | n + 1 => by
  rw [evT, List.pairwise_append]
  refine ⟨evT_far h n, ?_, fun x hx z hz => ?_⟩
  ·rw [List.pairwise_map]
   exact ((year_far _ _).2 (h (a + n) (by omega)).1).imp fun h => ⟨Int.le_refl _, h⟩
  ·obtain ⟨h1, hx2⟩ := mem_evT.1 hx
   obtain ⟨y, hy, rfl⟩ := List.mem_map.1 hz
   refine ⟨by dsimp only; omega, ?_⟩
   dsimp only
   have h2 := mem_yearF hx2
   have h3 := mem_yearF hy
   by_cases hn : x.1 + 1 = a + n
   ·exact (h x.1 h1.1).2 _ h2 _ (by rw [hn]; exact h3)
   ·obtain ⟨r, _, h5, h6⟩ := mem_tms.1 h2
    obtain ⟨q, _, h7, h8⟩ := mem_tms.1 h3
    rw [← h6, ← h8]
    exact at_farN (by omega) h5 h7
theorem evT_in {rs : List Rule} {a : Int} {n : Nat} : ∀ x ∈ evT rs a n, x.2 ∈ yearF rs x.1 := fun _ hx => (mem_evT.1 hx).2
theorem happ_asc {z : Zn} (ok : TailOk z) : ∀ {s : Int} {xs : List (Int × Int × Int)}, (-10800 ≤ s ∧ s ≤ 10800) → (∀ x ∈ xs, x.2 ∈ yearF z.tail x.1) → xs.Pairwise farT → (z.happ s xs).Pairwise Asc
 | s, [], _, _, _ => List.Pairwise.nil
 | s, x :: xs, hs, hx, hp => by
  rw [Zn.happ]
  have hr := rule_mem (hx x List.mem_cons_self)
  have hxs : ∀ x ∈ xs, x.2 ∈ yearF z.tail x.1 := fun y hy => hx y (List.mem_cons_of_mem _ hy)
  obtain ⟨h1, h2⟩ := List.pairwise_cons.1 hp
  split
  ·exact happ_asc ok hs hxs h2
  ·refine List.pairwise_cons.2 ⟨fun t ht => ?_, happ_asc ok (sv_bd ok hr) hxs h2⟩
   obtain ⟨y, hy, g1, _, g2, _⟩ := mem_happ ok (sv_bd ok hr) hxs t ht
   have h3 := h1 y hy
   have hb := shift_bd ok hs (z.rule x.2.2)
   unfold farT at h3
   unfold Asc Zn.hap1
   dsimp only
   omega
end Go.Proofs.YtdpbhjaicgkblaaGreatDoor
/- The transitions of a tail, and what the windows of some years show of them. No program in sight. -/
namespace Go.Proofs.YtdpbhjaicgkblaaGreatDoor
set_option linter.unusedSimpArgs false
set_option linter.unusedVariables false
open Go.Sort
theorem leap_in (u : Int) : ∃ y, u ≤ y ∧ y ≤ u + 7 ∧ y % 4 = 0 ∧ (y % 100 ≠ 0 ∨ y % 400 = 0) := by
 by_cases h : (u + (-u) % 4) % 100 = 0
 ·exact ⟨u + (-u) % 4 + 4, by omega, by omega, by omega, by omega⟩
 ·exact ⟨u + (-u) % 4, by omega, by omega, by omega, .inl h⟩
theorem fitsB_d {mo k wk d : Int} (h : Cv.fitsB mo k wk d = true) (hk : k ≠ 2) : 1 ≤ d ∧ d ≤ Cv.mlen 2000 mo := by
 have hm := Cv.fitsB_mo h
 have hl := Cv.lenF_in (y := 2000) (m := mo) ⟨by omega, by omega, hm.1, hm.2⟩
 unfold Cv.fitsB Cv.dayB at h
 rw [hl] at h
 repeat' split at h
 all_goals first | (cases h; done) | omega | (simp at h; omega)
theorem at_in {r : Rule} {y : Int} (hv : r.valid = true) (h : r.fr ≤ y ∧ y ≤ r.to) (hy : 2 ≤ y ∧ y ≤ 9998) (hl : Cv.leapB y = true) : (r.at y).2 = 0 := by
 rw [at_zero_iff]
 refine ⟨hv, ?_⟩
 have ho := Rule.valid_ok hv
 have hm := Cv.fitsB_mo ho.fits
 have hml := Cv.mlen_bd y r.mo
 have hle : Cv.mlen y r.mo = Cv.mlen 2000 r.mo := by
  unfold Cv.mlen
  rw [hl, show Cv.leapB 2000 = true by decide]
 have hwk : r.k ≠ 1 → 1 ≤ r.wk ∧ r.wk ≤ 7 := fun hk => Cv.fitsB_wk ho.fits hk
 have hvb : Cv.validB y r.mo (Cv.onN y r.mo r.k r.d) = true := by
  rw [Cv.validB_iff]
  refine ⟨by omega, by omega, hm.1, hm.2, ?_⟩
  unfold Cv.onN
  split
  ·rw [Cv.lenF_in ⟨by omega, by omega, hm.1, hm.2⟩]; omega
  ·rename_i hk
   have := fitsB_d ho.fits hk
   omega
 have h1 := Cv.onDay_bd (k := r.k) (wk := r.wk) (day := Cv.count y r.mo (Cv.onN y r.mo r.k r.d)) hwk
 have h2 := count_month hvb
 have f0 := first_year (y := y - 1) ⟨by omega, by omega⟩
 have f1 := Cv.first_bd (y := y - 1) (by omega) (by omega)
 have f2 := Cv.first_bd (y := y) (by omega) (by omega)
 rw [show y - 1 + 1 = y by omega] at f0
 have hin : Cv.insideB (Cv.onDay r.k r.wk (Cv.count y r.mo (Cv.onN y r.mo r.k r.d))) = true := by
  unfold Cv.insideB
  rw [decide_eq_true_eq]
  omega
 unfold Rule.has Rule.day Cv.dayF
 rw [if_neg (by simp [ho.fits]), if_neg (by omega), if_neg (by simp [hvb]), if_neg (by simp [hin])]
 simp
 omega
theorem rule_has {z : Zn} (ok : TailOk z) {u : Int} (hu : z.year ≤ u) (hu2 : 2 ≤ u) (hu8 : u + 7 ≤ 9998) {j : Nat} (hj : j < z.tail.length) : ∃ y, u ≤ y ∧ y ≤ u + 7 ∧ ((z.tail[j]!).at y).2 = 0 := by
 obtain ⟨y, h1, h2, h3, h4⟩ := leap_in u
 have hm : z.tail[j]! ∈ z.tail := by rw [getElem!_pos z.tail j hj]; exact List.getElem_mem hj
 obtain ⟨g1, g2, g3⟩ := ok.rv _ hm
 refine ⟨y, h1, h2, at_in g1 ⟨by omega, by omega⟩ ⟨by omega, by omega⟩ ?_⟩
 rw [Cv.leapB_iff ⟨by omega, by omega⟩]
 simp [h3]
 omega
theorem evT_rule {z : Zn} (ok : TailOk z) {u : Int} {n : Nat} (hu : z.year ≤ u) (hu2 : 2 ≤ u) (hn : 8 ≤ n) (hu8 : u + 7 ≤ 9998) {r : Rule} (hr : r ∈ z.tail) : ∃ x ∈ evT z.tail u n, x.1 ≤ u + 7 ∧ z.rule x.2.2 = r := by
 obtain ⟨j, hj, rfl⟩ := List.getElem_of_mem hr
 obtain ⟨y, h1, h2, h3⟩ := rule_has ok hu hu2 hu8 hj
 refine ⟨(y, ((z.tail[j]!).at y).1, (j : Int)), mem_evT.2 ⟨⟨h1, by dsimp only; omega⟩, mem_yearI.2 ⟨j, hj, rfl, h3⟩⟩, h2, ?_⟩
 unfold Zn.rule
 dsimp only
 rw [Int.toNat_natCast, getElem!_pos z.tail j hj]
theorem ev_kept {z : Zn} (ok : TailOk z) {s : Int} (hs : -10800 ≤ s ∧ s ≤ 10800) {x : Int × Int × Int} (hx : x.2 ∈ yearF z.tail x.1) (h2 : 2 ≤ x.1) (h3 : x.1 ≤ 9998) : outT (z.hap1 s x).2.at_ = false := by
 obtain ⟨_, _, h4, h5⟩ := ev_bd hx
 have hb := shift_bd ok hs (z.rule x.2.2)
 have f0 := first_year (y := x.1 - 1) ⟨by omega, by omega⟩
 have f1 := Cv.first_bd (y := x.1 - 1) (by omega) (by omega)
 have f2 := Cv.first_bd (y := x.1) (by omega) (by omega)
 rw [show x.1 - 1 + 1 = x.1 by omega] at f0
 unfold loL at h4
 unfold hiL at h5
 unfold outT Zn.hap1
 rw [decide_eq_false_iff_not]
 dsimp only
 omega
theorem mem_happ_of {z : Zn} (ok : TailOk z) : ∀ {s : Int} {xs : List (Int × Int × Int)}, (-10800 ≤ s ∧ s ≤ 10800) → (∀ x ∈ xs, x.2 ∈ yearF z.tail x.1) → ∀ x ∈ xs, 2 ≤ x.1 → x.1 ≤ 9998 → ∃ t ∈ z.happ s xs, t.1 = x.1 ∧ t.2.ty = z.tyR (z.rule x.2.2)
 | s, [], _, _ => fun x hx => by cases hx
 | s, y :: xs, hs, hx => fun x hm h2 h3 => by
  have hr := rule_mem (hx y List.mem_cons_self)
  have hxs : ∀ x ∈ xs, x.2 ∈ yearF z.tail x.1 := fun y hy => hx y (List.mem_cons_of_mem _ hy)
  rw [Zn.happ]
  rcases List.mem_cons.1 hm with rfl | hm
  ·rw [ev_kept ok hs (hx x List.mem_cons_self) h2 h3, if_neg (by decide)]
   exact ⟨_, List.mem_cons_self, rfl, rfl⟩
  ·split
   ·exact mem_happ_of ok hs hxs x hm h2 h3
   ·obtain ⟨t, ht, h⟩ := mem_happ_of ok (sv_bd ok hr) hxs x hm h2 h3
    exact ⟨t, List.mem_cons_of_mem _ ht, h⟩
def Zn.HF (z : Zn) : List (Int × Trn) := z.happ z.lastT.sv (evT z.tail z.year (10000 - z.year).toNat)
def Zn.TT (z : Zn) : List (Int × Trn) := trans z.lastT true z.HF
def Zn.start (z : Zn) (f : Int) : Int := if f - 9 ≤ z.year then z.year else f - 9
def Zn.winW (z : Zn) (f t : Int) : List (Int × Trn) := trans z.lastT (z.start f == z.year) (z.happ z.lastT.sv (evT z.tail (z.start f) (t - z.start f + 1).toNat))
theorem HF_asc {z : Zn} (ok : TailOk z) : z.HF.Pairwise Asc := happ_asc ok ⟨ok.s1, ok.s2⟩ evT_in (evT_far (fun y hy => ok.far y hy) _)
theorem TT_asc {z : Zn} (ok : TailOk z) : z.TT.Pairwise Asc := (HF_asc ok).sublist (trans_sub _ _ _)
theorem happ_yr {z : Zn} (ok : TailOk z) {s a : Int} {n : Nat} (hs : -10800 ≤ s ∧ s ≤ 10800) : ∀ x ∈ z.happ s (evT z.tail a n), a ≤ x.1 ∧ x.1 < a + n := fun x hx => by
 obtain ⟨y, hy, h1, _⟩ := mem_happ ok hs evT_in x hx
 have := (mem_evT.1 hy).1
 omega
theorem TT_bd {z : Zn} (ok : TailOk z) {x : Int × Trn} (hx : x ∈ z.TT) : z.year ≤ x.1 ∧ x.1 ≤ 9999 ∧ loL x.1 - 68400 ≤ x.2.at_ ∧ x.2.at_ ≤ hiL x.1 + 68400 ∧ -62135596800 ≤ x.2.at_ ∧ x.2.at_ < 253402300800 := by
 have hx2 := (trans_sub _ _ _).subset hx
 obtain ⟨y, hy, h1, _, h2, h3, h4, h5⟩ := mem_happ ok ⟨ok.s1, ok.s2⟩ evT_in x hx2
 obtain ⟨h6, h7⟩ := mem_evT.1 hy
 obtain ⟨_, h8, h9, h10⟩ := ev_bd h7
 rw [h1]
 exact ⟨h6.1, h8, by omega, by omega, h4, h5⟩
theorem seg {z : Zn} (ok : TailOk z) {f t : Int} (h1 : z.year ≤ f) (h2 : f ≤ t) (h3 : t ≤ 9999) :
  ∃ P S, z.TT = P ++ z.winW f t ++ S ∧ (∀ p ∈ P, p.1 ≤ f - 1) ∧ (∀ s ∈ S, t + 1 ≤ s.1) ∧ (∀ x ∈ z.winW f t, x.1 ≤ t) := by
 have y1 := ok.y1
 have y2 := ok.y2
 have hs0 : -10800 ≤ z.lastT.sv ∧ z.lastT.sv ≤ 10800 := ⟨ok.s1, ok.s2⟩
 unfold Zn.TT Zn.HF Zn.winW Zn.start
 by_cases hst : f - 9 ≤ z.year
 ·rw [if_pos hst, beq_self_eq_true]
  have e1 : (10000 - z.year).toNat = (t - z.year + 1).toNat + (9999 - t).toNat := by omega
  rw [e1, evT_add, happ_append, trans_append]
  have hs1 := aft_bd ok hs0 (evT_in (rs := z.tail) (a := z.year) (n := (t - z.year + 1).toNat))
  refine ⟨[], trans (lastTy z.lastT (z.happ z.lastT.sv (evT z.tail z.year (t - z.year + 1).toNat))) true (z.happ (z.aft z.lastT.sv (evT z.tail z.year (t - z.year + 1).toNat)) (evT z.tail (z.year + ((t - z.year + 1).toNat : Int)) (9999 - t).toNat)), (by simp), (fun p hp => by cases hp), fun x hx => ?_, fun x hx => ?_⟩
  ·have := happ_yr ok hs1 x ((trans_sub _ _ _).subset hx)
   omega
  ·have := happ_yr ok hs0 x ((trans_sub _ _ _).subset hx)
   omega
 ·rw [if_neg hst]
  have e1 : (10000 - z.year).toNat = (f - 9 - z.year).toNat + ((t - (f - 9) + 1).toNat + (9999 - t).toNat) := by omega
  have hne : ∃ x0 rest, evT z.tail (f - 9) (t - (f - 9) + 1).toNat = x0 :: rest ∧ x0.1 ≤ f - 1 ∧ f - 9 ≤ x0.1 ∧ x0.2 ∈ yearF z.tail x0.1 := by
   have e2 : (t - (f - 9) + 1).toNat = 8 + (t - f + 2).toNat := by omega
   rw [e2, evT_add]
   obtain ⟨r, hr⟩ := List.exists_mem_of_ne_nil _ ok.ne
   obtain ⟨x, hx, _⟩ := evT_rule ok (u := f - 9) (n := 8) (by omega) (by omega) (Nat.le_refl _) (by omega) hr
   match hev : evT z.tail (f - 9) 8, hx with
   | x0 :: rest, _ =>
    have hm : x0 ∈ evT z.tail (f - 9) 8 := by rw [hev]; exact List.mem_cons_self
    obtain ⟨g1, g2⟩ := mem_evT.1 hm
    exact ⟨x0, _, rfl, by omega, by omega, g2⟩
  obtain ⟨x0, rest, hx, hx1, hx2, hx3⟩ := hne
  have hrest : ∀ x ∈ x0 :: rest, (f - 9 ≤ x.1 ∧ x.1 ≤ t) ∧ x.2 ∈ yearF z.tail x.1 := fun x hm => by
   rw [← hx] at hm
   obtain ⟨g1, g2⟩ := mem_evT.1 hm
   exact ⟨by omega, g2⟩
  rw [e1, evT_add, evT_add, show z.year + ((f - 9 - z.year).toNat : Int) = f - 9 by omega, show f - 9 + ((t - (f - 9) + 1).toNat : Int) = t + 1 by omega, happ_append, happ_append, hx]
  have hsA := aft_bd ok hs0 (evT_in (rs := z.tail) (a := z.year) (n := (f - 9 - z.year).toNat))
  have hsB := aft_bd ok hsA (xs := x0 :: rest) fun x hm => (hrest x hm).2
  have hA : ∀ x ∈ z.happ z.lastT.sv (evT z.tail z.year (f - 9 - z.year).toNat), x.1 ≤ f - 10 := fun x hm => by have := happ_yr ok hs0 x hm; omega
  generalize z.happ z.lastT.sv (evT z.tail z.year (f - 9 - z.year).toNat) = A at *
  generalize z.aft z.lastT.sv (evT z.tail z.year (f - 9 - z.year).toNat) = sA at *
  have hC : ∀ x ∈ z.happ (z.aft sA (x0 :: rest)) (evT z.tail (t + 1) (9999 - t).toNat), t + 1 ≤ x.1 := fun x hm => (happ_yr ok hsB x hm).1
  generalize z.happ (z.aft sA (x0 :: rest)) (evT z.tail (t + 1) (9999 - t).toNat) = C at *
  rw [Zn.happ, Zn.happ, ev_kept ok hsA hx3 (by omega) (by omega), ev_kept ok hs0 hx3 (by omega) (by omega), if_neg (by decide), if_neg (by decide), show (f - 9 == z.year) = false from beq_eq_false_iff_ne.2 (by omega)]
  have hR : ∀ x ∈ z.happ (z.rule x0.2.2).sv rest, x.1 ≤ t := fun x hm => by
   obtain ⟨y, hy, g1, _⟩ := mem_happ ok (sv_bd ok (rule_mem hx3)) (fun x hm => (hrest x (List.mem_cons_of_mem _ hm)).2) x hm
   have := (hrest y (List.mem_cons_of_mem _ hy)).1
   omega
  generalize z.happ (z.rule x0.2.2).sv rest = R at *
  have e5 : ∀ (b : Typ) (x : Int × Trn) (R : List (Int × Trn)), trans b false (x :: R) = trans x.2.ty true R := fun b x R => by rw [trans, if_neg (by simp)]
  have e6 : ∀ (b : Typ) (x : Int × Trn) (R : List (Int × Trn)), trans b true (x :: R) = (if x.2.ty ≠ b then [x] else []) ++ trans x.2.ty true R := fun b x R => by
   rw [trans]
   by_cases hx : x.2.ty = b <;> simp [hx]
  rw [trans_append, trans_append]
  simp only [Bool.true_or]
  rw [e5, e6]
  have ht : (z.hap1 sA x0).2.ty = (z.hap1 z.lastT.sv x0).2.ty := rfl
  have hy : (z.hap1 sA x0).1 = x0.1 := rfl
  rw [← ht]
  refine ⟨trans z.lastT true A ++ (if (z.hap1 sA x0).2.ty ≠ lastTy z.lastT A then [z.hap1 sA x0] else []), trans (lastTy (lastTy z.lastT A) (z.hap1 sA x0 :: R)) true C, (by simp only [List.append_assoc]), fun p hp => ?_, fun x hm => hC x ((trans_sub _ _ _).subset hm), fun x hm => hR x ((trans_sub _ _ _).subset hm)⟩
  rcases List.mem_append.1 hp with hp | hp
  ·have := hA p ((trans_sub _ _ _).subset hp); omega
  ·split at hp
   ·rw [List.mem_singleton] at hp; subst hp; omega
   ·cases hp
theorem quiet_after {z : Zn} (ok : TailOk z) {u v : Int} (hu : z.year ≤ u) (hu2 : 2 ≤ u) (huv : u + 7 ≤ v) (hv : v ≤ 9998) (h : ∀ x ∈ z.TT, ¬ (u ≤ x.1 ∧ x.1 ≤ v)) : (∀ x ∈ z.TT, x.1 ≤ u - 1) ∧ ∃ c, ∀ r ∈ z.tail, z.tyR r = c := by
 have hs0 : -10800 ≤ z.lastT.sv ∧ z.lastT.sv ≤ 10800 := ⟨ok.s1, ok.s2⟩
 unfold Zn.TT Zn.HF at *
 have e1 : (10000 - z.year).toNat = (u - z.year).toNat + ((v - u + 1).toNat + (9999 - v).toNat) := by omega
 rw [e1, evT_add, evT_add, show z.year + ((u - z.year).toNat : Int) = u by omega, show u + ((v - u + 1).toNat : Int) = v + 1 by omega, happ_append, happ_append] at h ⊢
 have hsA := aft_bd ok hs0 (evT_in (rs := z.tail) (a := z.year) (n := (u - z.year).toNat))
 have hA : ∀ x ∈ z.happ z.lastT.sv (evT z.tail z.year (u - z.year).toNat), x.1 ≤ u - 1 := fun x hm => by have := happ_yr ok hs0 x hm; omega
 generalize z.happ z.lastT.sv (evT z.tail z.year (u - z.year).toNat) = A at *
 generalize z.aft z.lastT.sv (evT z.tail z.year (u - z.year).toNat) = sA at *
 have hsB := aft_bd ok hsA (evT_in (rs := z.tail) (a := u) (n := (v - u + 1).toNat))
 have hB : ∀ x ∈ z.happ sA (evT z.tail u (v - u + 1).toNat), u ≤ x.1 ∧ x.1 ≤ v := fun x hm => by have := happ_yr ok hsA x hm; omega
 have hBr : ∀ r ∈ z.tail, ∃ t ∈ z.happ sA (evT z.tail u (v - u + 1).toNat), t.2.ty = z.tyR r := fun r hr => by
  obtain ⟨x, hx, h1, h2⟩ := evT_rule ok (u := u) (n := (v - u + 1).toNat) hu hu2 (by omega) (by omega) hr
  have h3 := (mem_evT.1 hx).1
  obtain ⟨t, ht, _, h4⟩ := mem_happ_of ok hsA evT_in x hx (by omega) (by omega)
  exact ⟨t, ht, by rw [h4, h2]⟩
 generalize z.happ sA (evT z.tail u (v - u + 1).toNat) = B at *
 have hCt : ∀ x ∈ z.happ (z.aft sA (evT z.tail u (v - u + 1).toNat)) (evT z.tail (v + 1) (9999 - v).toNat), ∃ r ∈ z.tail, x.2.ty = z.tyR r := fun x hm => by
  obtain ⟨y, hy, _, h1, _⟩ := mem_happ ok hsB evT_in x hm
  exact ⟨_, rule_mem (mem_evT.1 hy).2, h1⟩
 generalize z.happ (z.aft sA (evT z.tail u (v - u + 1).toNat)) (evT z.tail (v + 1) (9999 - v).toNat) = C at *
 rw [trans_append, trans_append] at h ⊢
 simp only [Bool.true_or] at h ⊢
 have hnil : trans (lastTy z.lastT A) true B = [] := by
  rw [List.eq_nil_iff_forall_not_mem]
  intro x hm
  exact h x (List.mem_append_right _ (List.mem_append_left _ hm)) (hB x ((trans_sub _ _ _).subset hm))
 have hsame := (trans_nil _ _).1 hnil
 have hc : ∀ r ∈ z.tail, z.tyR r = lastTy z.lastT A := fun r hr => by
  obtain ⟨t, ht, h1⟩ := hBr r hr
  rw [← h1]; exact hsame t ht
 refine ⟨?_, _, hc⟩
 rw [hnil, lastTy_same hsame]
 have hCn : trans (lastTy z.lastT A) true C = [] := (trans_nil _ _).2 fun x hm => by
  obtain ⟨r, hr, h1⟩ := hCt x hm
  rw [h1]; exact hc r hr
 rw [hCn]
 intro x hm
 simp at hm
 exact hA x ((trans_sub _ _ _).subset hm)
theorem same_all {z : Zn} (ok : TailOk z) {c : Typ} (h : ∀ r ∈ z.tail, z.tyR r = c) (hz : z.year + 9 ≤ 9998) : z.TT = z.winW z.year (z.year + 9) := by
 have y1 := ok.y1
 have hs0 : -10800 ≤ z.lastT.sv ∧ z.lastT.sv ≤ 10800 := ⟨ok.s1, ok.s2⟩
 unfold Zn.TT Zn.HF Zn.winW Zn.start
 rw [if_pos (by omega), beq_self_eq_true]
 have e1 : (10000 - z.year).toNat = (z.year + 9 - z.year + 1).toNat + (9990 - z.year).toNat := by omega
 rw [e1, evT_add, happ_append, trans_append]
 have hs1 := aft_bd ok hs0 (evT_in (rs := z.tail) (a := z.year) (n := (z.year + 9 - z.year + 1).toNat))
 have hB : ∀ x ∈ z.happ z.lastT.sv (evT z.tail z.year (z.year + 9 - z.year + 1).toNat), x.2.ty = c := fun x hm => by
  obtain ⟨y, hy, _, h1, _⟩ := mem_happ ok hs0 evT_in x hm
  rw [h1]; exact h _ (rule_mem (mem_evT.1 hy).2)
 have hBn : z.happ z.lastT.sv (evT z.tail z.year (z.year + 9 - z.year + 1).toNat) ≠ [] := by
  obtain ⟨r, hr⟩ := List.exists_mem_of_ne_nil _ ok.ne
  obtain ⟨x, hx, h1, _⟩ := evT_rule ok (u := z.year + 1) (n := 8) (by omega) (by omega) (Nat.le_refl _) (by omega) hr
  obtain ⟨h2, h3⟩ := mem_evT.1 hx
  obtain ⟨t, ht, _⟩ := mem_happ_of ok hs0 (evT_in (rs := z.tail) (a := z.year) (n := (z.year + 9 - z.year + 1).toNat)) x (mem_evT.2 ⟨by omega, h3⟩) (by omega) (by omega)
  exact List.ne_nil_of_mem ht
 have hC : ∀ x ∈ z.happ (z.aft z.lastT.sv (evT z.tail z.year (z.year + 9 - z.year + 1).toNat)) (evT z.tail (z.year + ((z.year + 9 - z.year + 1).toNat : Int)) (9990 - z.year).toNat), x.2.ty = c := fun x hm => by
  obtain ⟨y, hy, _, h1, _⟩ := mem_happ ok hs1 evT_in x hm
  rw [h1]; exact h _ (rule_mem (mem_evT.1 hy).2)
 generalize z.happ z.lastT.sv (evT z.tail z.year (z.year + 9 - z.year + 1).toNat) = B at *
 have hl : lastTy z.lastT B = c := by
  unfold lastTy
  rw [if_neg hBn]
  have : 0 < B.length := List.length_pos_iff.2 hBn
  rw [getElem!_pos B (B.length - 1) (by omega)]
  exact hB _ (List.getElem_mem _)
 rw [hl]
 simp only [Bool.true_or]
 rw [(trans_nil c _).2 hC, List.append_nil]
/-! ### the year of an instant -/
structure YearOf (t Y : Int) : Prop where
 y1 : 1 ≤ Y
 y2 : Y ≤ 9999
 lo : Cv.first Y * 86400 ≤ t
 hi : t < Cv.first (Y + 1) * 86400
theorem TT_later {z : Zn} (ok : TailOk z) {t Y : Int} (hY : YearOf t Y) {x : Int × Trn} (hx : x ∈ z.TT) (h : Y + 2 ≤ x.1) : t < x.2.at_ := by
 obtain ⟨_, h2, h3, _⟩ := TT_bd ok hx
 have h1 := hY.y1
 have h4 := hY.hi
 have f1 := first_many (y := Y + 1) (by omega) (x.1 - (Y + 1)).toNat (by omega)
 rw [show Y + 1 + ((x.1 - (Y + 1)).toNat : Int) = x.1 by omega] at f1
 unfold loL at h3
 omega
theorem TT_earlier {z : Zn} (ok : TailOk z) {t Y : Int} (hY : YearOf t Y) {x : Int × Trn} (hx : x ∈ z.TT) (h : x.1 ≤ Y - 2) : x.2.at_ < t := by
 obtain ⟨h0, h2, _, h3, _⟩ := TT_bd ok hx
 have h1 := hY.y2
 have h4 := hY.lo
 have h5 := ok.y1
 have f1 := first_many (y := x.1) (by omega) (Y - x.1).toNat (by omega)
 rw [show x.1 + ((Y - x.1).toNat : Int) = Y by omega] at f1
 unfold hiL at h3
 omega
/-! ### the last transition -/
def Zn.prevT (z : Zn) (t : Int) : Option (Int × Trn) := z.TT.reverse.find? fun x => decide (x.2.at_ ≤ t)
theorem last_hit {z : Zn} (ok : TailOk z) {t f e : Int} (h1 : z.year ≤ f) (h2 : f ≤ e) (h3 : e ≤ 9999) (hb : ∀ x ∈ z.TT, e + 1 ≤ x.1 → t < x.2.at_) {x : Int × Trn} (hx : (z.winW f e).reverse.find? (fun x => decide (x.2.at_ ≤ t)) = some x) : z.prevT t = some x := by
 obtain ⟨P, S, hT, hP, hS, _⟩ := seg ok h1 h2 h3
 unfold Zn.prevT
 rw [hT, List.reverse_append, List.reverse_append, List.find?_append, List.find?_append, hx]
 have : S.reverse.find? (fun x => decide (x.2.at_ ≤ t)) = none := List.find?_eq_none.2 fun p hp => by
  have hp := List.mem_reverse.1 hp
  have := hb p (by rw [hT]; simp [hp]) (hS p hp)
  simp; omega
 rw [this]; rfl
theorem last_miss {z : Zn} (ok : TailOk z) {t f e : Int} (h1 : z.year ≤ f) (h2 : f ≤ e) (h3 : e ≤ 9999) (hb : ∀ x ∈ z.TT, e + 1 ≤ x.1 → t < x.2.at_) (hx : (z.winW f e).reverse.find? (fun x => decide (x.2.at_ ≤ t)) = none) : ∀ x ∈ z.TT, f ≤ x.1 → t < x.2.at_ := by
 obtain ⟨P, S, hT, hP, hS, _⟩ := seg ok h1 h2 h3
 intro x hm he
 have hm2 := hm
 rw [hT] at hm
 rcases List.mem_append.1 hm with hm | hm
 ·rcases List.mem_append.1 hm with hm | hm
  ·have := hP x hm; omega
  ·have := List.find?_eq_none.1 hx x (List.mem_reverse.2 hm)
   simpa using this
 ·exact hb x hm2 (hS x hm)
theorem last_end {z : Zn} (ok : TailOk z) {t Y y0 : Int} (hY : YearOf t Y) (hy : y0 = min 9999 (Y + 1)) (hb : ∀ x ∈ z.TT, y0 - 26 ≤ x.1 → t < x.2.at_) : z.prevT t = (z.winW z.year (min (z.year + 9) 9999)).reverse.find? fun x => decide (x.2.at_ ≤ t) := by
 have y1 := hY.y1
 have y2 := hY.y2
 have z1 := ok.y1
 have z2 := ok.y2
 by_cases hc : y0 - 26 ≤ z.year
 ·have h0 : ∀ x ∈ z.TT, t < x.2.at_ := fun x hx => hb x hx (by have := (TT_bd ok hx).1; omega)
  obtain ⟨P, S, hT, _⟩ := seg ok (f := z.year) (t := min (z.year + 9) 9999) (by omega) (by omega) (by omega)
  unfold Zn.prevT
  rw [List.find?_eq_none.2 fun x hx => by have := h0 x (List.mem_reverse.1 hx); simp; omega]
  rw [List.find?_eq_none.2 fun x hx => by have := h0 x (by rw [hT]; simp [List.mem_reverse.1 hx]); simp; omega]
 ·have hq := quiet_after ok (u := y0 - 26) (v := Y - 2) (by omega) (by omega) (by omega) (by omega) fun x hx h => by
   have h1 := hb x hx h.1
   have h2 := TT_earlier ok hY hx h.2
   omega
  obtain ⟨c, hc2⟩ := hq.2
  unfold Zn.prevT
  rw [same_all ok hc2 (by omega), show min (z.year + 9) 9999 = z.year + 9 by omega]
end Go.Proofs.YtdpbhjaicgkblaaGreatDoor
/- Spaced, for rules that are endless from one year on: dates and weekdays repeat. No program in sight. -/
namespace Go.Proofs.YtdpbhjaicgkblaaGreatDoor
set_option linter.unusedSimpArgs false
set_option linter.unusedVariables false
open Go.Sort
theorem leap_per (y k : Int) (h : 1 ≤ y ∧ y ≤ 9999) (h2 : 1 ≤ y + 400 * k ∧ y + 400 * k ≤ 9999) : Cv.leapB (y + 400 * k) = Cv.leapB y := by
 rw [Cv.leapB_iff h, Cv.leapB_iff h2, show (y + 400 * k) % 4 = y % 4 by omega, show (y + 400 * k) % 100 = y % 100 by omega, show (y + 400 * k) % 400 = y % 400 by omega]
theorem mlen_per (y k m : Int) (h : 1 ≤ y ∧ y ≤ 9999) (h2 : 1 ≤ y + 400 * k ∧ y + 400 * k ≤ 9999) : Cv.mlen (y + 400 * k) m = Cv.mlen y m := by
 unfold Cv.mlen
 rw [leap_per y k h h2]
theorem count_per (y k m d : Int) : Cv.count (y + 400 * k) m d = Cv.count y m d + 146097 * k := by
 unfold Cv.count Cv.cnt
 split <;> omega
theorem onDay_per (c wk day k : Int) : Cv.onDay c wk (day + 146097 * k) = Cv.onDay c wk day + 146097 * k := by
 have hw : Cv.wd (day + 146097 * k) = Cv.wd day := by unfold Cv.wd; omega
 unfold Cv.onDay
 rw [hw]
 split
 ·rfl
 ·split <;> omega
theorem at_per {r : Rule} {y k : Int} (hk : 0 ≤ k) (hf : r.fr ≤ y) (hy : 3 ≤ y) (hy2 : y ≤ 9998) (h : (r.at (y + 400 * k)).2 = 0) : (r.at y).2 = 0 ∧ (r.at (y + 400 * k)).1 = (r.at y).1 + 146097 * 86400 * k := by
 obtain ⟨hv, hh, hl⟩ := at_zero h
 have ho := Rule.valid_ok hv
 have hm := Cv.fitsB_mo ho.fits
 have f2 := ho.max
 have f1 := ho.fr
 have hwk : r.k ≠ 1 → 1 ≤ r.wk ∧ r.wk ≤ 7 := fun hk => Cv.fitsB_wk ho.fits hk
 have hh0 := hh
 unfold Rule.has at hh
 simp only [Bool.and_eq_true, decide_eq_true_eq, beq_iff_eq] at hh
 obtain ⟨⟨g1, g2⟩, g3⟩ := hh
 have hyk : 1 ≤ y + 400 * k ∧ y + 400 * k ≤ 9999 := ⟨by omega, by omega⟩
 have hyy : 1 ≤ y ∧ y ≤ 9999 := ⟨by omega, by omega⟩
 have e1 : Cv.onN (y + 400 * k) r.mo r.k r.d = Cv.onN y r.mo r.k r.d := by
  unfold Cv.onN
  rw [Cv.lenF_in ⟨hyk.1, hyk.2, hm.1, hm.2⟩, Cv.lenF_in ⟨hyy.1, hyy.2, hm.1, hm.2⟩, mlen_per y k _ hyy hyk]
 have e2 : Cv.validB (y + 400 * k) r.mo (Cv.onN y r.mo r.k r.d) = Cv.validB y r.mo (Cv.onN y r.mo r.k r.d) := by
  unfold Cv.validB
  rw [Cv.lenF_in ⟨hyk.1, hyk.2, hm.1, hm.2⟩, Cv.lenF_in ⟨hyy.1, hyy.2, hm.1, hm.2⟩, mlen_per y k _ hyy hyk]
 unfold Rule.day Cv.dayF at g3
 rw [if_neg (by simp [ho.fits]), if_neg (by omega), e1, e2] at g3
 cases hvb : Cv.validB y r.mo (Cv.onN y r.mo r.k r.d)
 ·rw [if_pos hvb] at g3; simp at g3
 ·have h1 := Cv.onDay_bd (k := r.k) (wk := r.wk) (day := Cv.count y r.mo (Cv.onN y r.mo r.k r.d)) hwk
  have h2 := count_month hvb
  have b0 := first_year (y := y - 1) ⟨by omega, by omega⟩
  have b1 := Cv.first_bd (y := y - 1) (by omega) (by omega)
  have b2 := Cv.first_bd (y := y) (by omega) (by omega)
  rw [show y - 1 + 1 = y by omega] at b0
  have hin : Cv.insideB (Cv.onDay r.k r.wk (Cv.count y r.mo (Cv.onN y r.mo r.k r.d))) = true := by
   unfold Cv.insideB
   rw [decide_eq_true_eq]
   omega
  rw [if_neg (by simp [hvb])] at g3
  have hin2 : Cv.insideB (Cv.onDay r.k r.wk (Cv.count (y + 400 * k) r.mo (Cv.onN y r.mo r.k r.d))) = true := by
   cases hi : Cv.insideB (Cv.onDay r.k r.wk (Cv.count (y + 400 * k) r.mo (Cv.onN y r.mo r.k r.d)))
   ·rw [if_pos hi] at g3; simp at g3
   ·rfl
  have d1 : r.day y = (Cv.onDay r.k r.wk (Cv.count y r.mo (Cv.onN y r.mo r.k r.d)), 0) := by
   unfold Rule.day Cv.dayF
   rw [if_neg (by simp [ho.fits]), if_neg (by omega), if_neg (by simp [hvb]), if_neg (by simp [hin])]
  have d2 : r.day (y + 400 * k) = (Cv.onDay r.k r.wk (Cv.count y r.mo (Cv.onN y r.mo r.k r.d)) + 146097 * k, 0) := by
   unfold Rule.day Cv.dayF
   rw [if_neg (by simp [ho.fits]), if_neg (by omega), e1, e2, if_neg (by simp [hvb]), if_neg (by simp [hin2]), count_per, onDay_per]
  have hy0 : (r.at y).2 = 0 := by
   rw [at_zero_iff]
   refine ⟨hv, ?_⟩
   unfold Rule.has
   rw [d1]
   simp
   omega
  refine ⟨hy0, ?_⟩
  rw [hl, (at_zero hy0).2.2]
  unfold Rule.loc
  rw [d1, d2]
  dsimp only
  omega
theorem mem_cuts_end {rs : List Rule} {Z : Int} (h : ∀ r ∈ rs, r.fr = Z ∧ r.to = 9999) {x : Int} (hx : x ∈ cutsF rs) : x = Z ∨ x = 10000 := by
 have h2 := mem_cutsF _ _ hx
 unfold cutsL at h2
 rw [List.mem_flatMap] at h2
 obtain ⟨r, hr, hx⟩ := h2
 have := h r hr
 simp at hx
 omega
theorem crowd_far {rs : List Rule} {y : Int} (h : crowdF rs y = false) : FarT rs (y - 1) ∧ FarT rs y := ⟨((crowd_iff rs y).1 h).1, ((crowd_iff rs y).1 h).2.1⟩
theorem spaced_long {rs : List Rule} {Z : Int} (hv : allV rs = true) (h : ∀ r ∈ rs, r.fr = Z ∧ r.to = 9999) (hZ : 1 ≤ Z ∧ Z ≤ 9999) (hs : spacedF rs = true) (y : Int) : FarT rs y := by
 by_cases hne : rs = []
 ·subst hne; exact far_none rfl
 obtain ⟨r0, hr0⟩ := List.exists_mem_of_ne_nil _ hne
 have h0 := h r0 hr0
 rw [spacedF_ok hv] at hs
 have hb : ∀ i, i < (cutsF rs).length → badF rs (cutsF rs) i = false := fun i hi => by
  cases hbi : badF rs (cutsF rs) i
  ·rfl
  ·rw [badsF_yes hi hbi] at hs; cases hs
 have hm := cutsF_mem hr0
 -- the one stretch
 have hcr : ∀ y, Z ≤ y → y ≤ 9999 → y < Z + 402 → crowdF rs y = false := fun y h1 h2 h3 => by
  obtain ⟨i, h4, h5, h6⟩ := stretch (cutsF rs) y ⟨_, hm.1, by omega⟩ ⟨_, hm.2, by omega⟩ (cutsF_sorted rs)
  have e1 : (cutsF rs)[i]! = Z := by
   rcases mem_cuts_end h (x := (cutsF rs)[i]!) (by rw [getElem!_pos _ i (by omega)]; exact List.getElem_mem _) with e | e
   ·exact e
   ·omega
  have e2 : (cutsF rs)[i + 1]! = 10000 := by
   rcases mem_cuts_end h (x := (cutsF rs)[i + 1]!) (by rw [getElem!_pos _ (i + 1) h4]; exact List.getElem_mem _) with e | e
   ·omega
   ·exact e
  have hbi := hb i (by omega)
  have hto : toF (cutsF rs) i = 10000 := by unfold toF; rw [if_pos h4, e2]
  have hspan : (y - Z).toNat < spanF (cutsF rs) i := by unfold spanF; rw [hto, e1]; omega
  unfold badF busyF at hbi
  rw [Bool.or_eq_false_iff, List.any_eq_false, e1] at hbi
  have := hbi.1 (y - Z).toNat (List.mem_range.2 hspan)
  rwa [show Z + (((y - Z).toNat : Nat) : Int) = y by omega, Bool.not_eq_true] at this
 by_cases hin : Z ≤ y ∧ y ≤ 9999
 ·by_cases h1 : y < Z + 402
  ·exact (crowd_far (hcr y hin.1 hin.2 h1)).2
  ·-- so many periods earlier
   obtain ⟨k, q, hk, hq1, hq2, rfl⟩ : ∃ k q, 0 ≤ k ∧ Z + 2 ≤ q ∧ q ≤ Z + 401 ∧ y = q + 400 * k := ⟨(y - Z - 2) / 400, Z + 2 + (y - Z - 2) % 400, by omega, by omega, by omega, by omega⟩
   have hk1 : 1 ≤ k := by omega
   have hq9 : q + 400 ≤ 9999 := by omega
   have hF := (crowd_far (hcr q (by omega) (by omega) (by omega))).2
   have hp : ∀ r ∈ rs, ∀ j, (j = 0 ∨ j = 1) → (r.at (q + 400 * k + j)).2 = 0 → (r.at (q + j)).2 = 0 ∧ (r.at (q + 400 * k + j)).1 = (r.at (q + j)).1 + 146097 * 86400 * k := fun r hr j hj hz => by
    have := h r hr
    rw [show q + 400 * k + j = q + j + 400 * k by omega] at hz ⊢
    exact at_per hk (by omega) (by omega) (by omega) hz
   have hp0 := fun r hr => hp r hr 0 (.inl rfl)
   have hp1 := fun r hr => hp r hr 1 (.inr rfl)
   simp only [Int.add_zero] at hp0
   refine ⟨?_, fun a ha b hb2 => ?_⟩
   ·have h2 := hF.1
    unfold tms at h2 ⊢
    rw [List.pairwise_filterMap] at h2 ⊢
    refine List.Pairwise.imp_of_mem (fun {r s} hr hs hrs a ha b hb => ?_) h2
    unfold tm at ha hb
    split at ha
    ·split at hb
     ·rename_i z1 z2
      obtain ⟨p1, p2⟩ := hp0 r hr z1
      obtain ⟨p3, p4⟩ := hp0 s hs z2
      have h3 := hrs (r.at q).1 (by unfold tm; rw [if_pos p1]) (s.at q).1 (by unfold tm; rw [if_pos p3])
      injection ha with ha
      injection hb with hb
      subst ha hb
      unfold Apt at h3 ⊢
      omega
     ·cases hb
    ·cases ha
   ·obtain ⟨r, hr, h5, h6⟩ := mem_tms.1 ha
    obtain ⟨s, hs, h7, h8⟩ := mem_tms.1 hb2
    obtain ⟨p1, p2⟩ := hp0 r hr h5
    obtain ⟨p3, p4⟩ := hp1 s hs h7
    have h9 := hF.2 _ (mem_tms.2 ⟨r, hr, p1, rfl⟩) _ (mem_tms.2 ⟨s, hs, p3, rfl⟩)
    omega
 ·exact far_none (tms_none fun r hr h2 => by have := h r hr; omega)
end Go.Proofs.YtdpbhjaicgkblaaGreatDoor
/- Valid zones: their transitions, and what is found among them. No program in sight. -/
namespace Go.Proofs.YtdpbhjaicgkblaaGreatDoor
set_option linter.unusedSimpArgs false
set_option linter.unusedVariables false
open Go.Sort
def plainC (c : Int) : Bool := decide ((97 ≤ c ∧ c ≤ 122) ∨ (65 ≤ c ∧ c ≤ 90) ∨ (48 ≤ c ∧ c ≤ 57) ∨ c = 43 ∨ c = 45)
def plainB (s : ByteArray) : Bool := decide (1 ≤ s.size ∧ s.size ≤ 8) && s.data.toList.all fun b => plainC b.toNat
def typB (t : Typ) : Bool := decide (-93600 < t.off) && (decide (t.off < 93600) && (t.sv.tmod 60 == 0 && (decide (-10800 ≤ t.sv) && (decide (t.sv ≤ 10800) && plainB t.nm))))
theorem typB_sv {t : Typ} (h : typB t = true) : (-93600 < t.off ∧ t.off < 93600) ∧ -10800 ≤ t.sv ∧ t.sv ≤ 10800 := by
 unfold typB at h
 simp at h
 omega
def tabB : Int → Typ → List Trn → Bool
 | _, _, [] => true
 | a, b, x :: xs => (decide (a < x.at_) && (decide (x.at_ < 253402300800) && (typB x.ty && decide (x.ty ≠ b)))) && tabB x.at_ x.ty xs
def Zn.lastAt (z : Zn) : Int := (z.table[z.table.length - 1]!).at_
def Zn.ruleB (z : Zn) (r : Rule) : Bool := r.valid && (decide (r.to = 9999) && (decide (r.fr ≤ z.year) && decide ((formatF z.form r.lt r.sv).2 = 0)))
def Zn.rules0 (z : Zn) : List Rule := z.tail.map fun r => { r with fr := z.year }
def Zn.behindB (z : Zn) : Bool := z.table.isEmpty || (match z.HF with | [] => true | x :: _ => decide (z.lastAt < x.2.at_))
def Zn.tailB (z : Zn) : Bool :=
 if z.tail = [] then decide (z.year = 0 ∧ z.off = 0) && decide (z.form.size = 0)
 else decide (z.tail.length ≤ 100 ∧ 1 ≤ z.year ∧ z.year ≤ 9999 ∧ -57600 ≤ z.off ∧ z.off ≤ 57600) && (z.tail.all z.ruleB && (spacedF z.rules0 && z.behindB))
def Zn.headB (z : Zn) : Bool := Cv.nameZ z.nm && (typB z.first && (decide (z.table.length ≤ 1000) && tabB (-62135596800) z.first z.table))
def Zn.valid (z : Zn) : Bool := z.headB && z.tailB
theorem ruleB_iff {z : Zn} {r : Rule} (h : z.ruleB r = true) : r.valid = true ∧ r.to = 9999 ∧ r.fr ≤ z.year ∧ (formatF z.form r.lt r.sv).2 = 0 := by
 unfold Zn.ruleB at h
 simpa using h
theorem lastT_sv {z : Zn} (h : z.headB = true) : typB z.lastT = true := by
 unfold Zn.headB at h
 simp only [Bool.and_eq_true, decide_eq_true_eq] at h
 obtain ⟨_, h1, _, h2⟩ := h
 unfold Zn.lastT
 split
 ·exact h1
 ·rename_i hn
  have : ∀ (a : Int) (b : Typ) (l : List Trn), tabB a b l = true → ∀ x ∈ l, typB x.ty = true := by
   intro a b l
   induction l generalizing a b with
   | nil => intro _ x hx; cases hx
   | cons y l ih =>
    intro h x hx
    unfold tabB at h
    simp only [Bool.and_eq_true, decide_eq_true_eq] at h
    rcases List.mem_cons.1 hx with rfl | hx
    ·exact h.1.2.2.1
    ·exact ih _ _ h.2 x hx
  have hl : 0 < z.table.length := List.length_pos_iff.2 hn
  rw [getElem!_pos z.table (z.table.length - 1) (by omega)]
  exact this _ _ _ h2 _ (List.getElem_mem _)
theorem valid0 {r : Rule} {Z : Int} (hv : r.valid = true) (h1 : 1 ≤ Z) (h2 : Z ≤ r.to) : ({ r with fr := Z } : Rule).valid = true := by
 unfold Rule.valid Rule.ok at *
 simp only [Bool.and_eq_true, decide_eq_true_eq] at *
 exact ⟨hv.1, hv.2.1, hv.2.2.1, h1, h2, hv.2.2.2.2.2⟩
theorem at0 {r : Rule} {Z y : Int} (hv : r.valid = true) (h1 : 1 ≤ Z) (h2 : Z ≤ r.to) (hf : r.fr ≤ Z) (hy : Z ≤ y) : ({ r with fr := Z } : Rule).at y = r.at y := by
 have hv2 := valid0 hv h1 h2
 unfold Rule.at
 rw [hv, hv2]
 have e : ({ r with fr := Z } : Rule).has y = r.has y := by
  unfold Rule.has Rule.day
  dsimp only
  congr 1
  rw [decide_eq_decide]
  omega
 rw [e]
 rfl
theorem all_rules {z : Zn} (hr : z.tail.all z.ruleB = true) {r : Rule} (h : r ∈ z.tail) : r.valid = true ∧ r.to = 9999 ∧ r.fr ≤ z.year ∧ (formatF z.form r.lt r.sv).2 = 0 := ruleB_iff ((List.all_eq_true.1 hr) r h)
theorem fm_congr {α β : Type} {f g : α → Option β} : ∀ {l : List α}, (∀ x ∈ l, f x = g x) → l.filterMap f = l.filterMap g
 | [], _ => rfl
 | x :: l, h => by
  rw [List.filterMap_cons, List.filterMap_cons, h x List.mem_cons_self, fm_congr (l := l) fun y hy => h y (List.mem_cons_of_mem _ hy)]
theorem far0 {z : Zn} (h1 : 1 ≤ z.year) (h2 : z.year ≤ 9999) (hr : z.tail.all z.ruleB = true) (hs : spacedF z.rules0 = true) (y : Int) (hy : z.year ≤ y) : FarT z.tail y := by
 have hv : allV z.rules0 = true := List.all_eq_true.2 fun r hr2 => by
  obtain ⟨q, hq, rfl⟩ := List.mem_map.1 hr2
  obtain ⟨g1, g2, g3, _⟩ := all_rules hr hq
  exact valid0 g1 h1 (by omega)
 have hF := spaced_long hv (Z := z.year) (fun r hr2 => by
  obtain ⟨q, hq, rfl⟩ := List.mem_map.1 hr2
  exact ⟨rfl, (all_rules hr hq).2.1⟩) ⟨h1, h2⟩ hs y
 have e : ∀ x, z.year ≤ x → tms z.rules0 x = tms z.tail x := fun x hx => by
  unfold tms Zn.rules0
  rw [List.filterMap_map]
  refine fm_congr fun r hr2 => ?_
  obtain ⟨g1, g2, g3, _⟩ := all_rules hr hr2
  show tm x _ = tm x _
  unfold tm
  rw [at0 g1 h1 (by omega) g3 hx]
 unfold FarT at *
 rw [e y hy, e (y + 1) (by omega)] at hF
 exact hF
theorem tail_ok {z : Zn} (h : z.headB = true) (hn : z.tail ≠ []) (h1 : 1 ≤ z.year ∧ z.year ≤ 9999 ∧ -57600 ≤ z.off ∧ z.off ≤ 57600) (hr : z.tail.all z.ruleB = true) (hs : spacedF z.rules0 = true) : TailOk z where
 ne := hn
 y1 := h1.1
 y2 := h1.2.1
 o1 := h1.2.2.1
 o2 := h1.2.2.2
 rv r hr2 := ⟨(all_rules hr hr2).1, (all_rules hr hr2).2.1, (all_rules hr hr2).2.2.1⟩
 far y hy := far0 h1.1 h1.2.1 hr hs y hy
 s1 := (typB_sv (lastT_sv h)).2.1
 s2 := (typB_sv (lastT_sv h)).2.2
theorem valid_parts {z : Zn} (h : z.valid = true) : z.headB = true ∧ z.tailB = true := by
 unfold Zn.valid at h
 simpa using h
theorem valid_tail {z : Zn} (h : z.valid = true) (hn : z.tail ≠ []) : TailOk z := by
 obtain ⟨h1, h2⟩ := valid_parts h
 unfold Zn.tailB at h2
 rw [if_neg hn] at h2
 simp only [Bool.and_eq_true, decide_eq_true_eq] at h2
 obtain ⟨⟨a, b⟩, c, d, _⟩ := h2
 exact tail_ok h1 hn b c d
/-! ### all transitions -/
def Zn.T (z : Zn) : List Trn := z.table ++ (if z.tail = [] then [] else z.TT.map Prod.snd)
theorem tab_asc : ∀ {a : Int} {b : Typ} {l : List Trn}, tabB a b l = true → l.Pairwise (fun x y => x.at_ < y.at_) ∧ ∀ x ∈ l, a < x.at_ ∧ x.at_ < 253402300800 ∧ typB x.ty = true
 | _, _, [], _ => ⟨List.Pairwise.nil, fun x hx => by cases hx⟩
 | a, b, y :: l, h => by
  unfold tabB at h
  simp only [Bool.and_eq_true, decide_eq_true_eq] at h
  obtain ⟨⟨g1, g2, g3, _⟩, g4⟩ := h
  obtain ⟨i1, i2⟩ := tab_asc g4
  refine ⟨List.pairwise_cons.2 ⟨fun x hx => (i2 x hx).1, i1⟩, fun x hx => ?_⟩
  rcases List.mem_cons.1 hx with rfl | hx
  ·exact ⟨g1, g2, g3⟩
  ·have := i2 x hx
   exact ⟨by omega, this.2⟩
theorem head_tab {z : Zn} (h : z.headB = true) : tabB (-62135596800) z.first z.table = true ∧ z.table.length ≤ 1000 := by
 unfold Zn.headB at h
 simp only [Bool.and_eq_true, decide_eq_true_eq] at h
 exact ⟨h.2.2.2, h.2.2.1⟩
theorem T_asc {z : Zn} (h : z.valid = true) : z.T.Pairwise (fun x y => x.at_ < y.at_) := by
 obtain ⟨h1, h2⟩ := valid_parts h
 obtain ⟨h3, h4⟩ := tab_asc (head_tab h1).1
 unfold Zn.T
 rw [List.pairwise_append]
 refine ⟨h3, ?_, fun x hx y hy => ?_⟩
 ·split
  ·exact List.Pairwise.nil
  ·rename_i hn
   rw [List.pairwise_map]
   exact (TT_asc (valid_tail h hn)).imp fun h => h.2
 ·split at hy
  ·cases hy
  ·rename_i hn
   have ok := valid_tail h hn
   obtain ⟨t, ht, rfl⟩ := List.mem_map.1 hy
   unfold Zn.tailB at h2
   rw [if_neg hn] at h2
   simp only [Bool.and_eq_true] at h2
   have hb := h2.2.2.2
   have hm := (trans_sub _ _ _).subset ht
   have hA := HF_asc ok
   unfold Zn.behindB at hb
   have hl : z.table.isEmpty = false := by cases e : z.table with
    | nil => rw [e] at hx; cases hx
    | cons => rfl
   rw [hl, Bool.false_or] at hb
   have hlast : x.at_ ≤ z.lastAt := by
    unfold Zn.lastAt
    obtain ⟨i, hi, rfl⟩ := List.getElem_of_mem hx
    rw [getElem!_pos z.table (z.table.length - 1) (by omega)]
    rcases Nat.lt_or_eq_of_le (show i ≤ z.table.length - 1 by omega) with h5 | h5
    ·exact Int.le_of_lt ((List.pairwise_iff_getElem.1 h3) i _ hi (by omega) h5)
    ·simp only [h5]; exact Int.le_refl _
   cases e : z.HF with
   | nil => rw [e] at hm; cases hm
   | cons u l =>
    rw [e] at hb hm hA
    simp only [decide_eq_true_eq] at hb
    rcases List.mem_cons.1 hm with rfl | hm
    ·omega
    ·have := (List.pairwise_cons.1 hA).1 t hm
     unfold Asc at this
     omega
def Zn.prevF (z : Zn) (t : Int) : Option Trn := z.T.reverse.find? fun x => decide (x.at_ ≤ t)
def Zn.typF (z : Zn) (t : Int) : Typ := match z.prevF t with | some x => x.ty | none => z.first
def Zn.betF (z : Zn) (a b : Int) : List Trn := z.T.filter fun x => decide (a ≤ x.at_ ∧ x.at_ < b)
end Go.Proofs.YtdpbhjaicgkblaaGreatDoor

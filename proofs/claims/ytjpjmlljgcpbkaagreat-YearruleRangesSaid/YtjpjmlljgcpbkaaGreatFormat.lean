/- yearrule.Format. -/
import Derived.Test.YtjpjmlljgcpbkaaGreatLetters
import Derived.Lib.IndexMore
namespace Go.Proofs.YtjpjmlljgcpbkaaGreat
set_option linter.unusedSimpArgs false
set_option linter.unusedVariables false
open Go.ChangeShapes Go.WideShapes Go.ChangeAt Go.RowKit

/-- the variable MaxLen of Go's library holds some number -/
def HasMax (w : World) : Prop := ∃ m : Int, w.cell? ⟨0, 0, none⟩ = some (.int .i64 m) ∧ 0 < w.heap.size
theorem HasMax.below {w w' : World} {B : Nat} (h : HasMax w) (hb : Below B w w') (hB : w.heap.size ≤ B) : HasMax w' := by
  obtain ⟨m, h1, h2⟩ := h
  exact ⟨m, (hb.cell (p := ⟨0, 0, none⟩) (Nat.lt_of_lt_of_le h2 hB)).trans h1, Nat.lt_of_lt_of_le h2 hb.size⟩
theorem HasMax.drewN {w : World} (h : HasMax w) (n : Nat) : HasMax (w.drewN n) := h.below (below_drewN (Below.refl w.heap.size w) n) (Nat.le_refl _)
theorem hasMax_of {w : World} (h : w.ShapedOpen Tryz.prog) : HasMax w := by
  obtain ⟨m, hm⟩ := cell_of_shapedOpen_int (P := Tryz.prog) (g := 0) (t := 3) (zero := #[.int .i64 0]) (k := .i64) h (of_decide_eq_true (by kernel_rfl)) (by kernel_rfl) rfl (by kernel_rfl) (by kernel_rfl) Tryz.underlying3
  refine ⟨m, hm, ?_⟩
  rcases Nat.lt_or_ge 0 w.heap.size with h' | h'
  · exact h'
  · rw [World.cell?] at hm; simp [Array.getElem?_eq_none h'] at hm
theorem cut_any (s sep : ByteArray) (w : World) (hm : HasMax w) (hs : s.size < 4294967281) :
    Calls Tryz.prog 56 #[.string s, .string sep] w fun e w' => e = .returned (.tuple #[.string ⟨(Lib.cut s.data.toList sep.data.toList).1.toArray⟩, .string ⟨(Lib.cut s.data.toList sep.data.toList).2.1.toArray⟩, .bool (Lib.cut s.data.toList sep.data.toList).2.2]) ∧ ∃ n, w.drewN n = w' := by
  obtain ⟨m, h1, _⟩ := hm
  exact (Tryz.strings_Cut s sep m w hs h1).mono fun _ _ ⟨he, n, hn⟩ => ⟨he, n, hn.symm⟩

/-- Cut, its three results named -/
theorem cut_is {s sep b a : ByteArray} {f : Bool} (hs : s.size < 4294967281) (hb : (⟨(Lib.cut s.data.toList sep.data.toList).1.toArray⟩ : ByteArray) = b) (ha : (⟨(Lib.cut s.data.toList sep.data.toList).2.1.toArray⟩ : ByteArray) = a) (hf : (Lib.cut s.data.toList sep.data.toList).2.2 = f) (w : World) (hm : HasMax w) :
    Calls Tryz.prog 56 #[.string s, .string sep] w fun e w' => e = .returned (.tuple #[.string b, .string a, .bool f]) ∧ Below w.heap.size w w' := by
  rw [← hb, ← ha, ← hf]
  exact (cut_any s sep w hm hs).mono fun _ _ ⟨he, n, hn⟩ => ⟨he, hn ▸ below_drewN (Below.refl _ _) n⟩
theorem HasMax.on {w w' : World} (h : HasMax w) (hb : Below w.heap.size w w') : HasMax w' := h.below hb (Nat.le_refl _)

theorem below4 {w w1 w2 w3 w4 : World} (h1 : Below w.heap.size w w1) (h2 : Below w1.heap.size w1 w2) (h3 : Below w2.heap.size w2 w3) (h4 : Below w3.heap.size w3 w4) : Below w.heap.size w w4 :=
  ((h1.trans (h2.mono h1.size)).trans (h3.mono (Nat.le_trans h1.size h2.size))).trans (h4.mono (Nat.le_trans (Nat.le_trans h1.size h2.size) h3.size))
theorem nameB_size {s : ByteArray} (h : Cv.nameB s = true) : 1 ≤ s.size ∧ s.size ≤ 8 := by
  unfold Cv.nameB at h
  rw [Bool.and_eq_true, decide_eq_true_eq] at h
  exact h.1
theorem cut_len1 (s sep : List UInt8) : (Lib.cut s sep).1.length ≤ s.length := by
  unfold Lib.cut; split
  · dsimp only; rw [List.length_take]; omega
  · exact Nat.le_refl _
theorem cut_len2 (s sep : List UInt8) : (Lib.cut s sep).2.1.length ≤ s.length := by
  unfold Lib.cut; split
  · simp
  · simp
theorem append_list (p q : ByteArray) : (p ++ q).data.toList = p.data.toList ++ q.data.toList := by simp
theorem toArray_id (p : ByteArray) : (⟨p.data.toList.toArray⟩ : ByteArray) = p := by simp
def strFin (o : ByteArray) : ByteArray × Int := if 1 ≤ o.size ∧ o.size ≤ 8 then (o, 0) else (⟨#[]⟩, 2)
/-- Format: the name, and the error's number -/
def formatF (f l : ByteArray) (sv : Int) : ByteArray × Int :=
  if ¬ (l.size ≤ 8 ∧ Cv.lettersB [] l.data.toList = true) then (⟨#[]⟩, 1)
  else if (Lib.cut f.data.toList [47]).2.2 = true then
    if ¬ (Cv.nameB ⟨(Lib.cut f.data.toList [47]).1.toArray⟩ = true ∧ Cv.nameB ⟨(Lib.cut f.data.toList [47]).2.1.toArray⟩ = true) then (⟨#[]⟩, 3)
    else strFin (if sv = 0 then ⟨(Lib.cut f.data.toList [47]).1.toArray⟩ else ⟨(Lib.cut f.data.toList [47]).2.1.toArray⟩)
  else if (Lib.cut f.data.toList [37, 115]).2.2 = true then
    if ¬ (f.size ≤ 8 ∧ Cv.lettersB [43, 45] ((Lib.cut f.data.toList [37, 115]).1 ++ (Lib.cut f.data.toList [37, 115]).2.1) = true) then (⟨#[]⟩, 3)
    else strFin ⟨((Lib.cut f.data.toList [37, 115]).1 ++ l.data.toList ++ (Lib.cut f.data.toList [37, 115]).2.1).toArray⟩
  else if Cv.nameB f = false then (⟨#[]⟩, 3) else strFin f

theorem retF {p : ByteArray × Int} {a : ByteArray} {b : Int} (h : p = (a, b)) : Ending.returned (.tuple #[.string a, .int .i64 b]) = .returned (.tuple #[.string p.1, .int .i64 p.2]) := by rw [h]

set_option maxRecDepth 100000 in
set_option maxHeartbeats 2000000 in
theorem Format_arg (f l : ByteArray) (sv : Int) (w : World) (hl : ¬ (l.size ≤ 8 ∧ Cv.lettersB [] l.data.toList = true)) :
    Calls Tryz.prog 31 #[.string f, .string l, .int .i64 sv] w fun e w' => e = .returned (.tuple #[.string (formatF f l sv).1, .int .i64 (formatF f l sv).2]) ∧ Below w.heap.size w w' := by
  rw [show formatF f l sv = (⟨#[]⟩, 1) from if_pos hl]
  by_cases h8 : l.size ≤ 8
  · have h := Lib.hid (show Cv.lettersB [] l.data.toList = false by cases e : Cv.lettersB [] l.data.toList <;> simp_all)
    clear hl
    go_enter Tryz.func31, Tryz.ntmps31
    go_wp2_with (go_at_call 50; refine (letters_any _ _ _ oth_none).mono ?_; rintro e w1 ⟨rfl, hb1⟩; rw [h.out])
    go_ret2
    exact ⟨rfl, hb1⟩
  · clear hl
    go_enter Tryz.func31, Tryz.ntmps31
    go_wp2
    go_ret2
    exact ⟨rfl, Below.refl _ _⟩

set_option maxRecDepth 100000 in
set_option maxHeartbeats 2000000 in
theorem Format_slash (f l : ByteArray) (sv : Int) (w : World) (hl : l.size ≤ 8) (hl2 : Cv.lettersB [] l.data.toList = true) (hm : HasMax w) (hs : f.size < 4294967281) (hc : (Lib.cut f.data.toList [47]).2.2 = true) :
    Calls Tryz.prog 31 #[.string f, .string l, .int .i64 sv] w fun e w' => e = .returned (.tuple #[.string (formatF f l sv).1, .int .i64 (formatF f l sv).2]) ∧ Below w.heap.size w w' := by
  have hf : formatF f l sv = if ¬ (Cv.nameB ⟨(Lib.cut f.data.toList [47]).1.toArray⟩ = true ∧ Cv.nameB ⟨(Lib.cut f.data.toList [47]).2.1.toArray⟩ = true) then (⟨#[]⟩, 3)
    else strFin (if sv = 0 then ⟨(Lib.cut f.data.toList [47]).1.toArray⟩ else ⟨(Lib.cut f.data.toList [47]).2.1.toArray⟩) := by
    unfold formatF; rw [if_neg (by simp [hl, hl2]), if_pos hc]
  rw [hf]
  clear hf
  have H2 := Lib.hid hl2
  have HM := Lib.hid hm
  generalize hb : (⟨(Lib.cut f.data.toList [47]).1.toArray⟩ : ByteArray) = bf at *
  generalize hbe : (⟨(Lib.cut f.data.toList [47]).2.1.toArray⟩ : ByteArray) = be at *
  have C1 := Lib.hid (cut_is (sep := ⟨#[47]⟩) hs hb hbe hc)
  have C2 := Lib.hid (cut_is (s := f) (sep := ⟨#[37, 115]⟩) hs rfl rfl rfl)
  generalize (⟨(Lib.cut f.data.toList (⟨#[37, 115]⟩ : ByteArray).data.toList).1.toArray⟩ : ByteArray) = x1 at C2
  generalize (⟨(Lib.cut f.data.toList (⟨#[37, 115]⟩ : ByteArray).data.toList).2.1.toArray⟩ : ByteArray) = x2 at C2
  generalize (Lib.cut f.data.toList (⟨#[37, 115]⟩ : ByteArray).data.toList).2.2 = x3 at C2
  clear hl2 hc hm hb hbe
  cases n1 : Cv.nameB bf
  · have N1 := Lib.hid n1
    rw [if_pos (by simp)]
    clear n1
    go_enter Tryz.func31, Tryz.ntmps31
    go_wp2_with (first
      | (go_at_call 50; refine (letters_any _ _ _ oth_none).mono ?_; rintro e w1 ⟨rfl, hb1⟩; rw [H2.out])
      | (go_at_call 56; (with_reducible refine (C1.out _ (HM.out.on hb1)).mono ?_); rintro e w2 ⟨rfl, hb2⟩)
      | (go_at_call 56; (with_reducible refine (C2.out _ ((HM.out.on hb1).on hb2)).mono ?_); rintro e w3 ⟨rfl, hb3⟩)
      | (go_at_call 57; (with_reducible refine (name_any bf _).mono ?_); rintro e w4 ⟨rfl, hb4⟩; rw [N1.out])
      | (go_at_call 57; (with_reducible refine (name_any be _).mono ?_); rintro e w5 ⟨rfl, hb5⟩; rw [N2.out]))
    go_ret2
    exact ⟨rfl, below4 hb1 hb2 hb3 hb4⟩
  · have N1 := Lib.hid n1
    cases n2 : Cv.nameB be
    · have N2 := Lib.hid n2
      rw [if_pos (by simp)]
      clear n1 n2
      go_enter Tryz.func31, Tryz.ntmps31
      go_wp2_with (first
      | (go_at_call 50; refine (letters_any _ _ _ oth_none).mono ?_; rintro e w1 ⟨rfl, hb1⟩; rw [H2.out])
      | (go_at_call 56; (with_reducible refine (C1.out _ (HM.out.on hb1)).mono ?_); rintro e w2 ⟨rfl, hb2⟩)
      | (go_at_call 56; (with_reducible refine (C2.out _ ((HM.out.on hb1).on hb2)).mono ?_); rintro e w3 ⟨rfl, hb3⟩)
      | (go_at_call 57; (with_reducible refine (name_any bf _).mono ?_); rintro e w4 ⟨rfl, hb4⟩; rw [N1.out])
      | (go_at_call 57; (with_reducible refine (name_any be _).mono ?_); rintro e w5 ⟨rfl, hb5⟩; rw [N2.out]))
      go_ret2
      exact ⟨rfl, (below4 hb1 hb2 hb3 hb4).trans (hb5.mono (below4 hb1 hb2 hb3 hb4).size)⟩
    · have N2 := Lib.hid n2
      rw [if_neg (by simp)]
      have s1 := nameB_size n1
      have s2 := nameB_size n2
      obtain ⟨s11, s12⟩ := s1
      obtain ⟨s21, s22⟩ := s2
      have e1 := isEmpty_no s11
      have e2 := isEmpty_no s21
      have e1' : ¬ bf.toList = [] := fun h => by rw [h] at e1; cases e1
      have e2' : ¬ be.toList = [] := fun h => by rw [h] at e2; cases e2
      clear n1 n2
      by_cases hz : sv = 0
      · rw [if_pos hz, show strFin bf = (bf, 0) from if_pos ⟨s11, s12⟩]
        subst hz
        go_enter Tryz.func31, Tryz.ntmps31
        go_wp2_with (first
      | (go_at_call 50; refine (letters_any _ _ _ oth_none).mono ?_; rintro e w1 ⟨rfl, hb1⟩; rw [H2.out])
      | (go_at_call 56; (with_reducible refine (C1.out _ (HM.out.on hb1)).mono ?_); rintro e w2 ⟨rfl, hb2⟩)
      | (go_at_call 56; (with_reducible refine (C2.out _ ((HM.out.on hb1).on hb2)).mono ?_); rintro e w3 ⟨rfl, hb3⟩)
      | (go_at_call 57; (with_reducible refine (name_any bf _).mono ?_); rintro e w4 ⟨rfl, hb4⟩; rw [N1.out])
      | (go_at_call 57; (with_reducible refine (name_any be _).mono ?_); rintro e w5 ⟨rfl, hb5⟩; rw [N2.out]))
        go_ret2
        exact ⟨rfl, (below4 hb1 hb2 hb3 hb4).trans (hb5.mono (below4 hb1 hb2 hb3 hb4).size)⟩
      · rw [if_neg hz, show strFin be = (be, 0) from if_pos ⟨s21, s22⟩]
        go_enter Tryz.func31, Tryz.ntmps31
        go_wp2_with (first
      | (go_at_call 50; refine (letters_any _ _ _ oth_none).mono ?_; rintro e w1 ⟨rfl, hb1⟩; rw [H2.out])
      | (go_at_call 56; (with_reducible refine (C1.out _ (HM.out.on hb1)).mono ?_); rintro e w2 ⟨rfl, hb2⟩)
      | (go_at_call 56; (with_reducible refine (C2.out _ ((HM.out.on hb1).on hb2)).mono ?_); rintro e w3 ⟨rfl, hb3⟩)
      | (go_at_call 57; (with_reducible refine (name_any bf _).mono ?_); rintro e w4 ⟨rfl, hb4⟩; rw [N1.out])
      | (go_at_call 57; (with_reducible refine (name_any be _).mono ?_); rintro e w5 ⟨rfl, hb5⟩; rw [N2.out]))
        go_ret2
        exact ⟨rfl, (below4 hb1 hb2 hb3 hb4).trans (hb5.mono (below4 hb1 hb2 hb3 hb4).size)⟩

set_option maxRecDepth 100000 in
set_option maxHeartbeats 2000000 in
theorem Format_rest (f l : ByteArray) (sv : Int) (w : World) (hl : l.size ≤ 8) (hl2 : Cv.lettersB [] l.data.toList = true) (hm : HasMax w) (hs : f.size < 4294967281) (hc : (Lib.cut f.data.toList [47]).2.2 = false) :
    Calls Tryz.prog 31 #[.string f, .string l, .int .i64 sv] w fun e w' => e = .returned (.tuple #[.string (formatF f l sv).1, .int .i64 (formatF f l sv).2]) ∧ Below w.heap.size w w' := by
  have H2 := Lib.hid hl2
  have HM := Lib.hid hm
  have C1 := Lib.hid (cut_is (s := f) (sep := ⟨#[47]⟩) hs rfl rfl hc)
  generalize (⟨(Lib.cut f.data.toList (⟨#[47]⟩ : ByteArray).data.toList).1.toArray⟩ : ByteArray) = bf at C1
  generalize (⟨(Lib.cut f.data.toList (⟨#[47]⟩ : ByteArray).data.toList).2.1.toArray⟩ : ByteArray) = be at C1
  cases hp : (Lib.cut f.data.toList [37, 115]).2.2
  · have hf : formatF f l sv = if Cv.nameB f = false then (⟨#[]⟩, 3) else strFin f := by
      unfold formatF; rw [if_neg (by simp [hl, hl2]), if_neg (by simp [hc]), if_neg (by simp [hp])]
    rw [hf]
    have C2 := Lib.hid (cut_is (s := f) (sep := ⟨#[37, 115]⟩) hs rfl rfl hp)
    generalize (⟨(Lib.cut f.data.toList (⟨#[37, 115]⟩ : ByteArray).data.toList).1.toArray⟩ : ByteArray) = x1 at C2
    generalize (⟨(Lib.cut f.data.toList (⟨#[37, 115]⟩ : ByteArray).data.toList).2.1.toArray⟩ : ByteArray) = x2 at C2
    clear hl2 hc hm hp hf
    cases n1 : Cv.nameB f
    · have N1 := Lib.hid n1
      rw [if_pos rfl]
      clear n1
      go_enter Tryz.func31, Tryz.ntmps31
      go_wp2_with (first
      | (go_at_call 50; refine (letters_any _ _ _ oth_none).mono ?_; rintro e w1 ⟨rfl, hb1⟩; rw [H2.out])
      | (go_at_call 56; (with_reducible refine (C1.out _ (HM.out.on hb1)).mono ?_); rintro e w2 ⟨rfl, hb2⟩)
      | (go_at_call 56; (with_reducible refine (C2.out _ ((HM.out.on hb1).on hb2)).mono ?_); rintro e w3 ⟨rfl, hb3⟩)
      | (go_at_call 57; (with_reducible refine (name_any f _).mono ?_); rintro e w4 ⟨rfl, hb4⟩; rw [N1.out]))
      go_ret2
      exact ⟨rfl, below4 hb1 hb2 hb3 hb4⟩
    · have N1 := Lib.hid n1
      rw [if_neg (by simp)]
      obtain ⟨s11, s12⟩ := nameB_size n1
      have e1 := isEmpty_no s11
      have e1' : ¬ f.toList = [] := fun h => by rw [h] at e1; cases e1
      rw [show strFin f = (f, 0) from if_pos ⟨s11, s12⟩]
      clear n1
      go_enter Tryz.func31, Tryz.ntmps31
      go_wp2_with (first
      | (go_at_call 50; refine (letters_any _ _ _ oth_none).mono ?_; rintro e w1 ⟨rfl, hb1⟩; rw [H2.out])
      | (go_at_call 56; (with_reducible refine (C1.out _ (HM.out.on hb1)).mono ?_); rintro e w2 ⟨rfl, hb2⟩)
      | (go_at_call 56; (with_reducible refine (C2.out _ ((HM.out.on hb1).on hb2)).mono ?_); rintro e w3 ⟨rfl, hb3⟩)
      | (go_at_call 57; (with_reducible refine (name_any f _).mono ?_); rintro e w4 ⟨rfl, hb4⟩; rw [N1.out]))
      go_ret2
      exact ⟨rfl, below4 hb1 hb2 hb3 hb4⟩
  · have hf : formatF f l sv = if ¬ (f.size ≤ 8 ∧ Cv.lettersB [43, 45] ((Lib.cut f.data.toList [37, 115]).1 ++ (Lib.cut f.data.toList [37, 115]).2.1) = true) then (⟨#[]⟩, 3)
      else strFin ⟨((Lib.cut f.data.toList [37, 115]).1 ++ l.data.toList ++ (Lib.cut f.data.toList [37, 115]).2.1).toArray⟩ := by
      unfold formatF; rw [if_neg (by simp [hl, hl2]), if_neg (by simp [hc]), if_pos hp]
    rw [hf]
    have C2 := Lib.hid (cut_is (s := f) (sep := ⟨#[37, 115]⟩) hs rfl rfl hp)
    have l1 := cut_len1 f.data.toList [37, 115]
    have l2 := cut_len2 f.data.toList [37, 115]
    obtain ⟨p, hp1⟩ : ∃ p : ByteArray, (Lib.cut f.data.toList [37, 115]).1 = p.data.toList := ⟨⟨(Lib.cut f.data.toList [37, 115]).1.toArray⟩, by simp⟩
    obtain ⟨q, hq1⟩ : ∃ p : ByteArray, (Lib.cut f.data.toList [37, 115]).2.1 = p.data.toList := ⟨⟨(Lib.cut f.data.toList [37, 115]).2.1.toArray⟩, by simp⟩
    have C2' : Hid (∀ w : World, HasMax w → Calls Tryz.prog 56 #[.string f, .string ⟨#[37, 115]⟩] w fun e w' => e = .returned (.tuple #[.string ⟨(Lib.cut f.data.toList [37, 115]).1.toArray⟩, .string ⟨(Lib.cut f.data.toList [37, 115]).2.1.toArray⟩, .bool true]) ∧ Below w.heap.size w w') := C2
    clear C2
    have C2 := C2'
    clear C2'
    rw [hp1, hq1] at C2
    rw [hp1] at l1 ⊢
    rw [hq1] at l2 ⊢
    rw [← append_list, ← append_list, ← append_list, toArray_id]
    simp only [Array.toArray_toList] at C2
    have C2' : Hid (∀ w : World, HasMax w → Calls Tryz.prog 56 #[.string f, .string ⟨#[37, 115]⟩] w fun e w' => e = .returned (.tuple #[.string p, .string q, .bool true]) ∧ Below w.heap.size w w') := C2
    clear C2
    have C2 := C2'
    have m1 : p.size ≤ f.size := l1
    have m2 : q.size ≤ f.size := l2
    clear C2' hl2 hc hm hp hf l1 l2 hp1 hq1
    by_cases h8 : f.size ≤ 8
    · have m1' : p.size ≤ 8 := by omega
      have m2' : q.size ≤ 8 := by omega
      clear m1 m2
      cases n1 : Cv.lettersB [43, 45] (p ++ q).data.toList
      · have N1 := Lib.hid n1
        rw [if_pos (by simp)]
        clear n1
        go_enter Tryz.func31, Tryz.ntmps31
        go_wp2_with (first
          | (go_at_call 50; (with_reducible refine (letters_any l _ _ oth_none).mono ?_); rintro e w1 ⟨rfl, hb1⟩; rw [H2.out])
          | (go_at_call 56; (with_reducible refine (C1.out _ (HM.out.on hb1)).mono ?_); rintro e w2 ⟨rfl, hb2⟩)
          | (go_at_call 56; (with_reducible refine (C2.out _ ((HM.out.on hb1).on hb2)).mono ?_); rintro e w3 ⟨rfl, hb3⟩)
          | (go_at_call 50; (with_reducible refine (letters_any (p ++ q) _ _ oth_signs).mono ?_); rintro e w4 ⟨rfl, hb4⟩; rw [N1.out]))
        go_ret2
        exact ⟨rfl, below4 hb1 hb2 hb3 hb4⟩
      · have N1 := Lib.hid n1
        rw [if_neg (by simp [h8])]
        clear n1
        have hz : (p ++ l ++ q).size = p.size + l.size + q.size := by simp [ByteArray.size_append]
        by_cases z1 : 1 ≤ (p ++ l ++ q).size
        · have e1 := isEmpty_no z1
          have e2 : ¬ (p ++ l ++ q).toList = [] := fun h => by rw [h] at e1; cases e1
          by_cases z2 : (p ++ l ++ q).size ≤ 8
          · rw [show strFin (p ++ l ++ q) = (p ++ l ++ q, 0) from if_pos ⟨z1, z2⟩]
            have z3 : p.size + l.size + q.size ≤ 8 := by omega
            clear hz
            go_enter Tryz.func31, Tryz.ntmps31
            go_wp2_with (first
          | (go_at_call 50; (with_reducible refine (letters_any l _ _ oth_none).mono ?_); rintro e w1 ⟨rfl, hb1⟩; rw [H2.out])
          | (go_at_call 56; (with_reducible refine (C1.out _ (HM.out.on hb1)).mono ?_); rintro e w2 ⟨rfl, hb2⟩)
          | (go_at_call 56; (with_reducible refine (C2.out _ ((HM.out.on hb1).on hb2)).mono ?_); rintro e w3 ⟨rfl, hb3⟩)
          | (go_at_call 50; (with_reducible refine (letters_any (p ++ q) _ _ oth_signs).mono ?_); rintro e w4 ⟨rfl, hb4⟩; rw [N1.out]))
            go_ret2
            exact ⟨rfl, below4 hb1 hb2 hb3 hb4⟩
          · rw [show strFin (p ++ l ++ q) = (⟨#[]⟩, 2) from if_neg (by omega)]
            have z3 : 8 < p.size + l.size + q.size := by omega
            clear hz
            go_enter Tryz.func31, Tryz.ntmps31
            go_wp2_with (first
          | (go_at_call 50; (with_reducible refine (letters_any l _ _ oth_none).mono ?_); rintro e w1 ⟨rfl, hb1⟩; rw [H2.out])
          | (go_at_call 56; (with_reducible refine (C1.out _ (HM.out.on hb1)).mono ?_); rintro e w2 ⟨rfl, hb2⟩)
          | (go_at_call 56; (with_reducible refine (C2.out _ ((HM.out.on hb1).on hb2)).mono ?_); rintro e w3 ⟨rfl, hb3⟩)
          | (go_at_call 50; (with_reducible refine (letters_any (p ++ q) _ _ oth_signs).mono ?_); rintro e w4 ⟨rfl, hb4⟩; rw [N1.out]))
            go_ret2
            exact ⟨rfl, below4 hb1 hb2 hb3 hb4⟩
        · rw [show strFin (p ++ l ++ q) = (⟨#[]⟩, 2) from if_neg (by omega)]
          have e1 := isEmpty_nil (s := p ++ l ++ q) (by omega)
          have z3 : p.size + l.size + q.size = 0 := by omega
          clear hz z3
          go_enter Tryz.func31, Tryz.ntmps31
          go_wp2_with (first
          | (go_at_call 50; (with_reducible refine (letters_any l _ _ oth_none).mono ?_); rintro e w1 ⟨rfl, hb1⟩; rw [H2.out])
          | (go_at_call 56; (with_reducible refine (C1.out _ (HM.out.on hb1)).mono ?_); rintro e w2 ⟨rfl, hb2⟩)
          | (go_at_call 56; (with_reducible refine (C2.out _ ((HM.out.on hb1).on hb2)).mono ?_); rintro e w3 ⟨rfl, hb3⟩)
          | (go_at_call 50; (with_reducible refine (letters_any (p ++ q) _ _ oth_signs).mono ?_); rintro e w4 ⟨rfl, hb4⟩; rw [N1.out]))
          go_ret2
          exact ⟨rfl, below4 hb1 hb2 hb3 hb4⟩
    · rw [if_pos (by omega)]
      clear m1 m2
      go_enter Tryz.func31, Tryz.ntmps31
      go_wp2_with (first
          | (go_at_call 50; (with_reducible refine (letters_any l _ _ oth_none).mono ?_); rintro e w1 ⟨rfl, hb1⟩; rw [H2.out])
          | (go_at_call 56; (with_reducible refine (C1.out _ (HM.out.on hb1)).mono ?_); rintro e w2 ⟨rfl, hb2⟩)
          | (go_at_call 56; (with_reducible refine (C2.out _ ((HM.out.on hb1).on hb2)).mono ?_); rintro e w3 ⟨rfl, hb3⟩)
          | (go_at_call 50; (with_reducible refine (letters_any (p ++ q) _ _ oth_signs).mono ?_); rintro e w4 ⟨rfl, hb4⟩))
      go_ret2
      exact ⟨rfl, (hb1.trans (hb2.mono hb1.size)).trans (hb3.mono (Nat.le_trans hb1.size hb2.size))⟩

theorem Format_any (f l : ByteArray) (sv : Int) (w : World) (hm : HasMax w) (hs : f.size < 4294967281) :
    Calls Tryz.prog 31 #[.string f, .string l, .int .i64 sv] w fun e w' => e = .returned (.tuple #[.string (formatF f l sv).1, .int .i64 (formatF f l sv).2]) ∧ Below w.heap.size w w' := by
  by_cases hl : l.size ≤ 8 ∧ Cv.lettersB [] l.data.toList = true
  · cases hc : (Lib.cut f.data.toList [47]).2.2
    · exact Format_rest f l sv w hl.1 hl.2 hm hs hc
    · exact Format_slash f l sv w hl.1 hl.2 hm hs hc
  · exact Format_arg f l sv w hl

end Go.Proofs.YtjpjmlljgcpbkaaGreat

/- Formats: what the reference computes is what the program computes. No program in sight. -/
import Derived.Test.YtjpjmlljgcpbkaaFormat
namespace Go.Proofs.Ytjpjmlljgcpbkaa
set_option linter.unusedSimpArgs false
set_option linter.unusedVariables false

theorem cut_yes {s sep : List UInt8} (h : (Lib.cut s sep).2.2 = true) : s = (Lib.cut s sep).1 ++ sep ++ (Lib.cut s sep).2.1 := by
  rcases Lib.index_spec s sep with ⟨h1, _⟩ | ⟨i, h1, h2, h3, _⟩
  · unfold Lib.cut at h; rw [if_neg (by omega)] at h; cases h
  · have e : Lib.cut s sep = (s.take i, s.drop (i + sep.length), true) := by unfold Lib.cut; rw [if_pos (by omega), h1]; rfl
    rw [e]
    unfold Lib.occAt at h3
    obtain ⟨t, ht⟩ := List.isPrefixOf_iff_prefix.1 h3
    dsimp only
    rw [← List.drop_drop, ← ht, List.drop_left, List.append_assoc, ht, List.take_append_drop]
theorem letters_bad {o l : List UInt8} {b : UInt8} (hb : Cv.badR o b.toNat = true) (h : b ∈ l) : Cv.lettersB o l = false := by
  unfold Cv.lettersB
  rw [List.all_eq_false]
  exact ⟨b, h, by simp [hb]⟩
theorem letters_append (o l m : List UInt8) : Cv.lettersB o (l ++ m) = (Cv.lettersB o l && Cv.lettersB o m) := by unfold Cv.lettersB; rw [List.all_append]

/-- the text's pieces -/
def pcA (f : ByteArray) : ByteArray := ⟨(Lib.cut f.data.toList [37, 115]).1.toArray⟩
def pcB (f : ByteArray) : ByteArray := ⟨(Lib.cut f.data.toList [37, 115]).2.1.toArray⟩
def pcF (f : ByteArray) : Bool := (Lib.cut f.data.toList [37, 115]).2.2
def slA (f : ByteArray) : ByteArray := ⟨(Lib.cut f.data.toList [47]).1.toArray⟩
def slB (f : ByteArray) : ByteArray := ⟨(Lib.cut f.data.toList [47]).2.1.toArray⟩
def slF (f : ByteArray) : Bool := (Lib.cut f.data.toList [47]).2.2
/-- the reference's part, Form, Format -/
def partB (s : ByteArray) : Bool := decide (s.size ≤ 8) && Cv.lettersB [43, 45] s.data.toList
def fullB (s : ByteArray) : Bool := decide (1 ≤ s.size)
def formB (f : ByteArray) : Bool :=
  if pcF f = true then decide (f.size ≤ 8) && (partB (pcA f) && partB (pcB f))
  else if slF f = true then fullB (slA f) && (fullB (slB f) && (partB (slA f) && partB (slB f)))
  else fullB f && partB f
def rname (f l : ByteArray) (sv : Int) : ByteArray := if pcF f = true then pcA f ++ l ++ pcB f else if slF f = true then (if sv = 0 then slA f else slB f) else f
def rformatF (f l : ByteArray) (sv : Int) : ByteArray × Int :=
  if ¬ (l.size ≤ 8 ∧ Cv.lettersB [] l.data.toList = true) then (⟨#[]⟩, 1)
  else if formB f = false then (⟨#[]⟩, 3) else strFin (rname f l sv)
theorem name_part (s : ByteArray) : Cv.nameB s = (fullB s && partB s) := by
  unfold Cv.nameB fullB partB
  rw [← Bool.and_assoc]; congr 1
  rw [Bool.eq_iff_iff]; simp
theorem bytes_app (a b c : ByteArray) : a ++ b ++ c = ⟨(a.data.toList ++ b.data.toList ++ c.data.toList).toArray⟩ := by
  rw [← append_list, ← append_list, toArray_id]
theorem rformat_eq (f l : ByteArray) (sv : Int) : rformatF f l sv = formatF f l sv := by
  unfold rformatF formatF
  by_cases hl : l.size ≤ 8 ∧ Cv.lettersB [] l.data.toList = true
  · rw [if_neg (not_not_intro hl), if_neg (not_not_intro hl)]
    have hs : slF f = (Lib.cut f.data.toList [47]).2.2 := rfl
    have hp : pcF f = (Lib.cut f.data.toList [37, 115]).2.2 := rfl
    have ha : (⟨(Lib.cut f.data.toList [47]).1.toArray⟩ : ByteArray) = slA f := rfl
    have hb : (⟨(Lib.cut f.data.toList [47]).2.1.toArray⟩ : ByteArray) = slB f := rfl
    rw [ha, hb, ← hs, ← hp]
    have bad37 : Cv.badR [43, 45] (37 : UInt8).toNat = true := by decide
    have bad47 : Cv.badR [43, 45] (47 : UInt8).toNat = true := by decide
    cases es : slF f
    · rw [if_neg Bool.false_ne_true]
      cases ep : pcF f
      · rw [if_neg Bool.false_ne_true]
        unfold formB rname
        rw [ep, es, name_part]
        simp
      · rw [if_pos rfl]
        have e1 : rname f l sv = ⟨((Lib.cut f.data.toList [37, 115]).1 ++ l.data.toList ++ (Lib.cut f.data.toList [37, 115]).2.1).toArray⟩ := by
          unfold rname; rw [if_pos ep, bytes_app]; rfl
        have hc := cut_yes (hp.symm.trans ep)
        have hz : f.size = (pcA f).size + 2 + (pcB f).size := by
          have := congrArg List.length hc
          rw [List.length_append, List.length_append, ← Lib.size_eq] at this
          exact this
        have e2 : formB f = decide (f.size ≤ 8 ∧ Cv.lettersB [43, 45] ((Lib.cut f.data.toList [37, 115]).1 ++ (Lib.cut f.data.toList [37, 115]).2.1) = true) := by
          unfold formB
          rw [if_pos ep, letters_append]
          have x1 : Cv.lettersB [43, 45] (pcA f).data.toList = Cv.lettersB [43, 45] (Lib.cut f.data.toList [37, 115]).1 := rfl
          have x2 : Cv.lettersB [43, 45] (pcB f).data.toList = Cv.lettersB [43, 45] (Lib.cut f.data.toList [37, 115]).2.1 := rfl
          unfold partB
          rw [x1, x2]
          by_cases h8 : f.size ≤ 8
          · rw [decide_eq_true h8, decide_eq_true (show (pcA f).size ≤ 8 by omega), decide_eq_true (show (pcB f).size ≤ 8 by omega)]
            simp [h8]
          · simp [h8]
        rw [e1, e2]
        by_cases hx : f.size ≤ 8 ∧ Cv.lettersB [43, 45] ((Lib.cut f.data.toList [37, 115]).1 ++ (Lib.cut f.data.toList [37, 115]).2.1) = true
        · rw [decide_eq_true hx, if_neg (by simp), if_neg (by simpa using hx)]
        · rw [decide_eq_false hx, if_pos rfl, if_pos hx]
    · rw [if_pos rfl]
      have hc := cut_yes (hs.symm.trans es)
      cases ep : pcF f
      · have e1 : rname f l sv = if sv = 0 then slA f else slB f := by unfold rname; rw [if_neg (by simp [ep]), if_pos es]
        have e2 : formB f = (Cv.nameB (slA f) && Cv.nameB (slB f)) := by
          unfold formB; rw [if_neg (by simp [ep]), if_pos es, name_part, name_part]
          cases fullB (slA f) <;> cases fullB (slB f) <;> simp
        rw [e1, e2]
        by_cases hx : Cv.nameB (slA f) = true ∧ Cv.nameB (slB f) = true
        · rw [hx.1, hx.2]; simp
        · rw [if_pos hx, if_pos]
          simpa using hx
      · have hcp := cut_yes (hp.symm.trans ep)
        have h47 : (47 : UInt8) ∈ f.data.toList := by rw [hc]; simp
        have h37 : (37 : UInt8) ∈ f.data.toList := by rw [hcp]; simp
        have e1 : formB f = false := by
          unfold formB
          rw [if_pos ep]
          rw [hcp] at h47
          simp at h47
          unfold partB
          rcases h47 with h | h
          · rw [letters_bad (l := (pcA f).data.toList) bad47 h]; simp
          · rw [letters_bad (l := (pcB f).data.toList) bad47 h]; simp
        have e2 : ¬ (Cv.nameB (slA f) = true ∧ Cv.nameB (slB f) = true) := by
          rw [hc] at h37
          simp at h37
          rw [name_part, name_part]
          unfold partB
          rcases h37 with h | h
          · rw [letters_bad (l := (slA f).data.toList) bad37 h]; simp
          · rw [letters_bad (l := (slB f).data.toList) bad37 h]; simp
        rw [if_pos e1, if_pos e2]
  · rw [if_pos hl, if_pos hl]

end Go.Proofs.Ytjpjmlljgcpbkaa

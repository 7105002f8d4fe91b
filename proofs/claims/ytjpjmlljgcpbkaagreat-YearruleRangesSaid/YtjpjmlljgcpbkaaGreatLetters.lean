/- yearrule.letters, name, zonelex.Name: what texts they take. -/
import Derived.Test.YtjpjmlljgcpbkaaGreatRune
namespace Go.Proofs.YtjpjmlljgcpbkaaGreat
set_option linter.unusedSimpArgs false
set_option linter.unusedVariables false
open Go.ChangeShapes Go.WideShapes Go.ChangeAt Go.RowKit

/-- the closure of letters, at a rune beyond ASCII -/
theorem closure_high (o : ByteArray) (r : Nat) (B : Nat) (w : World) (hs : o.size ≤ 2) (ha : ∀ (i : Nat), i < o.size → (o.get! i).toNat < 128) (h1 : 128 ≤ r) (h2 : r ≤ 1114111)
    (hc : w.cell? ⟨B, 0, none⟩ = some (.string o)) :
    Calls Tryz.prog 81 #[.int .i32 r, .pointer (some ⟨B, 0, none⟩)] w fun e w' => e = .returned (.bool (Cv.badR o.data.toList r)) ∧ Below w.heap.size w w' := by
  rw [Cv.badR_high _ h1]
  have hcr := fun W => ContainsRune_high o r W hs ha (by omega) (by omega)
  have HC := Lib.hid hcr
  clear hcr ha
  have h3 : (128 : Int) ≤ (r : Int) := by omega
  go_enter Tryz.func81, Tryz.ntmps81
  go_wp2_with (go_at_call 82; refine (HC.out _).mono ?_; rintro e w1 ⟨rfl, hb⟩)
  go_ret
  exact ⟨ret1 (vbool (by simp; omega)), hb⟩
set_option maxRecDepth 100000 in
set_option maxHeartbeats 1000000 in
theorem closure_low (o : ByteArray) (r : Nat) (B : Nat) (w : World) (h1 : r < 128) (hc : w.cell? ⟨B, 0, none⟩ = some (.string o)) :
    Calls Tryz.prog 81 #[.int .i32 r, .pointer (some ⟨B, 0, none⟩)] w fun e w' => e = .returned (.bool (Cv.badR o.data.toList r)) ∧ Below w.heap.size w w' := by
  have hb : Cv.badR o.data.toList r = (!Cv.alnumN r && !decide (0 ≤ Lib.indexByte o.data.toList r.toUInt8)) := by
    unfold Cv.badR
    rw [Cv.indexByte_mem]
    simp only [h1, decide_true, Bool.true_and]
    congr 2
    apply List.any_congr
    rfl
    intro b
    rw [Bool.eq_iff_iff]
    simp [← UInt8.toNat_inj]
    rw [Nat.mod_eq_of_lt (by omega)]
  rw [hb]
  clear hb
  have hal : Cv.alnumN r = ((decide (97 ≤ (r : Int)) && decide ((r : Int) ≤ 122)) || (decide (65 ≤ (r : Int)) && decide ((r : Int) ≤ 90)) || (decide (48 ≤ (r : Int)) && decide ((r : Int) ≤ 57))) := by
    unfold Cv.alnumN; rw [Bool.eq_iff_iff]; simp; omega
  rw [hal]
  clear hal
  have h3 : (r : Int) < 128 := by omega
  have hcs : (r : Int) < 48 ∨ (48 ≤ (r : Int) ∧ (r : Int) ≤ 57) ∨ (58 ≤ (r : Int) ∧ (r : Int) ≤ 64) ∨ (65 ≤ (r : Int) ∧ (r : Int) ≤ 90) ∨ (91 ≤ (r : Int) ∧ (r : Int) ≤ 96) ∨ (97 ≤ (r : Int) ∧ (r : Int) ≤ 122) ∨ 123 ≤ (r : Int) := by omega
  rcases hcs with g | ⟨g, g'⟩ | ⟨g, g'⟩ | ⟨g, g'⟩ | ⟨g, g'⟩ | ⟨g, g'⟩ | g
  all_goals
    go_enter Tryz.func81, Tryz.ntmps81
    go_wp2_with (go_at_call 82; refine (Tryz.strings_ContainsRune_ascii _ _ _ (by omega) (by omega)).mono ?_; rintro e w1 ⟨rfl, rfl⟩; rw [Int.toNat_natCast])
    go_ret
    refine ⟨ret1 (vbool ?_), Below.refl _ _⟩
    generalize Lib.indexByte o.data.toList r.toUInt8 = I
    clear hc
    rw [Bool.eq_iff_iff]
    try simp
  all_goals omega

/-- which other bytes letters may be given -/
def Oth (o : ByteArray) : Prop := o.size ≤ 2 ∧ ∀ (i : Nat), i < o.size → (o.get! i).toNat < 128
theorem oth_none : Oth ⟨#[]⟩ := ⟨by decide, fun i hi => absurd hi (by show ¬ i < 0; omega)⟩
theorem oth_signs : Oth ⟨#[43, 45]⟩ := ⟨by decide, fun i hi => by
  have : i = 0 ∨ i = 1 := by have : i < 2 := hi; omega
  rcases this with rfl | rfl <;> decide⟩
theorem closure_grows (o : ByteArray) (B : Nat) (w : World) (ho : Oth o) (hB : B < w.heap.size) (hc : w.cell? ⟨B, 0, none⟩ = some (.string o)) : PredGrows Tryz.prog 81 #[.pointer (some ⟨B, 0, none⟩)] (Cv.badR o.data.toList) w := by
  intro W x hx hb
  have hc' : W.cell? ⟨B, 0, none⟩ = some (.string o) := (hb.cell (p := ⟨B, 0, none⟩) hB).trans hc
  by_cases h : x < 128
  · exact closure_low o x B W h hc'
  · exact closure_high o x B W ho.1 ho.2 (by omega) hx hc'
theorem letters_any (s o : ByteArray) (w : World) (ho : Oth o) :
    Calls Tryz.prog 50 #[.string s, .string o] w fun e w' => e = .returned (.bool (Cv.lettersB o.data.toList s.data.toList)) ∧ Below w.heap.size w w' := by
  have hC := fun W hB hc => Tryz.strings_ContainsFunc_grows 81 #[.pointer (some ⟨w.heap.size, 0, none⟩)] (enters_of Tryz.func81 (by kernel_rfl) rfl) (Cv.badR o.data.toList) s W (closure_grows o w.heap.size W ho hB hc)
  rw [Cv.idxFunc_letters] at hC
  have HC := Lib.hid hC
  clear hC ho
  go_enter Tryz.func50, Tryz.ntmps50
  go_wp2_with (go_at_call 80; refine (HC.out _ (by simp) (by simp)).mono ?_; rintro e w1 ⟨rfl, hb⟩)
  go_ret
  exact ⟨ret1 (vbool (by simp)), ((Below.refl _ _).alloc (Nat.le_refl _) _).trans (hb.mono (by simp))⟩

theorem toList_len (s : ByteArray) : s.toList.length = s.size := by
  rw [Lib.toList_data]; rfl
theorem isEmpty_no {s : ByteArray} (h : 1 ≤ s.size) : s.toList.isEmpty = false := by
  cases e : s.toList with
  | nil => have := toList_len s; rw [e] at this; simp at this; omega
  | cons a l => rfl
theorem isEmpty_nil {s : ByteArray} (h : s.size = 0) : s.toList = [] := List.eq_nil_of_length_eq_zero (by rw [toList_len, h])
/-- name: a name of a type -/
theorem name_any (s : ByteArray) (w : World) :
    Calls Tryz.prog 57 #[.string s] w fun e w' => e = .returned (.bool (Cv.nameB s)) ∧ Below w.heap.size w w' := by
  by_cases h0 : s.size = 0
  · rw [show Cv.nameB s = false by unfold Cv.nameB; rw [decide_eq_false (by omega)]; rfl]
    have h1 := isEmpty_nil h0
    go_enter Tryz.func57, Tryz.ntmps57
    go_wp2
    go_ret
    exact ⟨rfl, Below.refl _ _⟩
  · have hne := isEmpty_no (s := s) (by omega)
    have hn2 : ¬ s.toList = [] := by intro h; rw [h] at hne; cases hne
    by_cases h1 : s.size ≤ 8
    · have hl := fun W => letters_any s ⟨#[43, 45]⟩ W oth_signs
      have HL := Lib.hid hl
      rw [show Cv.nameB s = Cv.lettersB [43, 45] s.data.toList by unfold Cv.nameB; rw [decide_eq_true (by omega)]; rfl]
      clear hl
      go_enter Tryz.func57, Tryz.ntmps57
      go_wp2_with (go_at_call 50; refine (HL.out _).mono ?_; rintro e w1 ⟨rfl, hb⟩)
      go_ret
      exact ⟨rfl, hb⟩
    · rw [show Cv.nameB s = false by unfold Cv.nameB; rw [decide_eq_false (by omega)]; rfl]
      go_enter Tryz.func57, Tryz.ntmps57
      go_wp2
      go_ret
      exact ⟨rfl, Below.refl _ _⟩

theorem zletter (c : Int) (w : World) : Calls Tryz.prog 77 #[.int .u8 c] w fun e w' => e = .returned (.bool (Cv.ltrI c)) ∧ w = w' := by
  have hcs : c < 65 ∨ (65 ≤ c ∧ c ≤ 90) ∨ (91 ≤ c ∧ c ≤ 96) ∨ (97 ≤ c ∧ c ≤ 122) ∨ 123 ≤ c := by omega
  rcases hcs with g | ⟨g, g'⟩ | ⟨g, g'⟩ | ⟨g, g'⟩ | g
  all_goals
    go_enter Tryz.func77, Tryz.ntmps77
    go_wp2
    go_ret
    exact ⟨ret1 (vbool (by unfold Cv.ltrI; rw [Bool.eq_iff_iff]; simp; omega)), rfl⟩
theorem zdigit (c : Int) (w : World) : Calls Tryz.prog 78 #[.int .u8 c] w fun e w' => e = .returned (.bool (Cv.digI c)) ∧ w = w' := by
  have hcs : c < 48 ∨ (48 ≤ c ∧ c ≤ 57) ∨ 58 ≤ c := by omega
  rcases hcs with g | ⟨g, g'⟩ | g
  all_goals
    go_enter Tryz.func78, Tryz.ntmps78
    go_wp2
    go_ret
    exact ⟨ret1 (vbool (by unfold Cv.digI; rw [Bool.eq_iff_iff]; simp; omega)), rfl⟩

end Go.Proofs.YtjpjmlljgcpbkaaGreat

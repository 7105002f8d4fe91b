/- Plain definitions and lemmas of the civil calendar: no program in sight. -/
import Derived.Handy
import Derived.Lib.TrimUEq
import Derived.Lib.MapLaws
import Derived.Lib.IndexLaws
import Derived.Shelf.GgClosure.StringsIndexFunc
namespace Go.Proofs.YtjpjmlljgcpbkaaGreat.Cv
set_option linter.unusedSimpArgs false
set_option linter.unusedVariables false

def yearB (y : Int) : Bool := decide (1 ≤ y ∧ y ≤ 9999)
def leapB (y : Int) : Bool := yearB y && (y % 4 == 0 && (y % 100 != 0 || y % 400 == 0))
def mlen (y m : Int) : Int := if m = 2 then (if leapB y then 29 else 28) else if m = 4 ∨ m = 6 ∨ m = 9 ∨ m = 11 then 30 else 31
/-- the length of a month; 0 if there is none -/
def lenF (y m : Int) : Int := if 1 ≤ y ∧ y ≤ 9999 ∧ 1 ≤ m ∧ m ≤ 12 then mlen y m else 0
/-- the number of a day, by years that begin in March -/
def cnt (y m d : Int) : Int := 365 * y + y / 4 - y / 100 + y / 400 + (153 * (m - 3) + 2) / 5 + d - 307 + -719162
def count (y m d : Int) : Int := if m ≤ 2 then cnt (y - 1) (m + 12) d else cnt y m d
def validB (y m d : Int) : Bool := decide (1 ≤ d ∧ d ≤ lenF y m)
/-- the weekday of any day, from 1 (Monday) to 7 -/
def wd (d : Int) : Int := (d + 3) % 7 + 1
def insideB (d : Int) : Bool := decide (-719162 ≤ d ∧ d < 2932897)
def wdF (d : Int) : Int := if -719162 ≤ d ∧ d < 2932897 then wd d else 0
/-- the day before the first of January of a year, counted as the reference does -/
def first (y : Int) : Int := -719162 + 365 * (y - 1) + (y - 1) / 4 - (y - 1) / 100 + (y - 1) / 400
/-- the days of a year ahead of a month -/
def ahead (y : Int) : Nat → Int
  | 0 => 0
  | k + 1 => ahead y k + lenF y (k + 1)

theorem mlen_bd (y m : Int) : 28 ≤ mlen y m ∧ mlen y m ≤ 31 := by unfold mlen; split <;> split <;> omega
theorem lenF_bd (y m : Int) : 0 ≤ lenF y m ∧ lenF y m ≤ 31 := by unfold lenF; have := mlen_bd y m; split <;> omega
theorem lenF_pos {y m : Int} (h : 1 ≤ lenF y m) : 1 ≤ y ∧ y ≤ 9999 ∧ 1 ≤ m ∧ m ≤ 12 := by
  unfold lenF at h; split at h <;> omega
theorem lenF_in {y m : Int} (h : 1 ≤ y ∧ y ≤ 9999 ∧ 1 ≤ m ∧ m ≤ 12) : lenF y m = mlen y m := if_pos h
theorem leapB_iff {y : Int} (h : 1 ≤ y ∧ y ≤ 9999) : leapB y = (y % 4 == 0 && (y % 100 != 0 || y % 400 == 0)) := by
  unfold leapB yearB; simp [h]
theorem months {m : Int} (h : 1 ≤ m) (h' : m ≤ 12) : m = 1 ∨ m = 2 ∨ m = 3 ∨ m = 4 ∨ m = 5 ∨ m = 6 ∨ m = 7 ∨ m = 8 ∨ m = 9 ∨ m = 10 ∨ m = 11 ∨ m = 12 := by omega
theorem validB_iff {y m d : Int} : validB y m d = true ↔ (1 ≤ y ∧ y ≤ 9999 ∧ 1 ≤ m ∧ m ≤ 12 ∧ 1 ≤ d ∧ d ≤ mlen y m) := by
  unfold validB
  rw [decide_eq_true_iff]
  constructor
  · intro ⟨h1, h2⟩
    have h3 := lenF_pos (y := y) (m := m) (by omega)
    rw [lenF_in h3] at h2
    exact ⟨h3.1, h3.2.1, h3.2.2.1, h3.2.2.2, h1, h2⟩
  · intro ⟨a, b, c, d', e, f⟩
    rw [lenF_in ⟨a, b, c, d'⟩]; exact ⟨e, f⟩
/-- whether a year is leap, as a number -/
def lp (y : Int) : Int := if leapB y then 1 else 0
theorem lp_eq {y : Int} (h : 1 ≤ y ∧ y ≤ 9999) : lp y = y / 4 - y / 100 + y / 400 - ((y - 1) / 4 - (y - 1) / 100 + (y - 1) / 400) := by
  unfold lp; rw [leapB_iff h]
  by_cases a : y % 4 = 0 <;> by_cases b : y % 100 = 0 <;> by_cases c : y % 400 = 0 <;> simp [a, b, c] <;> omega
theorem lp_bd (y : Int) : 0 ≤ lp y ∧ lp y ≤ 1 := by unfold lp; split <;> omega
theorem mlen_lp (y m : Int) : mlen y m = if m = 2 then 28 + lp y else if m = 4 ∨ m = 6 ∨ m = 9 ∨ m = 11 then 30 else 31 := by
  unfold mlen lp; split <;> (try split) <;> first | rfl | omega
theorem ahead_eq {y : Int} (h : 1 ≤ y ∧ y ≤ 9999) {m : Nat} (hm : m ≤ 12) :
    ahead y m = if m = 0 then 0 else if m = 1 then 31 else lp y + (153 * ((m : Int) - 2) + 2) / 5 + 59 := by
  have hl : ∀ k : Int, 1 ≤ k → k ≤ 12 → lenF y k = if k = 2 then 28 + lp y else if k = 4 ∨ k = 6 ∨ k = 9 ∨ k = 11 then 30 else 31 := fun k h1 h2 => by
    rw [lenF_in ⟨h.1, h.2, h1, h2⟩, mlen_lp]
  have e0 : ahead y 0 = 0 := rfl
  have e1 : ahead y 1 = ahead y 0 + (31) := by show ahead y 0 + lenF y ((0 : Nat) + 1 : Int) = _; rw [show (((0 : Nat) : Int) + 1) = 1 from rfl, hl 1 (by omega) (by omega)]; rfl
  have e2 : ahead y 2 = ahead y 1 + (28 + lp y) := by show ahead y 1 + lenF y ((1 : Nat) + 1 : Int) = _; rw [show (((1 : Nat) : Int) + 1) = 2 from rfl, hl 2 (by omega) (by omega)]; rfl
  have e3 : ahead y 3 = ahead y 2 + (31) := by show ahead y 2 + lenF y ((2 : Nat) + 1 : Int) = _; rw [show (((2 : Nat) : Int) + 1) = 3 from rfl, hl 3 (by omega) (by omega)]; rfl
  have e4 : ahead y 4 = ahead y 3 + (30) := by show ahead y 3 + lenF y ((3 : Nat) + 1 : Int) = _; rw [show (((3 : Nat) : Int) + 1) = 4 from rfl, hl 4 (by omega) (by omega)]; rfl
  have e5 : ahead y 5 = ahead y 4 + (31) := by show ahead y 4 + lenF y ((4 : Nat) + 1 : Int) = _; rw [show (((4 : Nat) : Int) + 1) = 5 from rfl, hl 5 (by omega) (by omega)]; rfl
  have e6 : ahead y 6 = ahead y 5 + (30) := by show ahead y 5 + lenF y ((5 : Nat) + 1 : Int) = _; rw [show (((5 : Nat) : Int) + 1) = 6 from rfl, hl 6 (by omega) (by omega)]; rfl
  have e7 : ahead y 7 = ahead y 6 + (31) := by show ahead y 6 + lenF y ((6 : Nat) + 1 : Int) = _; rw [show (((6 : Nat) : Int) + 1) = 7 from rfl, hl 7 (by omega) (by omega)]; rfl
  have e8 : ahead y 8 = ahead y 7 + (31) := by show ahead y 7 + lenF y ((7 : Nat) + 1 : Int) = _; rw [show (((7 : Nat) : Int) + 1) = 8 from rfl, hl 8 (by omega) (by omega)]; rfl
  have e9 : ahead y 9 = ahead y 8 + (30) := by show ahead y 8 + lenF y ((8 : Nat) + 1 : Int) = _; rw [show (((8 : Nat) : Int) + 1) = 9 from rfl, hl 9 (by omega) (by omega)]; rfl
  have e10 : ahead y 10 = ahead y 9 + (31) := by show ahead y 9 + lenF y ((9 : Nat) + 1 : Int) = _; rw [show (((9 : Nat) : Int) + 1) = 10 from rfl, hl 10 (by omega) (by omega)]; rfl
  have e11 : ahead y 11 = ahead y 10 + (30) := by show ahead y 10 + lenF y ((10 : Nat) + 1 : Int) = _; rw [show (((10 : Nat) : Int) + 1) = 11 from rfl, hl 11 (by omega) (by omega)]; rfl
  have e12 : ahead y 12 = ahead y 11 + (31) := by show ahead y 11 + lenF y ((11 : Nat) + 1 : Int) = _; rw [show (((11 : Nat) : Int) + 1) = 12 from rfl, hl 12 (by omega) (by omega)]; rfl
  clear hl
  have hm' : m = 0 ∨ m = 1 ∨ m = 2 ∨ m = 3 ∨ m = 4 ∨ m = 5 ∨ m = 6 ∨ m = 7 ∨ m = 8 ∨ m = 9 ∨ m = 10 ∨ m = 11 ∨ m = 12 := by omega
  rcases hm' with rfl | rfl | rfl | rfl | rfl | rfl | rfl | rfl | rfl | rfl | rfl | rfl | rfl
  · exact e0
  · rw [e1, e0]; rfl
  · rw [if_neg (by omega), if_neg (by omega)]; omega
  · rw [if_neg (by omega), if_neg (by omega)]; omega
  · rw [if_neg (by omega), if_neg (by omega)]; omega
  · rw [if_neg (by omega), if_neg (by omega)]; omega
  · rw [if_neg (by omega), if_neg (by omega)]; omega
  · rw [if_neg (by omega), if_neg (by omega)]; omega
  · rw [if_neg (by omega), if_neg (by omega)]; omega
  · rw [if_neg (by omega), if_neg (by omega)]; omega
  · rw [if_neg (by omega), if_neg (by omega)]; omega
  · rw [if_neg (by omega), if_neg (by omega)]; omega
  · rw [if_neg (by omega), if_neg (by omega)]; omega
/-- the reference's number of a date is the program's -/
theorem first_ahead {y : Int} (h : 1 ≤ y ∧ y ≤ 9999) {m : Int} (h1 : 1 ≤ m) (h2 : m ≤ 12) (d : Int) :
    first y + (d + ahead y (m - 1).toNat) - 1 = count y m d := by
  have e := ahead_eq h (m := (m - 1).toNat) (by omega)
  have l := lp_eq h
  rw [e]
  unfold first count cnt
  clear e
  generalize y / 4 = a at *
  generalize y / 100 = b at *
  generalize y / 400 = c at *
  generalize (y - 1) / 4 = a' at *
  generalize (y - 1) / 100 = b' at *
  generalize (y - 1) / 400 = c' at *
  rcases months h1 h2 with rfl | rfl | rfl | rfl | rfl | rfl | rfl | rfl | rfl | rfl | rfl | rfl <;> simp <;> omega
theorem ahead_bd (y : Int) (m : Nat) : 0 ≤ ahead y m ∧ ahead y m ≤ 31 * m := by
  induction m with
  | zero => exact ⟨Int.le_refl _, by simp [ahead]⟩
  | succ k ih => have := lenF_bd y ((k : Int) + 1); simp only [ahead]; omega
theorem count_bd {y m d : Int} (hy : 1 ≤ y ∧ y ≤ 10000) (hm : 1 ≤ m ∧ m ≤ 12) (hd : 0 ≤ d ∧ d ≤ 32) : -719163 ≤ count y m d ∧ count y m d ≤ 2933500 := by
  unfold count cnt; split <;> omega
theorem leaps_le {z : Int} (h : 0 ≤ z) (h' : z ≤ 9999) : 0 ≤ z / 4 - z / 100 + z / 400 ∧ z / 4 - z / 100 + z / 400 ≤ 2424 := by omega
theorem first_bd {y : Int} (h : 1 ≤ y) (h' : y ≤ 10000) : -719162 ≤ first y ∧ first y ≤ 2932897 - 365 * (10000 - y) := by
  have := leaps_le (z := y - 1) (by omega) (by omega)
  unfold first; omega
theorem first_succ {y : Int} (h : 1 ≤ y ∧ y ≤ 9999) : first (y + 1) = first y + 365 + lp y := by
  have l := lp_eq h
  unfold first
  rw [show y + 1 - 1 = y by omega]
  generalize y / 4 = a at *
  generalize y / 100 = b at *
  generalize y / 400 = c at *
  generalize (y - 1) / 4 = a' at *
  generalize (y - 1) / 100 = b' at *
  generalize (y - 1) / 400 = c' at *
  omega
theorem count_in {y m d : Int} (h : validB y m d = true) : -719162 ≤ count y m d ∧ count y m d < 2932897 := by
  obtain ⟨a, b, c, e, f, g⟩ := validB_iff.1 h
  rw [mlen_lp] at g
  have lb := lp_bd y
  have f1 := first_bd a (show y ≤ 10000 by omega)
  have f2 := first_bd (show 1 ≤ y + 1 by omega) (show y + 1 ≤ 10000 by omega)
  rw [first_succ ⟨a, b⟩] at f2
  have ea := ahead_eq ⟨a, b⟩ (m := (m - 1).toNat) (by omega)
  rw [← first_ahead ⟨a, b⟩ c e, ea]
  generalize first y = F at *
  generalize lp y = L at *
  rcases months c e with rfl | rfl | rfl | rfl | rfl | rfl | rfl | rfl | rfl | rfl | rfl | rfl <;> simp at g ⊢ <;> omega
theorem wd_bd (d : Int) : 1 ≤ wd d ∧ wd d ≤ 7 := by unfold wd; omega

/-! ### texts -/
def alnumN (r : Nat) : Bool := (decide (97 ≤ r) && decide (r ≤ 122)) || (decide (65 ≤ r) && decide (r ≤ 90)) || (decide (48 ≤ r) && decide (r ≤ 57))
/-- a rune that is no letter, no digit, and none of some other bytes -/
def badR (o : List UInt8) (r : Nat) : Bool := !alnumN r && !(decide (r < 128) && o.any fun b => b.toNat == r)
/-- whether a text has letters, digits, and some other bytes only -/
def lettersB (o : List UInt8) (s : List UInt8) : Bool := s.all fun b => !badR o b.toNat
/-- whether a text is a name of a type -/
def nameB (s : ByteArray) : Bool := decide (1 ≤ s.size ∧ s.size ≤ 8) && lettersB [43, 45] s.data.toList
theorem badR_high (o : List UInt8) {r : Nat} (h : 128 ≤ r) : badR o r = true := by
  unfold badR alnumN
  simp [show ¬ r < 128 by omega, show ¬ r ≤ 122 by omega, show ¬ r ≤ 90 by omega, show ¬ r ≤ 57 by omega]
theorem decode_high (s : ByteArray) (pos : Nat) (h : 128 ≤ (s.get! pos).toNat) : 128 ≤ (Utf8.decode s pos).1 := by
  rw [Lib.decode_at]
  rcases Lib.decodeN_shape (s.size - pos) (s.get! pos).toNat (s.get! (pos + 1)).toNat (s.get! (pos + 2)).toNat (s.get! (pos + 3)).toNat with ⟨a, e⟩ | ⟨_, _, _, a, e⟩ | ⟨_, _, _, _, a, _, e⟩ | ⟨_, _, _, _, _, a, _, e⟩ | e <;> rw [e] <;> dsimp only <;> omega
theorem get!_toList (s : ByteArray) (i : Nat) (h : i < s.size) : s.data.toList[i]? = some (s.get! i) := by
  rw [Array.getElem?_toList, Array.getElem?_eq_getElem (by exact h)]
  simp [ByteArray.get!, h]
theorem idxFuncFrom_iff (o : List UInt8) (s : ByteArray) : ∀ (f pos : Nat), s.size ≤ pos + f →
    (0 ≤ Lib.idxFuncFrom (badR o) true s f pos ↔ ∃ i, pos ≤ i ∧ i < s.size ∧ badR o (s.get! i).toNat = true)
  | 0, pos, h => by
    simp only [Lib.idxFuncFrom]
    constructor
    · intro h0; omega
    · rintro ⟨i, h1, h2, _⟩; omega
  | f + 1, pos, h => by
    simp only [Lib.idxFuncFrom]
    by_cases hp : pos < s.size
    · rw [if_pos hp]
      by_cases ha : (s.get! pos).toNat < 128
      · have hd : Utf8.decode s pos = ((s.get! pos).toNat, 1) := by rw [Lib.decode_at]; exact Lib.decodeN_ascii _ _ _ _ _ ha
        rw [hd]
        dsimp only
        by_cases hb : badR o (s.get! pos).toNat = true
        · rw [if_pos hb]
          exact ⟨fun _ => ⟨pos, Nat.le_refl _, hp, hb⟩, fun _ => by omega⟩
        · rw [if_neg hb, idxFuncFrom_iff o s f (pos + 1) (by omega)]
          constructor
          · rintro ⟨i, h1, h2, h3⟩; exact ⟨i, by omega, h2, h3⟩
          · rintro ⟨i, h1, h2, h3⟩
            have : i ≠ pos := fun e => hb (e ▸ h3)
            exact ⟨i, by omega, h2, h3⟩
      · have hd := decode_high s pos (by omega)
        rw [if_pos (badR_high o hd)]
        exact ⟨fun _ => ⟨pos, Nat.le_refl _, hp, badR_high o (by omega)⟩, fun _ => by omega⟩
    · rw [if_neg hp]
      constructor
      · intro h0; omega
      · rintro ⟨i, h1, h2, _⟩; omega
theorem idxFunc_letters (o : List UInt8) (s : ByteArray) : decide (0 ≤ Lib.idxFunc (badR o) true s) = !lettersB o s.data.toList := by
  have h := idxFuncFrom_iff o s s.size 0 (by omega)
  rw [Bool.eq_iff_iff, decide_eq_true_iff]
  unfold Lib.idxFunc
  rw [h]
  unfold lettersB
  simp only [Bool.not_eq_true', List.all_eq_false, Bool.not_eq_true, Bool.not_eq_false']
  constructor
  · rintro ⟨i, _, h2, h3⟩
    refine ⟨s.get! i, ?_, by simpa using h3⟩
    exact List.mem_of_getElem? (get!_toList s i h2)
  · rintro ⟨b, hb, h3⟩
    obtain ⟨i, hi, he⟩ := List.getElem_of_mem hb
    have hi' : i < s.size := by simpa using hi
    have e := get!_toList s i hi'
    rw [List.getElem?_eq_getElem hi, he] at e
    injection e with e
    exact ⟨i, Nat.zero_le _, hi', by rw [← e]; simpa using h3⟩
theorem indexByte_mem (l : List UInt8) (c : UInt8) : decide (0 ≤ Lib.indexByte l c) = l.any fun b => b == c := by
  induction l with
  | nil => simp [Lib.indexByte]
  | cons b l ih =>
    have hg := Lib.indexByte_ge l c
    rw [List.any_cons, ← ih]
    rw [show Lib.indexByte (b :: l) c = if b == c then 0 else if Lib.indexByte l c == -1 then -1 else Lib.indexByte l c + 1 from rfl]
    by_cases e : (b == c) = true
    · simp [e]
    · by_cases e2 : (Lib.indexByte l c == -1) = true
      · have : Lib.indexByte l c = -1 := by simpa using e2
        simp [e, this]
      · have : Lib.indexByte l c ≠ -1 := by simpa using e2
        simp [e, e2]; omega

def ltrI (c : Int) : Bool := decide ((65 ≤ c ∧ c ≤ 90) ∨ (97 ≤ c ∧ c ≤ 122))
def digI (c : Int) : Bool := decide (48 ≤ c ∧ c ≤ 57)
def namI (c : Int) : Bool := ltrI c || digI c || c == 95 || c == 47 || c == 43 || c == 45
/-- whether a text is a name -/
def nameZ (s : ByteArray) : Bool := decide (1 ≤ s.size ∧ s.size ≤ 30) && ltrI (s.get! 0).toNat && s.data.toList.all fun b => namI b.toNat
theorem nameZ_no {s : ByteArray} (h : ¬ (1 ≤ s.size ∧ s.size ≤ 30)) : nameZ s = false := by unfold nameZ; rw [decide_eq_false h]; rfl
theorem all_bad {s : ByteArray} {p : UInt8 → Bool} {k : Nat} (hk : k < s.size) (h : p (s[k]'hk) = false) : s.data.toList.all p = false := by
  rw [List.all_eq_false]
  refine ⟨s[k]'hk, ?_, by simp [h]⟩
  exact List.mem_of_getElem? (i := k) (by rw [Array.getElem?_toList, Array.getElem?_eq_getElem (by exact hk)]; rfl)
theorem take_snoc (s : ByteArray) (k : Nat) (h : k < s.size) : s.data.toList.take (k + 1) = s.data.toList.take k ++ [s[k]] := by
  rw [List.take_succ_eq_append_getElem (by simpa using h)]; rfl
theorem all_snoc {s : ByteArray} {p : UInt8 → Bool} {k : Nat} (hk : k < s.size) (h0 : (s.data.toList.take k).all p = true) (h : p (s[k]'hk) = true) : (s.data.toList.take (k + 1)).all p = true := by
  rw [take_snoc s k hk, List.all_append, h0]; simp [h]
theorem all_end {s : ByteArray} {p : UInt8 → Bool} {k : Nat} (hk : s.size ≤ k) (h0 : (s.data.toList.take k).all p = true) : s.data.toList.all p = true := by
  rw [List.take_of_length_le (by simpa using hk)] at h0; exact h0
theorem get!_eq (s : ByteArray) (i : Nat) (h : i < s.size) : s.get! i = s[i]'h := by
  have e := get!_toList s i h
  rw [Array.getElem?_toList, Array.getElem?_eq_getElem (by exact h)] at e
  injection e with e
  exact e.symm

/-! ### rules -/
def dayB (mo d : Int) : Bool := decide (1 ≤ d ∧ d ≤ lenF 2000 mo)
def wkB (wk : Int) : Bool := decide (1 ≤ wk ∧ wk ≤ 7)
/-- whether an On is valid for a month -/
def fitsB (mo k wk d : Int) : Bool :=
  if mo < 1 ∨ 12 < mo then false
  else if k = 1 then dayB mo d && wk == 0
  else if k = 2 then wkB wk && d == 0
  else if k = 3 then dayB mo d && wkB wk
  else if k = 4 then dayB mo d && wkB wk
  else false
theorem lenF_2000 {mo : Int} (h : 1 ≤ mo) (h' : mo ≤ 12) : 29 ≤ lenF 2000 mo := by
  rw [lenF_in ⟨by omega, by omega, h, h'⟩]; unfold mlen; split
  · rw [if_pos (by decide)]; omega
  · split <;> omega
/-- the day that limits an On, or the last one of the month -/
def onN (y mo k d : Int) : Int := if k = 2 then lenF y mo else d
/-- the day of an On with a limit -/
def onDay (k wk day : Int) : Int := if k = 1 then day else if k = 3 then day + (wk - wd day) % 7 else day - (wd day - wk) % 7
/-- Day: the day, and the error's number -/
def dayF (y mo k wk d : Int) : Int × Int :=
  if fitsB mo k wk d = false then (0, 1)
  else if y < 1 ∨ 9999 < y then (0, 2)
  else if validB y mo (onN y mo k d) = false then (0, 7)
  else if insideB (onDay k wk (count y mo (onN y mo k d))) = false then (0, 2)
  else (onDay k wk (count y mo (onN y mo k d)), 0)
theorem fitsB_mo {mo k wk d : Int} (h : fitsB mo k wk d = true) : 1 ≤ mo ∧ mo ≤ 12 := by
  unfold fitsB at h; split at h
  · cases h
  · omega
theorem fitsB_k {mo k wk d : Int} (h : fitsB mo k wk d = true) : 1 ≤ k ∧ k ≤ 4 := by
  unfold fitsB at h; repeat' split at h
  all_goals first | (cases h; done) | omega
theorem fitsB_wk {mo k wk d : Int} (h : fitsB mo k wk d = true) (hk : k ≠ 1) : 1 ≤ wk ∧ wk ≤ 7 := by
  unfold fitsB wkB at h; repeat' split at h
  all_goals first | (cases h; done) | omega | (simp at h; omega)
theorem onDay_bd {k wk day : Int} (hw : k ≠ 1 → 1 ≤ wk ∧ wk ≤ 7) : day - 6 ≤ onDay k wk day ∧ onDay k wk day ≤ day + 6 := by
  have := wd_bd day
  unfold onDay; split
  · omega
  · split <;> omega
theorem dayF_bd (y mo k wk d : Int) : -719162 ≤ (dayF y mo k wk d).1 ∧ (dayF y mo k wk d).1 < 2932897 ∧ 0 ≤ (dayF y mo k wk d).2 ∧ (dayF y mo k wk d).2 ≤ 7 := by
  unfold dayF; repeat' split
  all_goals first | (simp; done) | skip
  rename_i h
  simp [insideB] at h ⊢; omega

end Go.Proofs.YtjpjmlljgcpbkaaGreat.Cv

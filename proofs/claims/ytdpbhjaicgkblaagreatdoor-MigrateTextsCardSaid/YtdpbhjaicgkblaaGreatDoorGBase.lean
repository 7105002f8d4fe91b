/- Joined by merge.py: Plain, Rule, Mem. -/
import Derived.Handy
import Derived.Lib.TrimUEq
import Derived.Lib.MapLaws
import Derived.Lib.IndexLaws
import Derived.Shelf.GgClosure.StringsIndexFunc
import Derived.Lib.OwnBridge
import Derived.Lib.AppendIntMem
import Derived.Maps.AppendAt
import Derived.Deep.AppendLies
import Derived.Shelf.SlSortCmp.NoneTotal
/- Plain definitions and lemmas of the civil calendar: no program in sight. -/
namespace Go.Proofs.YtdpbhjaicgkblaaGreatDoor.Cv
set_option linter.unusedSimpArgs false
set_option linter.unusedVariables false
def yearB (y : Int) : Bool := decide (1 ≤ y ∧ y ≤ 9999)
def leapB (y : Int) : Bool := yearB y && (y % 4 == 0 && (y % 100 != 0 || y % 400 == 0))
def mlen (y m : Int) : Int := if m = 2 then (if leapB y then 29 else 28) else if m = 4 ∨ m = 6 ∨ m = 9 ∨ m = 11 then 30 else 31
def lenF (y m : Int) : Int := if 1 ≤ y ∧ y ≤ 9999 ∧ 1 ≤ m ∧ m ≤ 12 then mlen y m else 0
def cnt (y m d : Int) : Int := 365 * y + y / 4 - y / 100 + y / 400 + (153 * (m - 3) + 2) / 5 + d - 307 + -719162
def count (y m d : Int) : Int := if m ≤ 2 then cnt (y - 1) (m + 12) d else cnt y m d
def validB (y m d : Int) : Bool := decide (1 ≤ d ∧ d ≤ lenF y m)
def wd (d : Int) : Int := (d + 3) % 7 + 1
def insideB (d : Int) : Bool := decide (-719162 ≤ d ∧ d < 2932897)
def wdF (d : Int) : Int := if -719162 ≤ d ∧ d < 2932897 then wd d else 0
def first (y : Int) : Int := -719162 + 365 * (y - 1) + (y - 1) / 4 - (y - 1) / 100 + (y - 1) / 400
def ahead (y : Int) : Nat → Int
 | 0 => 0
 | k + 1 => ahead y k + lenF y (k + 1)
theorem mlen_bd (y m : Int) : 28 ≤ mlen y m ∧ mlen y m ≤ 31 := by unfold mlen; split <;> split <;> omega
theorem lenF_bd (y m : Int) : 0 ≤ lenF y m ∧ lenF y m ≤ 31 := by unfold lenF; have := mlen_bd y m; split <;> omega
theorem lenF_pos {y m : Int} (h : 1 ≤ lenF y m) : 1 ≤ y ∧ y ≤ 9999 ∧ 1 ≤ m ∧ m ≤ 12 := by
 unfold lenF at h; split at h <;> omega
theorem lenF_in {y m : Int} (h : 1 ≤ y ∧ y ≤ 9999 ∧ 1 ≤ m ∧ m ≤ 12) : lenF y m = mlen y m := if_pos h
theorem leapB_iff {y : Int} (h : 1 ≤ y ∧ y ≤ 9999) : leapB y = (y % 4 == 0 && (y % 100 != 0 || y % 400 == 0)) := by
 unfold leapB yearB; simp [h]
theorem months {m : Int} (h : 1 ≤ m) (h' : m ≤ 12) : m = 1 ∨ m = 2 ∨ m = 3 ∨ m = 4 ∨ m = 5 ∨ m = 6 ∨ m = 7 ∨ m = 8 ∨ m = 9 ∨ m = 10 ∨ m = 11 ∨ m = 12 := by omega
theorem validB_iff {y m d : Int} : validB y m d = true ↔ (1 ≤ y ∧ y ≤ 9999 ∧ 1 ≤ m ∧ m ≤ 12 ∧ 1 ≤ d ∧ d ≤ mlen y m) := by
 unfold validB
 rw [decide_eq_true_iff]
 constructor
 ·intro ⟨h1, h2⟩
  have h3 := lenF_pos (y := y) (m := m) (by omega)
  rw [lenF_in h3] at h2
  exact ⟨h3.1, h3.2.1, h3.2.2.1, h3.2.2.2, h1, h2⟩
 ·intro ⟨a, b, c, d', e, f⟩
  rw [lenF_in ⟨a, b, c, d'⟩]; exact ⟨e, f⟩
def lp (y : Int) : Int := if leapB y then 1 else 0
theorem lp_eq {y : Int} (h : 1 ≤ y ∧ y ≤ 9999) : lp y = y / 4 - y / 100 + y / 400 - ((y - 1) / 4 - (y - 1) / 100 + (y - 1) / 400) := by
 unfold lp; rw [leapB_iff h]
 by_cases a : y % 4 = 0 <;> by_cases b : y % 100 = 0 <;> by_cases c : y % 400 = 0 <;> simp [a, b, c] <;> omega
theorem lp_bd (y : Int) : 0 ≤ lp y ∧ lp y ≤ 1 := by unfold lp; split <;> omega
theorem mlen_lp (y m : Int) : mlen y m = if m = 2 then 28 + lp y else if m = 4 ∨ m = 6 ∨ m = 9 ∨ m = 11 then 30 else 31 := by
 unfold mlen lp; split <;> (try split) <;> first | rfl | omega
theorem ahead_eq {y : Int} (h : 1 ≤ y ∧ y ≤ 9999) {m : Nat} (hm : m ≤ 12) :
  ahead y m = if m = 0 then 0 else if m = 1 then 31 else lp y + (153 * ((m : Int) - 2) + 2) / 5 + 59 := by
 have hl : ∀ k : Int, 1 ≤ k → k ≤ 12 → lenF y k = if k = 2 then 28 + lp y else if k = 4 ∨ k = 6 ∨ k = 9 ∨ k = 11 then 30 else 31 := fun k h1 h2 => by
  rw [lenF_in ⟨h.1, h.2, h1, h2⟩, mlen_lp]
 have e0 : ahead y 0 = 0 := rfl
 have e1 : ahead y 1 = ahead y 0 + (31) := by show ahead y 0 + lenF y ((0 : Nat) + 1 : Int) = _; rw [show (((0 : Nat) : Int) + 1) = 1 from rfl, hl 1 (by omega) (by omega)]; rfl
 have e2 : ahead y 2 = ahead y 1 + (28 + lp y) := by show ahead y 1 + lenF y ((1 : Nat) + 1 : Int) = _; rw [show (((1 : Nat) : Int) + 1) = 2 from rfl, hl 2 (by omega) (by omega)]; rfl
 have e3 : ahead y 3 = ahead y 2 + (31) := by show ahead y 2 + lenF y ((2 : Nat) + 1 : Int) = _; rw [show (((2 : Nat) : Int) + 1) = 3 from rfl, hl 3 (by omega) (by omega)]; rfl
 have e4 : ahead y 4 = ahead y 3 + (30) := by show ahead y 3 + lenF y ((3 : Nat) + 1 : Int) = _; rw [show (((3 : Nat) : Int) + 1) = 4 from rfl, hl 4 (by omega) (by omega)]; rfl
 have e5 : ahead y 5 = ahead y 4 + (31) := by show ahead y 4 + lenF y ((4 : Nat) + 1 : Int) = _; rw [show (((4 : Nat) : Int) + 1) = 5 from rfl, hl 5 (by omega) (by omega)]; rfl
 have e6 : ahead y 6 = ahead y 5 + (30) := by show ahead y 5 + lenF y ((5 : Nat) + 1 : Int) = _; rw [show (((5 : Nat) : Int) + 1) = 6 from rfl, hl 6 (by omega) (by omega)]; rfl
 have e7 : ahead y 7 = ahead y 6 + (31) := by show ahead y 6 + lenF y ((6 : Nat) + 1 : Int) = _; rw [show (((6 : Nat) : Int) + 1) = 7 from rfl, hl 7 (by omega) (by omega)]; rfl
 have e8 : ahead y 8 = ahead y 7 + (31) := by show ahead y 7 + lenF y ((7 : Nat) + 1 : Int) = _; rw [show (((7 : Nat) : Int) + 1) = 8 from rfl, hl 8 (by omega) (by omega)]; rfl
 have e9 : ahead y 9 = ahead y 8 + (30) := by show ahead y 8 + lenF y ((8 : Nat) + 1 : Int) = _; rw [show (((8 : Nat) : Int) + 1) = 9 from rfl, hl 9 (by omega) (by omega)]; rfl
 have e10 : ahead y 10 = ahead y 9 + (31) := by show ahead y 9 + lenF y ((9 : Nat) + 1 : Int) = _; rw [show (((9 : Nat) : Int) + 1) = 10 from rfl, hl 10 (by omega) (by omega)]; rfl
 have e11 : ahead y 11 = ahead y 10 + (30) := by show ahead y 10 + lenF y ((10 : Nat) + 1 : Int) = _; rw [show (((10 : Nat) : Int) + 1) = 11 from rfl, hl 11 (by omega) (by omega)]; rfl
 have e12 : ahead y 12 = ahead y 11 + (31) := by show ahead y 11 + lenF y ((11 : Nat) + 1 : Int) = _; rw [show (((11 : Nat) : Int) + 1) = 12 from rfl, hl 12 (by omega) (by omega)]; rfl
 clear hl
 have hm' : m = 0 ∨ m = 1 ∨ m = 2 ∨ m = 3 ∨ m = 4 ∨ m = 5 ∨ m = 6 ∨ m = 7 ∨ m = 8 ∨ m = 9 ∨ m = 10 ∨ m = 11 ∨ m = 12 := by omega
 rcases hm' with rfl | rfl | rfl | rfl | rfl | rfl | rfl | rfl | rfl | rfl | rfl | rfl | rfl
 ·exact e0
 ·rw [e1, e0]; rfl
 ·rw [if_neg (by omega), if_neg (by omega)]; omega
 ·rw [if_neg (by omega), if_neg (by omega)]; omega
 ·rw [if_neg (by omega), if_neg (by omega)]; omega
 ·rw [if_neg (by omega), if_neg (by omega)]; omega
 ·rw [if_neg (by omega), if_neg (by omega)]; omega
 ·rw [if_neg (by omega), if_neg (by omega)]; omega
 ·rw [if_neg (by omega), if_neg (by omega)]; omega
 ·rw [if_neg (by omega), if_neg (by omega)]; omega
 ·rw [if_neg (by omega), if_neg (by omega)]; omega
 ·rw [if_neg (by omega), if_neg (by omega)]; omega
 ·rw [if_neg (by omega), if_neg (by omega)]; omega
theorem first_ahead {y : Int} (h : 1 ≤ y ∧ y ≤ 9999) {m : Int} (h1 : 1 ≤ m) (h2 : m ≤ 12) (d : Int) :
  first y + (d + ahead y (m - 1).toNat) - 1 = count y m d := by
 have e := ahead_eq h (m := (m - 1).toNat) (by omega)
 have l := lp_eq h
 rw [e]
 unfold first count cnt
 clear e
 generalize y / 4 = a at *
 generalize y / 100 = b at *
 generalize y / 400 = c at *
 generalize (y - 1) / 4 = a' at *
 generalize (y - 1) / 100 = b' at *
 generalize (y - 1) / 400 = c' at *
 rcases months h1 h2 with rfl | rfl | rfl | rfl | rfl | rfl | rfl | rfl | rfl | rfl | rfl | rfl <;> simp <;> omega
theorem ahead_bd (y : Int) (m : Nat) : 0 ≤ ahead y m ∧ ahead y m ≤ 31 * m := by
 induction m with
 | zero => exact ⟨Int.le_refl _, by simp [ahead]⟩
 | succ k ih => have := lenF_bd y ((k : Int) + 1); simp only [ahead]; omega
theorem count_bd {y m d : Int} (hy : 1 ≤ y ∧ y ≤ 10000) (hm : 1 ≤ m ∧ m ≤ 12) (hd : 0 ≤ d ∧ d ≤ 32) : -719163 ≤ count y m d ∧ count y m d ≤ 2933500 := by
 unfold count cnt; split <;> omega
theorem leaps_le {z : Int} (h : 0 ≤ z) (h' : z ≤ 9999) : 0 ≤ z / 4 - z / 100 + z / 400 ∧ z / 4 - z / 100 + z / 400 ≤ 2424 := by omega
theorem first_bd {y : Int} (h : 1 ≤ y) (h' : y ≤ 10000) : -719162 ≤ first y ∧ first y ≤ 2932897 - 365 * (10000 - y) := by
 have := leaps_le (z := y - 1) (by omega) (by omega)
 unfold first; omega
theorem first_succ {y : Int} (h : 1 ≤ y ∧ y ≤ 9999) : first (y + 1) = first y + 365 + lp y := by
 have l := lp_eq h
 unfold first
 rw [show y + 1 - 1 = y by omega]
 generalize y / 4 = a at *
 generalize y / 100 = b at *
 generalize y / 400 = c at *
 generalize (y - 1) / 4 = a' at *
 generalize (y - 1) / 100 = b' at *
 generalize (y - 1) / 400 = c' at *
 omega
theorem count_in {y m d : Int} (h : validB y m d = true) : -719162 ≤ count y m d ∧ count y m d < 2932897 := by
 obtain ⟨a, b, c, e, f, g⟩ := validB_iff.1 h
 rw [mlen_lp] at g
 have lb := lp_bd y
 have f1 := first_bd a (show y ≤ 10000 by omega)
 have f2 := first_bd (show 1 ≤ y + 1 by omega) (show y + 1 ≤ 10000 by omega)
 rw [first_succ ⟨a, b⟩] at f2
 have ea := ahead_eq ⟨a, b⟩ (m := (m - 1).toNat) (by omega)
 rw [← first_ahead ⟨a, b⟩ c e, ea]
 generalize first y = F at *
 generalize lp y = L at *
 rcases months c e with rfl | rfl | rfl | rfl | rfl | rfl | rfl | rfl | rfl | rfl | rfl | rfl <;> simp at g ⊢ <;> omega
theorem wd_bd (d : Int) : 1 ≤ wd d ∧ wd d ≤ 7 := by unfold wd; omega
/-! ### texts -/
def alnumN (r : Nat) : Bool := (decide (97 ≤ r) && decide (r ≤ 122)) || (decide (65 ≤ r) && decide (r ≤ 90)) || (decide (48 ≤ r) && decide (r ≤ 57))
def badR (o : List UInt8) (r : Nat) : Bool := !alnumN r && !(decide (r < 128) && o.any fun b => b.toNat == r)
def lettersB (o : List UInt8) (s : List UInt8) : Bool := s.all fun b => !badR o b.toNat
def nameB (s : ByteArray) : Bool := decide (1 ≤ s.size ∧ s.size ≤ 8) && lettersB [43, 45] s.data.toList
theorem badR_high (o : List UInt8) {r : Nat} (h : 128 ≤ r) : badR o r = true := by
 unfold badR alnumN
 simp [show ¬ r < 128 by omega, show ¬ r ≤ 122 by omega, show ¬ r ≤ 90 by omega, show ¬ r ≤ 57 by omega]
theorem decode_high (s : ByteArray) (pos : Nat) (h : 128 ≤ (s.get! pos).toNat) : 128 ≤ (Utf8.decode s pos).1 := by
 rw [Lib.decode_at]
 rcases Lib.decodeN_shape (s.size - pos) (s.get! pos).toNat (s.get! (pos + 1)).toNat (s.get! (pos + 2)).toNat (s.get! (pos + 3)).toNat with ⟨a, e⟩ | ⟨_, _, _, a, e⟩ | ⟨_, _, _, _, a, _, e⟩ | ⟨_, _, _, _, _, a, _, e⟩ | e <;> rw [e] <;> dsimp only <;> omega
theorem get!_toList (s : ByteArray) (i : Nat) (h : i < s.size) : s.data.toList[i]? = some (s.get! i) := by
 rw [Array.getElem?_toList, Array.getElem?_eq_getElem (by exact h)]
 simp [ByteArray.get!, h]
theorem idxFuncFrom_iff (o : List UInt8) (s : ByteArray) : ∀ (f pos : Nat), s.size ≤ pos + f →
  (0 ≤ Lib.idxFuncFrom (badR o) true s f pos ↔ ∃ i, pos ≤ i ∧ i < s.size ∧ badR o (s.get! i).toNat = true)
 | 0, pos, h => by
  simp only [Lib.idxFuncFrom]
  constructor
  ·intro h0; omega
  ·rintro ⟨i, h1, h2, _⟩; omega
 | f + 1, pos, h => by
  simp only [Lib.idxFuncFrom]
  by_cases hp : pos < s.size
  ·rw [if_pos hp]
   by_cases ha : (s.get! pos).toNat < 128
   ·have hd : Utf8.decode s pos = ((s.get! pos).toNat, 1) := by rw [Lib.decode_at]; exact Lib.decodeN_ascii _ _ _ _ _ ha
    rw [hd]
    dsimp only
    by_cases hb : badR o (s.get! pos).toNat = true
    ·rw [if_pos hb]
     exact ⟨fun _ => ⟨pos, Nat.le_refl _, hp, hb⟩, fun _ => by omega⟩
    ·rw [if_neg hb, idxFuncFrom_iff o s f (pos + 1) (by omega)]
     constructor
     ·rintro ⟨i, h1, h2, h3⟩; exact ⟨i, by omega, h2, h3⟩
     ·rintro ⟨i, h1, h2, h3⟩
      have : i ≠ pos := fun e => hb (e ▸ h3)
      exact ⟨i, by omega, h2, h3⟩
   ·have hd := decode_high s pos (by omega)
    rw [if_pos (badR_high o hd)]
    exact ⟨fun _ => ⟨pos, Nat.le_refl _, hp, badR_high o (by omega)⟩, fun _ => by omega⟩
  ·rw [if_neg hp]
   constructor
   ·intro h0; omega
   ·rintro ⟨i, h1, h2, _⟩; omega
theorem idxFunc_letters (o : List UInt8) (s : ByteArray) : decide (0 ≤ Lib.idxFunc (badR o) true s) = !lettersB o s.data.toList := by
 have h := idxFuncFrom_iff o s s.size 0 (by omega)
 rw [Bool.eq_iff_iff, decide_eq_true_iff]
 unfold Lib.idxFunc
 rw [h]
 unfold lettersB
 simp only [Bool.not_eq_true', List.all_eq_false, Bool.not_eq_true, Bool.not_eq_false']
 constructor
 ·rintro ⟨i, _, h2, h3⟩
  refine ⟨s.get! i, ?_, by simpa using h3⟩
  exact List.mem_of_getElem? (get!_toList s i h2)
 ·rintro ⟨b, hb, h3⟩
  obtain ⟨i, hi, he⟩ := List.getElem_of_mem hb
  have hi' : i < s.size := by simpa using hi
  have e := get!_toList s i hi'
  rw [List.getElem?_eq_getElem hi, he] at e
  injection e with e
  exact ⟨i, Nat.zero_le _, hi', by rw [← e]; simpa using h3⟩
theorem indexByte_mem (l : List UInt8) (c : UInt8) : decide (0 ≤ Lib.indexByte l c) = l.any fun b => b == c := by
 induction l with
 | nil => simp [Lib.indexByte]
 | cons b l ih =>
  have hg := Lib.indexByte_ge l c
  rw [List.any_cons, ← ih]
  rw [show Lib.indexByte (b :: l) c = if b == c then 0 else if Lib.indexByte l c == -1 then -1 else Lib.indexByte l c + 1 from rfl]
  by_cases e : (b == c) = true
  ·simp [e]
  ·by_cases e2 : (Lib.indexByte l c == -1) = true
   ·have : Lib.indexByte l c = -1 := by simpa using e2
    simp [e, this]
   ·have : Lib.indexByte l c ≠ -1 := by simpa using e2
    simp [e, e2]; omega
def ltrI (c : Int) : Bool := decide ((65 ≤ c ∧ c ≤ 90) ∨ (97 ≤ c ∧ c ≤ 122))
def digI (c : Int) : Bool := decide (48 ≤ c ∧ c ≤ 57)
def namI (c : Int) : Bool := ltrI c || digI c || c == 95 || c == 47 || c == 43 || c == 45
def nameZ (s : ByteArray) : Bool := decide (1 ≤ s.size ∧ s.size ≤ 30) && ltrI (s.get! 0).toNat && s.data.toList.all fun b => namI b.toNat
theorem nameZ_no {s : ByteArray} (h : ¬ (1 ≤ s.size ∧ s.size ≤ 30)) : nameZ s = false := by unfold nameZ; rw [decide_eq_false h]; rfl
theorem all_bad {s : ByteArray} {p : UInt8 → Bool} {k : Nat} (hk : k < s.size) (h : p (s[k]'hk) = false) : s.data.toList.all p = false := by
 rw [List.all_eq_false]
 refine ⟨s[k]'hk, ?_, by simp [h]⟩
 exact List.mem_of_getElem? (i := k) (by rw [Array.getElem?_toList, Array.getElem?_eq_getElem (by exact hk)]; rfl)
theorem take_snoc (s : ByteArray) (k : Nat) (h : k < s.size) : s.data.toList.take (k + 1) = s.data.toList.take k ++ [s[k]] := by
 rw [List.take_succ_eq_append_getElem (by simpa using h)]; rfl
theorem all_snoc {s : ByteArray} {p : UInt8 → Bool} {k : Nat} (hk : k < s.size) (h0 : (s.data.toList.take k).all p = true) (h : p (s[k]'hk) = true) : (s.data.toList.take (k + 1)).all p = true := by
 rw [take_snoc s k hk, List.all_append, h0]; simp [h]
theorem all_end {s : ByteArray} {p : UInt8 → Bool} {k : Nat} (hk : s.size ≤ k) (h0 : (s.data.toList.take k).all p = true) : s.data.toList.all p = true := by
 rw [List.take_of_length_le (by simpa using hk)] at h0; exact h0
theorem get!_eq (s : ByteArray) (i : Nat) (h : i < s.size) : s.get! i = s[i]'h := by
 have e := get!_toList s i h
 rw [Array.getElem?_toList, Array.getElem?_eq_getElem (by exact h)] at e
 injection e with e
 exact e.symm
/-! ### rules -/
def dayB (mo d : Int) : Bool := decide (1 ≤ d ∧ d ≤ lenF 2000 mo)
def wkB (wk : Int) : Bool := decide (1 ≤ wk ∧ wk ≤ 7)
def fitsB (mo k wk d : Int) : Bool :=
 if mo < 1 ∨ 12 < mo then false
 else if k = 1 then dayB mo d && wk == 0
 else if k = 2 then wkB wk && d == 0
 else if k = 3 then dayB mo d && wkB wk
 else if k = 4 then dayB mo d && wkB wk
 else false
def onN (y mo k d : Int) : Int := if k = 2 then lenF y mo else d
def onDay (k wk day : Int) : Int := if k = 1 then day else if k = 3 then day + (wk - wd day) % 7 else day - (wd day - wk) % 7
def dayF (y mo k wk d : Int) : Int × Int :=
 if fitsB mo k wk d = false then (0, 1)
 else if y < 1 ∨ 9999 < y then (0, 2)
 else if validB y mo (onN y mo k d) = false then (0, 7)
 else if insideB (onDay k wk (count y mo (onN y mo k d))) = false then (0, 2)
 else (onDay k wk (count y mo (onN y mo k d)), 0)
theorem fitsB_mo {mo k wk d : Int} (h : fitsB mo k wk d = true) : 1 ≤ mo ∧ mo ≤ 12 := by
 unfold fitsB at h; split at h
 ·cases h
 ·omega
theorem fitsB_k {mo k wk d : Int} (h : fitsB mo k wk d = true) : 1 ≤ k ∧ k ≤ 4 := by
 unfold fitsB at h; repeat' split at h
 all_goals first | (cases h; done) | omega
theorem fitsB_wk {mo k wk d : Int} (h : fitsB mo k wk d = true) (hk : k ≠ 1) : 1 ≤ wk ∧ wk ≤ 7 := by
 unfold fitsB wkB at h; repeat' split at h
 all_goals first | (cases h; done) | omega | (simp at h; omega)
theorem onDay_bd {k wk day : Int} (hw : k ≠ 1 → 1 ≤ wk ∧ wk ≤ 7) : day - 6 ≤ onDay k wk day ∧ onDay k wk day ≤ day + 6 := by
 have := wd_bd day
 unfold onDay; split
 ·omega
 ·split <;> omega
theorem dayF_bd (y mo k wk d : Int) : -719162 ≤ (dayF y mo k wk d).1 ∧ (dayF y mo k wk d).1 < 2932897 ∧ 0 ≤ (dayF y mo k wk d).2 ∧ (dayF y mo k wk d).2 ≤ 7 := by
 unfold dayF; repeat' split
 all_goals first | (simp; done) | skip
 rename_i h
 simp [insideB] at h ⊢; omega
end Go.Proofs.YtdpbhjaicgkblaaGreatDoor.Cv
/- Rules as plain data: which are valid, and their events. No program in sight. -/
namespace Go.Proofs.YtdpbhjaicgkblaaGreatDoor
set_option linter.unusedSimpArgs false
set_option linter.unusedVariables false
structure Rule where
 nm : ByteArray
 fr : Int
 to : Int
 mo : Int
 k : Int
 wk : Int
 d : Int
 at_ : Int
 cl : Int
 sv : Int
 lt : ByteArray
instance : Inhabited Rule := ⟨⟨⟨#[]⟩, 0, 0, 0, 0, 0, 0, 0, 0, 0, ⟨#[]⟩⟩⟩
def Rule.cells (r : Rule) : List Value := [.string r.nm, .int .i64 r.fr, .int .i64 r.to, .int .i64 r.mo, .int .i64 r.k, .int .i64 r.wk, .int .i64 r.d, .int .i64 r.at_, .int .i64 r.cl, .int .i64 r.sv, .string r.lt]
def Rule.v (r : Rule) : Value := .agg r.cells.toArray
theorem Rule.len (r : Rule) : r.cells.length = 11 := rfl
def Rule.ok (r : Rule) : Bool :=
 decide (1 ≤ r.fr) && (decide (r.fr ≤ r.to) && (decide (r.to ≤ 9999) && (Cv.fitsB r.mo r.k r.wk r.d && (decide (0 ≤ r.at_) && (decide (r.at_ ≤ 93600) && (decide (1 ≤ r.cl) && (decide (r.cl ≤ 3) && (r.sv.tmod 60 == 0 && (decide (-10800 ≤ r.sv) && decide (r.sv ≤ 10800))))))))))
def Rule.valid (r : Rule) : Bool := Cv.nameZ r.nm && (decide (r.lt.size ≤ 8) && (Cv.lettersB [] r.lt.data.toList && r.ok))
structure Rule.Ok (r : Rule) : Prop where
 fr : 1 ≤ r.fr
 to : r.fr ≤ r.to
 max : r.to ≤ 9999
 fits : Cv.fitsB r.mo r.k r.wk r.d = true
 at0 : 0 ≤ r.at_
 at1 : r.at_ ≤ 93600
 cl0 : 1 ≤ r.cl
 cl1 : r.cl ≤ 3
 sv : r.sv.tmod 60 = 0
 sv0 : -10800 ≤ r.sv
 sv1 : r.sv ≤ 10800
theorem Rule.ok_iff (r : Rule) : r.ok = true ↔ r.Ok := by
 unfold Rule.ok
 simp only [Bool.and_eq_true, decide_eq_true_eq, beq_iff_eq]
 exact ⟨fun ⟨a, b, c, d, e, f, g, h, i, j, k⟩ => ⟨a, b, c, d, e, f, g, h, i, j, k⟩, fun ⟨a, b, c, d, e, f, g, h, i, j, k⟩ => ⟨a, b, c, d, e, f, g, h, i, j, k⟩⟩
theorem Rule.valid_ok {r : Rule} (h : r.valid = true) : r.Ok := by
 unfold Rule.valid at h
 simp only [Bool.and_eq_true] at h
 exact r.ok_iff.1 h.2.2.2
def Rule.day (r : Rule) (y : Int) : Int × Int := Cv.dayF y r.mo r.k r.wk r.d
def Rule.has (r : Rule) (y : Int) : Bool := decide (r.fr ≤ y ∧ y ≤ r.to) && (r.day y).2 == 0
def Rule.loc (r : Rule) (y : Int) : Int := (r.day y).1 * 86400 + r.at_
def Rule.at (r : Rule) (y : Int) : Int × Int := if r.valid = false then (0, 1) else if r.has y = false then (0, 7) else (r.loc y, 0)
end Go.Proofs.YtdpbhjaicgkblaaGreatDoor
/- Slices of elements of k cells, in memory: no function of the program in sight. -/
namespace Go.Proofs.YtdpbhjaicgkblaaGreatDoor
set_option linter.unusedSimpArgs false
set_option linter.unusedVariables false
open Go.RowKit Go.Sort Go.Lib
theorem only_of_below {a w : World} (h : Below a.heap.size a w) (row : Option Nat) : a.grownBy w row := ⟨h.os, h.tape, h.output, h.size, fun i hi _ => h.block i hi⟩
theorem own_on {w w' : World} {base : Nat} {e : TypeId} {size : Nat} {v : Value} {n : Nat} {xs : List Value} (h : w.ownsRow base e size v n xs) (hb : Below w.heap.size w w') : w'.ownsRow base e size v n xs := by
 cases hv : v.ownBlock with
 | none => exact h.kept (only_of_below hb none) (.inl hv)
 | some k => exact h.kept (only_of_below hb none) (.inr (by rw [hv]; simp))
theorem new_row (w : World) (e : TypeId) (cs : List Value) : ∀ j u, cs[j]? = some u → (w.alloc (.cells cs.toArray e)).cell? ((⟨w.heap.size, 0, none⟩ : Addr).add j) = some u := by
 intro j u hu
 have e1 : ((⟨w.heap.size, 0, none⟩ : Addr).add j) = ⟨w.heap.size, j, none⟩ := by
  unfold Addr.add; split
  ·rename_i h; simp [h]
  ·simp
 rw [e1]
 simp [hu]
theorem below_app {w wr w2 w3 : World} {base : Nat} {e : TypeId} {size : Nat} {v : Value} {n : Nat} {xs : List Value} (hown : wr.ownsRow base e size v n xs) (hbase : w.heap.size ≤ base) (h2 : Below w.heap.size w w2) (hg : w2.grownBy w3 v.ownBlock) : Below w.heap.size w w3 :=
 h2.grown hg h2.size fun k hk => Nat.le_trans hbase (hown.lt k hk).1
section
variable {α : Type} [Inhabited α]
omit [Inhabited α] in
theorem own_snoc {w : World} {base : Nat} {e : TypeId} {size : Nat} {v : Value} {enc : α → List Value} {es : List α} {x : α} (h : w.ownsRow base e size v (es.length + 1) (es.flatMap enc ++ enc x)) : w.ownsRow base e size v (es ++ [x]).length ((es ++ [x]).flatMap enc) := by
 simpa using h
def Rd (enc : α → List Value) (k : Nat) (w : World) (v : Value) (es : List α) : Prop :=
 (es = [] ∧ ∃ A c, v = .slice A 0 c) ∨
 ∃ g off c, v = .slice (some ⟨g, off, none⟩) es.length c ∧ g < w.heap.size ∧ ∀ j, j < es.length → ∀ i u, (enc es[j]!)[i]? = some u → w.cell? ⟨g, off + j * k + i, none⟩ = some u
theorem Rd.on {enc : α → List Value} {k : Nat} {w w' : World} {v : Value} {es : List α} (h : Rd enc k w v es) (hb : Below w.heap.size w w') : Rd enc k w' v es := by
 rcases h with h | ⟨g, off, c, hv, hg, hc⟩
 ·exact .inl h
 ·exact .inr ⟨g, off, c, hv, Nat.lt_of_lt_of_le hg hb.size, fun j hj i u hu => (hb.cell (p := ⟨g, off + j * k + i, none⟩) hg).trans (hc j hj i u hu)⟩
theorem flat_get {enc : α → List Value} {k : Nat} (hk : ∀ x, (enc x).length = k) : ∀ (es : List α) (j i : Nat), j < es.length → i < k → (es.flatMap enc)[j * k + i]? = some (enc es[j]!)[i]!
 | [], j, i, hj, _ => absurd hj (by simp)
 | x :: es, 0, i, _, hi => by
  have hl : i < (enc x).length := by rw [hk]; exact hi
  simp [List.flatMap_cons, List.getElem?_append_left, hl, getElem!_pos (enc x) i hl]
 | x :: es, j + 1, i, hj, hi => by
  have e : (j + 1) * k + i = (enc x).length + (j * k + i) := by rw [hk, Nat.add_mul, Nat.one_mul]; omega
  rw [List.flatMap_cons, e, List.getElem?_append_right (by omega), Nat.add_sub_cancel_left, flat_get hk es j i (by simpa using hj) hi]
  simp
omit [Inhabited α] in
theorem flat_len {enc : α → List Value} {k : Nat} (hk : ∀ x, (enc x).length = k) (es : List α) : (es.flatMap enc).length = es.length * k := by
 induction es with
 | nil => simp
 | cons x es ih => simp [List.flatMap_cons, ih, hk, Nat.add_mul]; omega
theorem holdsK_of_own {enc : α → List Value} {k : Nat} (hk : ∀ x, (enc x).length = k) {w : World} {base : Nat} {e : TypeId} {v : Value} {n : Nat} {es : List α} (h : w.ownsRow base e k v n (es.flatMap enc)) (hn : es.length = n) (hv : v ≠ .slice none 0 0) :
  ∃ g cap, v = .slice (some ⟨g, 0, none⟩) n cap ∧ base ≤ g ∧ g < w.heap.size ∧ n ≤ cap ∧ cap ≤ maxLen ∧ HoldsK enc k w g 0 es.toArray := by
 rcases h.2 with ⟨e0, _⟩ | ⟨g, cap, cur, rfl, hb, hg, hnc, hm, hs, ht⟩
 ·exact absurd e0 hv
 ·have hlt : g < w.heap.size := by
   rcases Nat.lt_or_ge g w.heap.size with h' | h'
   ·exact h'
   ·rw [Array.getElem?_eq_none h'] at hg; cases hg
  refine ⟨g, cap, rfl, hb, hlt, hnc, hm, fun t ht' => ?_⟩
  rw [size_flatK] at ht'
  have ht2 : t < es.length * k := by simpa using ht'
  have k0 : 0 < k := by
   rcases Nat.eq_zero_or_pos k with h | h
   ·subst h; simp at ht2
   ·exact h
  refine ⟨?_, by simp [World.frozen?, hg]⟩
  have hj : t / k < es.length := (Nat.div_lt_iff_lt_mul k0).2 ht2
  have hi : t % k < k := Nat.mod_lt _ k0
  have e1 := flat_get hk es (t / k) (t % k) hj hi
  rw [Nat.mul_comm, Nat.div_add_mod, ← ht, List.getElem?_take, if_pos (by rw [← hn]; exact ht2), Array.getElem?_toList] at e1
  rw [get_flatK _ _ _ _ ht']
  simp only [World.cell?, hg, Nat.zero_add, Option.isSome_none, Bool.false_eq_true, if_false]
  rw [e1]
  simp
theorem rd_of_own {enc : α → List Value} {k : Nat} (hk : ∀ x, (enc x).length = k) {w : World} {base : Nat} {e : TypeId} {v : Value} {n : Nat} {es : List α} (h : w.ownsRow base e k v n (es.flatMap enc)) (hn : es.length = n) : Rd enc k w v es := by
 by_cases hv : v = .slice none 0 0
 ·left
  rcases h.2 with ⟨e0, e1⟩ | ⟨g, cap, cur, e0, _⟩
  ·exact ⟨List.eq_nil_of_length_eq_zero (hn.trans e1), none, 0, hv⟩
  ·rw [hv] at e0; cases e0
 ·obtain ⟨g, cap, rfl, _, hg, _, _, hH⟩ := holdsK_of_own hk h hn hv
  right
  refine ⟨g, 0, cap, by rw [hn], hg, fun j hj i u hu => ?_⟩
  have hi : i < k := by
   have := (List.getElem?_eq_some_iff.1 hu).1
   rwa [hk] at this
  have := (HoldsK.cell hH (i := j) (c := i) (by simpa using hj) hi).1
  rw [this]
  have hl : i < (enc es[j]!).length := by rw [hk]; exact hi
  rw [← hu, List.getElem?_eq_getElem hl, getElem!_pos _ i (by simpa [hk] using hi)]
  simp
theorem rd_sorted {enc : α → List Value} {k : Nat} (hk : ∀ x, (enc x).length = k) {w : World} {g off cap n : Nat} {es ys : List α} {os : Array Obj} (hH : HoldsK enc k w g off es.toArray) (hy : ys.length = es.length) (hg : g < w.heap.size) :
  Rd enc k (sortWorldK enc k w g off n ys.toArray os) (.slice (some ⟨g, off, none⟩) es.length cap) ys := by
 right
 have hH1 : HoldsK enc k (Sort.ahead w n) g off es.toArray := holdsK_ahead _ _ _ _ _ _ _ hH
 have hH2 := holdsK_putRowK enc k (Sort.ahead w n) g off es.toArray ys.toArray hH1 (by simpa using hy)
 have hg2 : g < (putRowK enc k (Sort.ahead w n) g off ys.toArray).heap.size := by
  simpa [putRowK, putRow, mapBlock, Sort.ahead] using hg
 have hH3 : HoldsK enc k (sortWorldK enc k w g off n ys.toArray os) g off ys.toArray := holdsK_grow _ _ _ os g off _ hg2 hH2
 refine ⟨g, off, cap, by rw [hy], ?_, fun j hj i u hu => ?_⟩
 ·show g < (grow _ os).heap.size
  have : (grow (putRowK enc k (Sort.ahead w n) g off ys.toArray) os).heap.size = (putRowK enc k (Sort.ahead w n) g off ys.toArray).heap.size + os.size := by simp [grow]
  omega
 ·have hi : i < k := by
   have := (List.getElem?_eq_some_iff.1 hu).1
   rwa [hk] at this
  have := (HoldsK.cell hH3 (i := j) (c := i) (by simpa using hj) hi).1
  rw [this]
  have hl : i < (enc ys[j]!).length := by rw [hk]; exact hi
  rw [← hu, List.getElem?_eq_getElem hl, getElem!_pos _ i (by simpa [hk] using hi)]
  simp
theorem below_sorted {enc : α → List Value} {k : Nat} {B : Nat} {w0 w : World} {g off n : Nat} {d : Array α} {os : Array Obj} (h : Below B w0 w) (hg : B ≤ g) (hB : B ≤ w.heap.size) : Below B w0 (sortWorldK enc k w g off n d os) := by
 refine ⟨h.os, h.tape, h.output, ?_, fun j hj => ?_⟩
 ·show w0.heap.size ≤ ((mapBlock (Sort.ahead w n) g _).heap ++ os).size
  have := h.size
  simp [mapBlock, Sort.ahead]; omega
 ·have e : (sortWorldK enc k w g off n d os).heap = (mapBlock (Sort.ahead w n) g (putCells id off (flatK enc k d))).heap ++ os := rfl
  rw [e]
  have hj' : j < w.heap.size := by omega
  rw [Array.getElem?_append_left (by simpa [mapBlock, Sort.ahead] using hj'), ← h.block j hj]
  simp [mapBlock, Sort.ahead, Array.getElem?_modify, show g ≠ j by omega]
variable {P : Program}
omit [Inhabited α] in
theorem run_append_of_nil (w : World) (base : Nat) (t ty e : TypeId) (i : TypeInfo) (size : Nat) (ht : P.underlying t = some (.slice e)) (hi : P.info? e = some i)
  (v : Value) (n : Nat) (xs : List Value) (hown : w.ownsRow base e size v n xs) (c : Nat) : (Builtin.append_ #[t, t] ty #[v, .slice none 0 c]).run P w = .ok v w := by
 rcases hown.2 with ⟨rfl, rfl⟩ | ⟨g, cap, cur, rfl, _, _, hnc, _⟩
 ·simp [Builtin.append_, run_underlying ht, Go.sizeOf, typeInfo, hi, Builtin.lenOf, Builtin.firstCells]
 ·simp [Builtin.append_, run_underlying ht, Go.sizeOf, typeInfo, hi, Builtin.lenOf, Builtin.firstCells, hnc, storeCells]
theorem run_append_rd (w : World) (base : Nat) (t ty e : TypeId) (i : TypeInfo) (z : Value) (size bytes : Nat) (ht : P.underlying t = some (.slice e)) (hi : P.info? e = some i) (hz : i.zero = some z)
  (hsize : i.size = size) (hby : i.bytes = bytes) (hzs : z.cells.size = size) (hsz : 0 < size)
  (v : Value) (n : Nat) (xs : List Value) (hown : w.ownsRow base e size v n xs)
  (enc : α → List Value) (hk : ∀ x, (enc x).length = size) (h1 : ∀ x, ∀ u ∈ enc x, u.oneCell' = true) (xv : Value) (es : List α) (hr : Rd enc size w xv es)
  (h63 : n + es.length ≤ maxLen) (hbytes : (n + es.length) * bytes ≤ 140737488355328) (hbase : base ≤ w.heap.size) :
  ∃ v' w', (Builtin.append_ #[t, t] ty #[v, xv]).run P w = .ok v' w' ∧ w'.ownsRow base e size v' (n + es.length) (xs ++ es.flatMap enc) ∧ w.grownBy w' v.ownBlock := by
 have h1' : ∀ u ∈ es.flatMap enc, u.oneCell' = true := fun u hu => by
  obtain ⟨x, _, hx⟩ := List.mem_flatMap.1 hu
  exact h1 x u hx
 rcases hr with ⟨rfl, A, c, rfl⟩ | ⟨g, off, c, rfl, hg, hc⟩
 ·cases A with
  | none => exact ⟨v, w, run_append_of_nil w base t ty e i size ht hi v n xs hown c, by simpa using hown, World.grownBy.refl w _⟩
  | some ad =>
   obtain ⟨v', w', hrun, h2, h3, _, _⟩ := run_append_own_at (P := P) w base t ty e i z size bytes ht hi hz hsize hby hzs hsz v n xs hown ad 0 c [] (by simp) (fun j u hu => by simp at hu) (fun u hu => by simp at hu) h63 hbytes hbase
   exact ⟨v', w', hrun, by simpa using h2, h3⟩
 ·obtain ⟨v', w', hrun, h2, h3, _, _⟩ := run_append_own_at (P := P) w base t ty e i z size bytes ht hi hz hsize hby hzs hsz v n xs hown ⟨g, off, none⟩ es.length c (es.flatMap enc) (flat_len hk es) (fun j u hu => by
   have hl := (List.getElem?_eq_some_iff.1 hu).1
   rw [flat_len hk] at hl
   have hj : j / size < es.length := (Nat.div_lt_iff_lt_mul hsz).2 hl
   have hi' : j % size < size := Nat.mod_lt _ hsz
   have e1 := flat_get hk es (j / size) (j % size) hj hi'
   rw [Nat.mul_comm, Nat.div_add_mod, hu] at e1
   injection e1 with e1
   have hl2 : j % size < (enc es[j / size]!).length := by rw [hk]; exact hi'
   have e2 := hc (j / size) hj (j % size) u (by rw [e1, List.getElem?_eq_getElem hl2, getElem!_pos (enc es[j / size]!) (j % size) hl2])
   rw [Nat.add_assoc, Nat.mul_comm, Nat.div_add_mod] at e2
   unfold Addr.add
   split
   ·rename_i h; subst h; simpa using e2
   ·exact e2) h1' h63 hbytes hbase
  exact ⟨v', w', hrun, h2, h3⟩
theorem wpList_append_rd {w : World} {ops : Array Oper} {rest : List Oper} {o : Oper} {a : Act} {Q : Exit → Act → World → Prop} (hgd : o.guard = none) (s x : Operand) (t : TypeId)
  (ho : o.op = .call { callee := .builtin .append, args := #[s, x], argTypes := #[t, t] })
  (base : Nat) (e : TypeId) (i : TypeInfo) (z : Value) (size bytes : Nat) (ht : P.underlying t = some (.slice e)) (hi : P.info? e = some i) (hz : i.zero = some z)
  (hsize : i.size = size) (hby : i.bytes = bytes) (hzs : z.cells.size = size) (hsz : 0 < size)
  (v : Value) (n : Nat) (xs : List Value) (hs : a.eval s = v) (hown : w.ownsRow base e size v n xs)
  (enc : α → List Value) (hk : ∀ x, (enc x).length = size) (h1 : ∀ x, ∀ u ∈ enc x, u.oneCell' = true) (xv : Value) (hx : a.eval x = xv) (es : List α) (hr : Rd enc size w xv es)
  (h63 : n + es.length ≤ maxLen) (hbytes : (n + es.length) * bytes ≤ 140737488355328) (hbase : base ≤ w.heap.size)
  (h : ∀ v' w', w'.ownsRow base e size v' (n + es.length) (xs ++ es.flatMap enc) → w.grownBy w' v.ownBlock → wpList P ops Q rest (a.put o.dst v') w') : wpList P ops Q (o :: rest) a w :=
 wpList_plain hgd fun _ hK => by
  obtain ⟨v', w', hrun, h2, h3⟩ := run_append_rd (P := P) w base t o.type e i z size bytes ht hi hz hsize hby hzs hsz v n xs hown enc hk h1 xv es hr h63 hbytes hbase
  unfold Oper.wp execOp
  simp only [ho, resolve, invoke, builtin, Sem.run_bind, Sem.run_pure, Result.andThen_ok, List.map_toArray, List.map_cons, List.map_nil, hs, hx, hrun]
  exact hK _ _ (h v' w' h2 h3)
end
end Go.Proofs.YtdpbhjaicgkblaaGreatDoor

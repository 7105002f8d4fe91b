/- Joined by merge.py: Rune, Letters. -/
import Derived.Test.YtdpbhjaicgkblaaGreatDoorJCivil
import Derived.Test.YtdpbhjaicgkblaaGreatDoorGShelf
import Derived.Lib.OthersKept
import Derived.Lib.TrimUEq
import Derived.Deep.LoopGhost
/- strings.IndexRune, ContainsRune at a rune beyond ASCII, in a text of at most two ASCII bytes: it is not there. -/
namespace Go.Proofs.YtdpbhjaicgkblaaGreatDoor
set_option linter.unusedSimpArgs false
set_option linter.unusedVariables false
open Go.ChangeShapes Go.WideShapes Go.ChangeAt Go.RowKit
set_option maxRecDepth 100000 in
set_option maxHeartbeats 1000000 in
theorem IndexRune_err (s : ByteArray) (w : World) (hs : s.size ≤ 2) (ha : ∀ (i : Nat), i < s.size → (s.get! i).toNat < 128) :
  Calls Tryz.prog 157 #[.string s, .int .i32 65533] w fun e w' => e = .returned (.int .i64 (-1)) ∧ Below w.heap.size w w' := by
 go_enter Tryz.func157, Tryz.ntmps157
 go_wp2
 go_loopg [] s.size (fun gf wx => ∃ pos : Nat, wx.heap[w.heap.size]? = some (.stringIter s pos) ∧ Below w.heap.size w wx ∧ s.size ≤ pos + gf)
 case atStart => exact ⟨0, World.iter_heap w s 0, (Below.refl _ w).alloc (Nat.le_refl _) _, by omega⟩
 case round =>
  obtain ⟨pos, hit, hbw, hfu⟩ := hrel
  by_cases hps : pos < s.size
  ·obtain ⟨g', rfl⟩ : ∃ g', gk = g' + 1 := ⟨gk - 1, by omega⟩
   have hd : Utf8.decode s pos = ((s.get! pos).toNat, 1) := by rw [Lib.decode_at]; exact Lib.decodeN_ascii _ _ _ _ _ (ha pos hps)
   have hnx : ∀ ty, (Instr.next (.pointer (some ⟨w.heap.size, 0, none⟩)) true ty).run Tryz.prog wr = _ := fun ty => Lib.run_next_any_at wr w.heap.size s pos ty hit hps
   rw [hd] at hnx
   have hk := ha pos hps
   have hit2 := Lib.iterAt_heap wr w.heap.size s pos (pos + 1) hit
   have hbw2 := Lib.below_iterAt hbw (k := w.heap.size) (Nat.le_refl _) s (pos + 1)
   obtain ⟨W, hWd⟩ : ∃ W, wr.iterAt w.heap.size s (pos + 1) = W := ⟨_, rfl⟩
   have hne : (((s.get! pos).toNat : Int) == 65533) = false := by simp; omega
   generalize (s.get! pos).toNat = R at *
   simp only [hWd] at hnx hit2 hbw2
   clear hd ha
   go_wp2
   go_roundg g'
   case measure => omega
   case rel => exact ⟨pos + 1, hit2, hbw2, by omega⟩
  ·have hnx : ∀ ty, (Instr.next (.pointer (some ⟨w.heap.size, 0, none⟩)) true ty).run Tryz.prog wr = _ := fun ty => Lib.run_next_end_at wr w.heap.size s pos ty hit hps
   go_wp2
   go_ret
   exact ⟨rfl, hbw⟩
theorem two_bytes {s : ByteArray} (h : s.size = 2) : ∃ a b, s = ⟨#[a, b]⟩ := by
 obtain ⟨⟨l⟩⟩ := s
 match l, h with
 | [a, b], _ => exact ⟨a, b, rfl⟩
theorem byte1_ne {b0 b1 c0 c1 : UInt8} (h : ((c1.toNat : Int) != b1.toNat) = true) : (((((⟨#[c0, c1]⟩ : ByteArray)[1]'(by show 1 < 2; omega)).toNat : Nat) : Int) != ((((⟨#[b0, b1]⟩ : ByteArray)[1]'(by show 1 < 2; omega)).toNat : Nat) : Int)) = true := h
theorem slice2 (c0 c1 : UInt8) (w : World) : (Instr.slice 9 (.string ⟨#[c0, c1]⟩) (some (.int .i64 2)) none none).run Tryz.prog w = .ok (.string ⟨#[]⟩) w := by kernel_rfl
theorem validRune_eq (r : Int) : Lib.validRune r = Utf8.valid r := by
 unfold Lib.validRune Utf8.valid; rw [Bool.eq_iff_iff]; simp; omega
set_option maxRecDepth 100000 in
set_option maxHeartbeats 1000000 in
theorem IndexRune_bad (s : ByteArray) (r : Int) (w : World) (hs : s.size ≤ 2) (ha : ∀ (i : Nat), i < s.size → (s.get! i).toNat < 128) (h1 : 128 ≤ r) (h2 : r ≤ 1114111) (h3 : r ≠ 65533) :
  Calls Tryz.prog 157 #[.string s, .int .i32 r] w fun e w' => e = .returned (.int .i64 (-1)) ∧ Below w.heap.size w w' := by
 have h4 : (r == 65533) = false := by simpa using h3
 cases hv : Lib.validRune r
 ·have HV := Lib.hid hv
  clear hv ha
  go_enter Tryz.func157, Tryz.ntmps157
  go_wp2_with (go_at_call 179; refine (Tryz.utf8_ValidRune _ _).mono ?_; rintro e w' ⟨rfl, rfl⟩; rw [HV.out])
  go_ret
  exact ⟨rfl, Below.refl _ _⟩
 ·have hf := encode_facts r (by rw [← validRune_eq]; exact hv) h1
  have HV := Lib.hid hv
  generalize hE : Utf8.encode r = E at *
  obtain ⟨f1, f2, f3⟩ := hf
  have f4 := f3 (by omega)
  clear hv f3
  go_enter Tryz.func157, Tryz.ntmps157
  go_wp2_with (go_at_call 179; refine (Tryz.utf8_ValidRune _ _).mono ?_; rintro e w' ⟨rfl, rfl⟩; rw [HV.out])
  go_step3
  by_cases hlt : E.size - 1 < s.size
  ·obtain ⟨b0, b1, rfl⟩ := two_bytes (s := E) (by omega)
   obtain ⟨c0, c1, rfl⟩ := two_bytes (s := s) (by omega)
   have hb1 : 128 ≤ (b1.toNat : Int) := by exact_mod_cast f4
   have hc1 : (c1.toNat : Int) < 128 := by exact_mod_cast ha 1 (show 1 < 2 by omega)
   have hbc0 : ((c1.toNat : Int) != b1.toNat) = true := by simp; omega
   clear ha hlt hs f1 f4 f2
   have hbc := byte1_ne (b0 := b0) (c0 := c0) hbc0
   clear hbc0
   go_wp2
   refine wp_loop_rounds 1 ?_; rw [rounds_succ]
   go_wp2
   go_step3
   go_wp2
   go_quiet (fail)
   go_wp2
   have hq := below_drewN (Below.refl w'.heap.size w') nq
   have hsl := slice2 c0 c1
   generalize w'.drewN nq = w2 at *
   go_quiet ((go_at_call 84; exact Calls.quiet_of_same (Tryz.strings_IndexByte _ _ _)))
   go_wp2
   simp only [Exit.noGoto_ret, Exit.inBlock, Exit.then]
   go_ret
   exact ⟨rfl, below_drewN hq _⟩
  ·go_wp2
   refine wp_loop_rounds 1 ?_; rw [rounds_succ]
   have hx : ¬ (E.size : Int) - 1 < (s.size : Int) := by omega
   go_wp2
   go_ret
   exact ⟨rfl, Below.refl _ _⟩
theorem IndexRune_high (s : ByteArray) (r : Int) (w : World) (hs : s.size ≤ 2) (ha : ∀ (i : Nat), i < s.size → (s.get! i).toNat < 128) (h1 : 128 ≤ r) (h2 : r ≤ 1114111) :
  Calls Tryz.prog 157 #[.string s, .int .i32 r] w fun e w' => e = .returned (.int .i64 (-1)) ∧ Below w.heap.size w w' := by
 by_cases h3 : r = 65533
 ·subst h3; exact IndexRune_err s w hs ha
 ·exact IndexRune_bad s r w hs ha h1 h2 h3
theorem ContainsRune_high (s : ByteArray) (r : Int) (w : World) (hs : s.size ≤ 2) (ha : ∀ (i : Nat), i < s.size → (s.get! i).toNat < 128) (h1 : 128 ≤ r) (h2 : r ≤ 1114111) :
  Calls Tryz.prog 145 #[.string s, .int .i32 r] w fun e w' => e = .returned (.bool false) ∧ Below w.heap.size w w' := by
 have hc := fun W => IndexRune_high s r W hs ha h1 h2
 have HC := Lib.hid hc
 clear hc ha
 go_enter Tryz.func145, Tryz.ntmps145
 go_wp2_with (go_at_call 157; refine (HC.out _).mono ?_; rintro e w1 ⟨rfl, hb⟩)
 go_ret
 exact ⟨rfl, hb⟩
end Go.Proofs.YtdpbhjaicgkblaaGreatDoor
/- yearrule.letters, name, zonelex.Name: what texts they take. -/
namespace Go.Proofs.YtdpbhjaicgkblaaGreatDoor
set_option linter.unusedSimpArgs false
set_option linter.unusedVariables false
open Go.ChangeShapes Go.WideShapes Go.ChangeAt Go.RowKit
theorem closure_high (o : ByteArray) (r : Nat) (B : Nat) (w : World) (hs : o.size ≤ 2) (ha : ∀ (i : Nat), i < o.size → (o.get! i).toNat < 128) (h1 : 128 ≤ r) (h2 : r ≤ 1114111)
  (hc : w.cell? ⟨B, 0, none⟩ = some (.string o)) :
  Calls Tryz.prog 144 #[.int .i32 r, .pointer (some ⟨B, 0, none⟩)] w fun e w' => e = .returned (.bool (Cv.badR o.data.toList r)) ∧ Below w.heap.size w w' := by
 rw [Cv.badR_high _ h1]
 have hcr := fun W => ContainsRune_high o r W hs ha (by omega) (by omega)
 have HC := Lib.hid hcr
 clear hcr ha
 have h3 : (128 : Int) ≤ (r : Int) := by omega
 go_enter Tryz.func144, Tryz.ntmps144
 go_wp2_with (go_at_call 145; refine (HC.out _).mono ?_; rintro e w1 ⟨rfl, hb⟩)
 go_ret
 exact ⟨ret1 (vbool (by simp; omega)), hb⟩
set_option maxRecDepth 100000 in
set_option maxHeartbeats 1000000 in
theorem closure_low (o : ByteArray) (r : Nat) (B : Nat) (w : World) (h1 : r < 128) (hc : w.cell? ⟨B, 0, none⟩ = some (.string o)) :
  Calls Tryz.prog 144 #[.int .i32 r, .pointer (some ⟨B, 0, none⟩)] w fun e w' => e = .returned (.bool (Cv.badR o.data.toList r)) ∧ Below w.heap.size w w' := by
 have hb : Cv.badR o.data.toList r = (!Cv.alnumN r && !decide (0 ≤ Lib.indexByte o.data.toList r.toUInt8)) := by
  unfold Cv.badR
  rw [Cv.indexByte_mem]
  simp only [h1, decide_true, Bool.true_and]
  congr 2
  apply List.any_congr
  rfl
  intro b
  rw [Bool.eq_iff_iff]
  simp [← UInt8.toNat_inj]
  rw [Nat.mod_eq_of_lt (by omega)]
 rw [hb]
 clear hb
 have hal : Cv.alnumN r = ((decide (97 ≤ (r : Int)) && decide ((r : Int) ≤ 122)) || (decide (65 ≤ (r : Int)) && decide ((r : Int) ≤ 90)) || (decide (48 ≤ (r : Int)) && decide ((r : Int) ≤ 57))) := by
  unfold Cv.alnumN; rw [Bool.eq_iff_iff]; simp; omega
 rw [hal]
 clear hal
 have h3 : (r : Int) < 128 := by omega
 have hcs : (r : Int) < 48 ∨ (48 ≤ (r : Int) ∧ (r : Int) ≤ 57) ∨ (58 ≤ (r : Int) ∧ (r : Int) ≤ 64) ∨ (65 ≤ (r : Int) ∧ (r : Int) ≤ 90) ∨ (91 ≤ (r : Int) ∧ (r : Int) ≤ 96) ∨ (97 ≤ (r : Int) ∧ (r : Int) ≤ 122) ∨ 123 ≤ (r : Int) := by omega
 rcases hcs with g | ⟨g, g'⟩ | ⟨g, g'⟩ | ⟨g, g'⟩ | ⟨g, g'⟩ | ⟨g, g'⟩ | g
 all_goals
  go_enter Tryz.func144, Tryz.ntmps144
  go_wp2_with (go_at_call 145; refine (Tryz.strings_ContainsRune_ascii _ _ _ (by omega) (by omega)).mono ?_; rintro e w1 ⟨rfl, rfl⟩; rw [Int.toNat_natCast])
  go_ret
  refine ⟨ret1 (vbool ?_), Below.refl _ _⟩
  generalize Lib.indexByte o.data.toList r.toUInt8 = I
  clear hc
  rw [Bool.eq_iff_iff]
  try simp
 all_goals omega
def Oth (o : ByteArray) : Prop := o.size ≤ 2 ∧ ∀ (i : Nat), i < o.size → (o.get! i).toNat < 128
theorem oth_none : Oth ⟨#[]⟩ := ⟨by decide, fun i hi => absurd hi (by show ¬ i < 0; omega)⟩
theorem oth_signs : Oth ⟨#[43, 45]⟩ := ⟨by decide, fun i hi => by
 have : i = 0 ∨ i = 1 := by have : i < 2 := hi; omega
 rcases this with rfl | rfl <;> decide⟩
theorem closure_grows (o : ByteArray) (B : Nat) (w : World) (ho : Oth o) (hB : B < w.heap.size) (hc : w.cell? ⟨B, 0, none⟩ = some (.string o)) : PredGrows Tryz.prog 144 #[.pointer (some ⟨B, 0, none⟩)] (Cv.badR o.data.toList) w := by
 intro W x hx hb
 have hc' : W.cell? ⟨B, 0, none⟩ = some (.string o) := (hb.cell (p := ⟨B, 0, none⟩) hB).trans hc
 by_cases h : x < 128
 ·exact closure_low o x B W h hc'
 ·exact closure_high o x B W ho.1 ho.2 (by omega) hx hc'
theorem letters_any (s o : ByteArray) (w : World) (ho : Oth o) :
  Calls Tryz.prog 126 #[.string s, .string o] w fun e w' => e = .returned (.bool (Cv.lettersB o.data.toList s.data.toList)) ∧ Below w.heap.size w w' := by
 have hC := fun W hB hc => Tryz.strings_ContainsFunc_grows 144 #[.pointer (some ⟨w.heap.size, 0, none⟩)] (enters_of Tryz.func144 (by kernel_rfl) rfl) (Cv.badR o.data.toList) s W (closure_grows o w.heap.size W ho hB hc)
 rw [Cv.idxFunc_letters] at hC
 have HC := Lib.hid hC
 clear hC ho
 go_enter Tryz.func126, Tryz.ntmps126
 go_wp2_with (go_at_call 59; refine (HC.out _ (by simp) (by simp)).mono ?_; rintro e w1 ⟨rfl, hb⟩)
 go_ret
 exact ⟨ret1 (vbool (by simp)), ((Below.refl _ _).alloc (Nat.le_refl _) _).trans (hb.mono (by simp))⟩
theorem toList_len (s : ByteArray) : s.toList.length = s.size := by
 rw [Lib.toList_data]; rfl
theorem isEmpty_no {s : ByteArray} (h : 1 ≤ s.size) : s.toList.isEmpty = false := by
 cases e : s.toList with
 | nil => have := toList_len s; rw [e] at this; simp at this; omega
 | cons a l => rfl
theorem isEmpty_nil {s : ByteArray} (h : s.size = 0) : s.toList = [] := List.eq_nil_of_length_eq_zero (by rw [toList_len, h])
theorem name_any (s : ByteArray) (w : World) :
  Calls Tryz.prog 129 #[.string s] w fun e w' => e = .returned (.bool (Cv.nameB s)) ∧ Below w.heap.size w w' := by
 by_cases h0 : s.size = 0
 ·rw [show Cv.nameB s = false by unfold Cv.nameB; rw [decide_eq_false (by omega)]; rfl]
  have h1 := isEmpty_nil h0
  go_enter Tryz.func129, Tryz.ntmps129
  go_wp2
  go_ret
  exact ⟨rfl, Below.refl _ _⟩
 ·have hne := isEmpty_no (s := s) (by omega)
  have hn2 : ¬ s.toList = [] := by intro h; rw [h] at hne; cases hne
  by_cases h1 : s.size ≤ 8
  ·have hl := fun W => letters_any s ⟨#[43, 45]⟩ W oth_signs
   have HL := Lib.hid hl
   rw [show Cv.nameB s = Cv.lettersB [43, 45] s.data.toList by unfold Cv.nameB; rw [decide_eq_true (by omega)]; rfl]
   clear hl
   go_enter Tryz.func129, Tryz.ntmps129
   go_wp2_with (go_at_call 126; refine (HL.out _).mono ?_; rintro e w1 ⟨rfl, hb⟩)
   go_ret
   exact ⟨rfl, hb⟩
  ·rw [show Cv.nameB s = false by unfold Cv.nameB; rw [decide_eq_false (by omega)]; rfl]
   go_enter Tryz.func129, Tryz.ntmps129
   go_wp2
   go_ret
   exact ⟨rfl, Below.refl _ _⟩
theorem zletter (c : Int) (w : World) : Calls Tryz.prog 82 #[.int .u8 c] w fun e w' => e = .returned (.bool (Cv.ltrI c)) ∧ w = w' := by
 have hcs : c < 65 ∨ (65 ≤ c ∧ c ≤ 90) ∨ (91 ≤ c ∧ c ≤ 96) ∨ (97 ≤ c ∧ c ≤ 122) ∨ 123 ≤ c := by omega
 rcases hcs with g | ⟨g, g'⟩ | ⟨g, g'⟩ | ⟨g, g'⟩ | g
 all_goals
  go_enter Tryz.func82, Tryz.ntmps82
  go_wp2
  go_ret
  exact ⟨ret1 (vbool (by unfold Cv.ltrI; rw [Bool.eq_iff_iff]; simp; omega)), rfl⟩
theorem zdigit (c : Int) (w : World) : Calls Tryz.prog 83 #[.int .u8 c] w fun e w' => e = .returned (.bool (Cv.digI c)) ∧ w = w' := by
 have hcs : c < 48 ∨ (48 ≤ c ∧ c ≤ 57) ∨ 58 ≤ c := by omega
 rcases hcs with g | ⟨g, g'⟩ | g
 all_goals
  go_enter Tryz.func83, Tryz.ntmps83
  go_wp2
  go_ret
  exact ⟨ret1 (vbool (by unfold Cv.digI; rw [Bool.eq_iff_iff]; simp; omega)), rfl⟩
end Go.Proofs.YtdpbhjaicgkblaaGreatDoor

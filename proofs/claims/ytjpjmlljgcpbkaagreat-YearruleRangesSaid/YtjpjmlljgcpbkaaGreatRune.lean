/- strings.IndexRune, ContainsRune at a rune beyond ASCII, in a text of at most two ASCII bytes: it is not there. -/
import Derived.Test.YtjpjmlljgcpbkaaGreatCivil
import Derived.Test.YtjpjmlljgcpbkaaGreatShelf
import Derived.Lib.OthersKept
import Derived.Lib.TrimUEq
import Derived.Deep.LoopGhost
namespace Go.Proofs.YtjpjmlljgcpbkaaGreat
set_option linter.unusedSimpArgs false
set_option linter.unusedVariables false
open Go.ChangeShapes Go.WideShapes Go.ChangeAt Go.RowKit

set_option maxRecDepth 100000 in
set_option maxHeartbeats 1000000 in
theorem IndexRune_err (s : ByteArray) (w : World) (hs : s.size ≤ 2) (ha : ∀ (i : Nat), i < s.size → (s.get! i).toNat < 128) :
    Calls Tryz.prog 105 #[.string s, .int .i32 65533] w fun e w' => e = .returned (.int .i64 (-1)) ∧ Below w.heap.size w w' := by
  go_enter Tryz.func105, Tryz.ntmps105
  go_wp2
  go_loopg [] s.size (fun gf wx => ∃ pos : Nat, wx.heap[w.heap.size]? = some (.stringIter s pos) ∧ Below w.heap.size w wx ∧ s.size ≤ pos + gf)
  case atStart => exact ⟨0, World.iter_heap w s 0, (Below.refl _ w).alloc (Nat.le_refl _) _, by omega⟩
  case round =>
    obtain ⟨pos, hit, hbw, hfu⟩ := hrel
    by_cases hps : pos < s.size
    · obtain ⟨g', rfl⟩ : ∃ g', gk = g' + 1 := ⟨gk - 1, by omega⟩
      have hd : Utf8.decode s pos = ((s.get! pos).toNat, 1) := by rw [Lib.decode_at]; exact Lib.decodeN_ascii _ _ _ _ _ (ha pos hps)
      have hnx : ∀ ty, (Instr.next (.pointer (some ⟨w.heap.size, 0, none⟩)) true ty).run Tryz.prog wr = _ := fun ty => Lib.run_next_any_at wr w.heap.size s pos ty hit hps
      rw [hd] at hnx
      have hk := ha pos hps
      have hit2 := Lib.iterAt_heap wr w.heap.size s pos (pos + 1) hit
      have hbw2 := Lib.below_iterAt hbw (k := w.heap.size) (Nat.le_refl _) s (pos + 1)
      obtain ⟨W, hWd⟩ : ∃ W, wr.iterAt w.heap.size s (pos + 1) = W := ⟨_, rfl⟩
      have hne : (((s.get! pos).toNat : Int) == 65533) = false := by simp; omega
      generalize (s.get! pos).toNat = R at *
      simp only [hWd] at hnx hit2 hbw2
      clear hd ha
      go_wp2
      go_roundg g'
      case measure => omega
      case rel => exact ⟨pos + 1, hit2, hbw2, by omega⟩
    · have hnx : ∀ ty, (Instr.next (.pointer (some ⟨w.heap.size, 0, none⟩)) true ty).run Tryz.prog wr = _ := fun ty => Lib.run_next_end_at wr w.heap.size s pos ty hit hps
      go_wp2
      go_ret
      exact ⟨rfl, hbw⟩

theorem two_bytes {s : ByteArray} (h : s.size = 2) : ∃ a b, s = ⟨#[a, b]⟩ := by
  obtain ⟨⟨l⟩⟩ := s
  match l, h with
  | [a, b], _ => exact ⟨a, b, rfl⟩
theorem byte1_ne {b0 b1 c0 c1 : UInt8} (h : ((c1.toNat : Int) != b1.toNat) = true) : (((((⟨#[c0, c1]⟩ : ByteArray)[1]'(by show 1 < 2; omega)).toNat : Nat) : Int) != ((((⟨#[b0, b1]⟩ : ByteArray)[1]'(by show 1 < 2; omega)).toNat : Nat) : Int)) = true := h
theorem slice2 (c0 c1 : UInt8) (w : World) : (Instr.slice 9 (.string ⟨#[c0, c1]⟩) (some (.int .i64 2)) none none).run Tryz.prog w = .ok (.string ⟨#[]⟩) w := by kernel_rfl
theorem validRune_eq (r : Int) : Lib.validRune r = Utf8.valid r := by
  unfold Lib.validRune Utf8.valid; rw [Bool.eq_iff_iff]; simp; omega
set_option maxRecDepth 100000 in
set_option maxHeartbeats 1000000 in
theorem IndexRune_bad (s : ByteArray) (r : Int) (w : World) (hs : s.size ≤ 2) (ha : ∀ (i : Nat), i < s.size → (s.get! i).toNat < 128) (h1 : 128 ≤ r) (h2 : r ≤ 1114111) (h3 : r ≠ 65533) :
    Calls Tryz.prog 105 #[.string s, .int .i32 r] w fun e w' => e = .returned (.int .i64 (-1)) ∧ Below w.heap.size w w' := by
  have h4 : (r == 65533) = false := by simpa using h3
  cases hv : Lib.validRune r
  · have HV := Lib.hid hv
    clear hv ha
    go_enter Tryz.func105, Tryz.ntmps105
    go_wp2_with (go_at_call 125; refine (Tryz.utf8_ValidRune _ _).mono ?_; rintro e w' ⟨rfl, rfl⟩; rw [HV.out])
    go_ret
    exact ⟨rfl, Below.refl _ _⟩
  · have hf := encode_facts r (by rw [← validRune_eq]; exact hv) h1
    have HV := Lib.hid hv
    generalize hE : Utf8.encode r = E at *
    obtain ⟨f1, f2, f3⟩ := hf
    have f4 := f3 (by omega)
    clear hv f3
    go_enter Tryz.func105, Tryz.ntmps105
    go_wp2_with (go_at_call 125; refine (Tryz.utf8_ValidRune _ _).mono ?_; rintro e w' ⟨rfl, rfl⟩; rw [HV.out])
    go_step3
    by_cases hlt : E.size - 1 < s.size
    · obtain ⟨b0, b1, rfl⟩ := two_bytes (s := E) (by omega)
      obtain ⟨c0, c1, rfl⟩ := two_bytes (s := s) (by omega)
      have hb1 : 128 ≤ (b1.toNat : Int) := by exact_mod_cast f4
      have hc1 : (c1.toNat : Int) < 128 := by exact_mod_cast ha 1 (show 1 < 2 by omega)
      have hbc0 : ((c1.toNat : Int) != b1.toNat) = true := by simp; omega
      clear ha hlt hs f1 f4 f2
      have hbc := byte1_ne (b0 := b0) (c0 := c0) hbc0
      clear hbc0
      go_wp2
      refine wp_loop_rounds 1 ?_; rw [rounds_succ]
      go_wp2
      go_step3
      go_wp2
      go_quiet (fail)
      go_wp2
      have hq := below_drewN (Below.refl w'.heap.size w') nq
      have hsl := slice2 c0 c1
      generalize w'.drewN nq = w2 at *
      go_quiet ((go_at_call 79; exact Calls.quiet_of_same (Tryz.strings_IndexByte _ _ _)))
      go_wp2
      simp only [Exit.noGoto_ret, Exit.inBlock, Exit.then]
      go_ret
      exact ⟨rfl, below_drewN hq _⟩
    · go_wp2
      refine wp_loop_rounds 1 ?_; rw [rounds_succ]
      have hx : ¬ (E.size : Int) - 1 < (s.size : Int) := by omega
      go_wp2
      go_ret
      exact ⟨rfl, Below.refl _ _⟩

/-- a rune beyond ASCII in a text of at most two ASCII bytes -/
theorem IndexRune_high (s : ByteArray) (r : Int) (w : World) (hs : s.size ≤ 2) (ha : ∀ (i : Nat), i < s.size → (s.get! i).toNat < 128) (h1 : 128 ≤ r) (h2 : r ≤ 1114111) :
    Calls Tryz.prog 105 #[.string s, .int .i32 r] w fun e w' => e = .returned (.int .i64 (-1)) ∧ Below w.heap.size w w' := by
  by_cases h3 : r = 65533
  · subst h3; exact IndexRune_err s w hs ha
  · exact IndexRune_bad s r w hs ha h1 h2 h3
theorem ContainsRune_high (s : ByteArray) (r : Int) (w : World) (hs : s.size ≤ 2) (ha : ∀ (i : Nat), i < s.size → (s.get! i).toNat < 128) (h1 : 128 ≤ r) (h2 : r ≤ 1114111) :
    Calls Tryz.prog 82 #[.string s, .int .i32 r] w fun e w' => e = .returned (.bool false) ∧ Below w.heap.size w w' := by
  have hc := fun W => IndexRune_high s r W hs ha h1 h2
  have HC := Lib.hid hc
  clear hc ha
  go_enter Tryz.func82, Tryz.ntmps82
  go_wp2_with (go_at_call 105; refine (HC.out _).mono ?_; rintro e w1 ⟨rfl, hb⟩)
  go_ret
  exact ⟨rfl, hb⟩

end Go.Proofs.YtjpjmlljgcpbkaaGreat

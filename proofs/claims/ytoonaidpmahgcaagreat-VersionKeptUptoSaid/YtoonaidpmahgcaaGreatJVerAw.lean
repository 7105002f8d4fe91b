/- civiltimelaw24.awake. -/
import Derived.Test.YtoonaidpmahgcaaGreatJVerA
import Derived.Test.YtoonaidpmahgcaaGreatJVerW4
import Derived.Test.YtoonaidpmahgcaaGreatJVerW6
import Derived.Test.YtoonaidpmahgcaaGreatJEqS
namespace Go.Proofs.YtoonaidpmahgcaaGreat
set_option linter.unusedSimpArgs false
set_option linter.unusedVariables false
open Go.ChangeShapes Go.WideShapes Go.ChangeAt Go.RowKit

def fxA : Zn := ⟨⟨#[65]⟩, ⟨3600, 0, ⟨#[43, 48, 49, 48, 48]⟩⟩, [], [], 0, ⟨#[]⟩, 0⟩
def fxB : Zn := ⟨⟨#[66]⟩, ⟨7200, 0, ⟨#[43, 48, 50, 48, 48]⟩⟩, [], [], 0, ⟨#[]⟩, 0⟩
theorem fxA_valid : fxA.valid = true := by decide +kernel
theorem fxB_valid : fxB.valid = true := by decide +kernel
theorem fxA_T : fxA.T = [] := rfl
theorem fxB_T : fxB.T = [] := rfl
theorem fxA_typ (t : Int) : fxA.typF t = fxA.first := by
  unfold Zn.typF Zn.prevF
  rw [fxA_T]
  rfl
theorem fxB_typ (t : Int) : fxB.typF t = fxB.first := by
  unfold Zn.typF Zn.prevF
  rw [fxB_T]
  rfl
theorem fxA_bet (a b : Int) : fxA.betF a b = [] := by
  unfold Zn.betF
  rw [fxA_T]
  rfl
theorem one_span {out : List Spn} (hc : Canon out) (h : ∀ t, hasL out t ↔ (0 ≤ t ∧ t < 100) ∧ fxA.typF t ≠ fxB.typF t) : out = [⟨0, 100⟩] := by
  refine canon_ext hc ⟨List.pairwise_singleton _ _, fun s hs => by rw [List.mem_singleton] at hs; subst hs; decide⟩ fun x => ?_
  rw [h x, fxA_typ, fxB_typ]
  unfold hasL Spn.has
  simp
  intro _ _ h
  have := congrArg Typ.off h
  revert this
  decide
theorem no_span {out : List Spn} (hc : Canon out) {p : Int → Prop} {α : Type} {f : Int → α} (h : ∀ t, hasL out t ↔ p t ∧ f t ≠ f t) : out = [] :=
  canon_ext hc canon_nil fun x => by
    rw [h x]
    constructor
    · intro h; exact (h.2 rfl).elim
    · rintro ⟨s, hs, _⟩; cases hs
theorem pol11 : polB 1 1 = true := by decide +kernel
theorem span100 : spanV 0 100 = true := by decide +kernel
set_option maxRecDepth 100000 in
set_option maxHeartbeats 1500000 in
theorem awake24_any (w : World) (hm : HasMax w) : Calls Tryz.prog 13 #[] w fun e w' => e = .returned (.bool true) ∧ Below w.heap.size w w' := by
  have HA := Lib.hid (fun W => fixedA W)
  have HB := Lib.hid (fun W => fixedB W)
  have HI := Lib.hid (fun W (hb : Below w.heap.size w W) => Instants_ver fxA fxB (.slice none 0 0) (.slice none 0 0) (.slice none 0 0) (.slice none 0 0) 0 100 W (hm.on hb) (.inl ⟨rfl, none, 0, rfl⟩) (.inl ⟨rfl, none, 0, rfl⟩) (.inl ⟨rfl, none, 0, rfl⟩) (.inl ⟨rfl, none, 0, rfl⟩) (by decide) (by decide) (by decide) (by decide) (by decide) (by decide) (fun _ => by decide))
  have HL := Lib.hid (fun W (hb : Below w.heap.size w W) => Locals_ver fxA fxA (.slice none 0 0) (.slice none 0 0) (.slice none 0 0) (.slice none 0 0) 0 100 1 1 W (hm.on hb) (.inl ⟨rfl, none, 0, rfl⟩) (.inl ⟨rfl, none, 0, rfl⟩) (.inl ⟨rfl, none, 0, rfl⟩) (.inl ⟨rfl, none, 0, rfl⟩) (by decide) (by decide) (by decide) (by decide) (by decide) (by decide) (fun _ _ => by rw [fxA_bet]; decide) (fun _ _ => by rw [fxA_bet]; decide))
  clear hm
  unfold InstEnd Zn.v at HI
  unfold LocEnd Zn.v at HL
  rw [fxA_valid, fxB_valid, span100] at HI
  rw [fxA_valid, pol11, span100] at HL
  dsimp only [fxA, fxB] at HI HL
  go_enter Tryz.func13, Tryz.ntmps13
  go_wp2_with fail
  refine (HA.out w).mono ?_
  rintro e w1 ⟨rfl, hb1⟩
  clear HA
  have ba := Blk.new w1 #[.string ⟨#[65]⟩, .int .i64 3600, .int .i64 0, .string ⟨#[43, 48, 49, 48, 48]⟩, .slice none 0 0, .slice none 0 0, .int .i64 0, .string ⟨#[]⟩, .int .i64 0] 27
  have hB1 : Below w.heap.size w (w1.alloc (.cells #[.string ⟨#[65]⟩, .int .i64 3600, .int .i64 0, .string ⟨#[43, 48, 49, 48, 48]⟩, .slice none 0 0, .slice none 0 0, .int .i64 0, .string ⟨#[]⟩, .int .i64 0] 27)) := hb1.alloc hb1.size _
  go_wp2_with fail
  generalize hw1 : w1.alloc (.cells #[.string ⟨#[65]⟩, .int .i64 3600, .int .i64 0, .string ⟨#[43, 48, 49, 48, 48]⟩, .slice none 0 0, .slice none 0 0, .int .i64 0, .string ⟨#[]⟩, .int .i64 0] 27) = wa at *
  clear hw1
  refine (HB.out wa).mono ?_
  rintro e w2 ⟨rfl, hb2⟩
  clear HB
  have ba := (ba.below hb2 ba.lt).alloc (.cells #[.string ⟨#[66]⟩, .int .i64 7200, .int .i64 0, .string ⟨#[43, 48, 50, 48, 48]⟩, .slice none 0 0, .slice none 0 0, .int .i64 0, .string ⟨#[]⟩, .int .i64 0] 27)
  have bb := Blk.new w2 #[.string ⟨#[66]⟩, .int .i64 7200, .int .i64 0, .string ⟨#[43, 48, 50, 48, 48]⟩, .slice none 0 0, .slice none 0 0, .int .i64 0, .string ⟨#[]⟩, .int .i64 0] 27
  have hB2 : Below w.heap.size w (w2.alloc (.cells #[.string ⟨#[66]⟩, .int .i64 7200, .int .i64 0, .string ⟨#[43, 48, 50, 48, 48]⟩, .slice none 0 0, .slice none 0 0, .int .i64 0, .string ⟨#[]⟩, .int .i64 0] 27)) := (hB1.trans (hb2.mono hB1.size)).alloc (hB1.trans (hb2.mono hB1.size)).size _
  have ba := ba.alloc (.cells #[.int .i64 0, .int .i64 100] 29)
  have bb := bb.alloc (.cells #[.int .i64 0, .int .i64 100] 29)
  have bi := Blk.new (w2.alloc (.cells #[.string ⟨#[66]⟩, .int .i64 7200, .int .i64 0, .string ⟨#[43, 48, 50, 48, 48]⟩, .slice none 0 0, .slice none 0 0, .int .i64 0, .string ⟨#[]⟩, .int .i64 0] 27)) #[.int .i64 0, .int .i64 100] 29
  have hB3 : Below w.heap.size w ((w2.alloc (.cells #[.string ⟨#[66]⟩, .int .i64 7200, .int .i64 0, .string ⟨#[43, 48, 50, 48, 48]⟩, .slice none 0 0, .slice none 0 0, .int .i64 0, .string ⟨#[]⟩, .int .i64 0] 27)).alloc (.cells #[.int .i64 0, .int .i64 100] 29)) := hB2.alloc hB2.size _
  simp only [World.size_alloc] at bi
  have La := ba.lt
  have a0 := blk_cl ba 0 _ rfl
  have a1 := blk_cl ba 1 _ rfl
  have a2 := blk_cl ba 2 _ rfl
  have a3 := blk_cl ba 3 _ rfl
  have a4 := blk_cl ba 4 _ rfl
  have a5 := blk_cl ba 5 _ rfl
  have a6 := blk_cl ba 6 _ rfl
  have a7 := blk_cl ba 7 _ rfl
  have a8 := blk_cl ba 8 _ rfl
  have Lb := bb.lt
  have b0 := blk_cl bb 0 _ rfl
  have b1 := blk_cl bb 1 _ rfl
  have b2 := blk_cl bb 2 _ rfl
  have b3 := blk_cl bb 3 _ rfl
  have b4 := blk_cl bb 4 _ rfl
  have b5 := blk_cl bb 5 _ rfl
  have b6 := blk_cl bb 6 _ rfl
  have b7 := blk_cl bb 7 _ rfl
  have b8 := blk_cl bb 8 _ rfl
  have Li := bi.lt
  have i0 := blk_cl bi 0 _ rfl
  have i1 := blk_cl bi 1 _ rfl
  go_wp2_with fail
  generalize (w2.alloc (.cells #[.string ⟨#[66]⟩, .int .i64 7200, .int .i64 0, .string ⟨#[43, 48, 50, 48, 48]⟩, .slice none 0 0, .slice none 0 0, .int .i64 0, .string ⟨#[]⟩, .int .i64 0] 27)).alloc (.cells #[.int .i64 0, .int .i64 100] 29) = w3 at *
  refine (HI.out w3 hB3).mono ?_
  rintro e w4 ⟨hb4, h4⟩
  clear HI
  rcases h4 with ⟨h, _⟩ | ⟨_, _, _, out, u, hc, hm, _, rfl, hown⟩
  · rcases h with h | h | h <;> cases h
  have ho := one_span hc hm
  subst ho
  have hR4 := rd_of_own encN_len hown rfl
  have hn4 := noSpot_own hown
  have hB4 := hB3.trans (hb4.mono hB3.size)
  clear hc hm hown
  have ba4 := ba.below hb4 ba.lt
  have bi4 := bi.below hb4 bi.lt
  clear La a0 a1 a2 a3 a4 a5 a6 a7 a8 Lb b0 b1 b2 b3 b4 b5 b6 b7 b8 Li i0 i1
  have La := ba4.lt
  have a0 := blk_cl ba4 0 _ rfl
  have a1 := blk_cl ba4 1 _ rfl
  have a2 := blk_cl ba4 2 _ rfl
  have a3 := blk_cl ba4 3 _ rfl
  have a4 := blk_cl ba4 4 _ rfl
  have a5 := blk_cl ba4 5 _ rfl
  have a6 := blk_cl ba4 6 _ rfl
  have a7 := blk_cl ba4 7 _ rfl
  have a8 := blk_cl ba4 8 _ rfl
  have Li := bi4.lt
  have i0 := blk_cl bi4 0 _ rfl
  have i1 := blk_cl bi4 1 _ rfl
  go_wp2_with fail
  refine (HL.out w4 hB4).mono ?_
  rintro e w5 ⟨hb5, h5⟩
  clear HL
  rcases h5 with ⟨h, _⟩ | ⟨_, _, _, _, out, u', hc, hm, _, rfl, hown⟩
  · rcases h with h | h | h | h <;> cases h
  have ho := no_span (p := fun t => 0 ≤ t ∧ t < 100) (f := fun t => fxA.resV t 1 1) hc hm
  subst ho
  have hR5 := rd_of_own encN_len hown rfl
  have hn5 := noSpot_own hown
  obtain ⟨A5, c5, rfl⟩ := rd_vf hR5
  obtain ⟨A4, c4, rfl⟩ := rd_vf hR4
  have hB5 := hB4.trans (hb5.mono hB4.size)
  have HR := Lib.hid (hR4.on hb5)
  clear hc hm hown hR5 hR4
  have bi5 := bi4.below hb5 bi4.lt
  clear La a0 a1 a2 a3 a4 a5 a6 a7 a8 Li i0 i1
  have Li := bi5.lt
  have i0 := blk_cl bi5 0 _ rfl
  have i1 := blk_cl bi5 1 _ rfl
  go_wp2_with fail
  have hRn : Rd encN 2 (w5.alloc (.cells #[.int .i64 0, .int .i64 100] 29)) (.slice (some ⟨w5.heap.size, 0, none⟩) 1 1) [(⟨0, 100⟩ : Spn)] :=
    .inr ⟨w5.heap.size, 0, 1, rfl, by simp, fun j hj i u hu => by
      have hj0 : j = 0 := by simp at hj; omega
      subst hj0
      have := alloc_cells w5 [.int .i64 0, .int .i64 100] 29 i u hu
      simpa using this⟩
  have hb6 : Below w5.heap.size w5 (w5.alloc (.cells #[.int .i64 0, .int .i64 100] 29)) := alloc_below' w5 _
  refine (EqS_same [(⟨0, 100⟩ : Spn)] _ _ _ (by decide) (HR.out.on hb6) hRn).mono ?_
  rintro e w6 ⟨rfl, hb7⟩
  have hBF : Below w.heap.size w w6 := (hB5.trans (hb6.mono hB5.size)).trans (hb7.mono (hB5.trans (hb6.mono hB5.size)).size)
  clear bi5 Li i0 i1 hRn HR hb6 hb7
  go_wp2
  go_ret
  exact ⟨rfl, hBF⟩

end Go.Proofs.YtoonaidpmahgcaaGreat

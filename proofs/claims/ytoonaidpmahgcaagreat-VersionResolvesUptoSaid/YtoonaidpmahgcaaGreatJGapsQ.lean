/- What local.Gaps and local.Folds gather, before it is joined. No program in sight. -/
import Derived.Test.YtoonaidpmahgcaaGreatGLa
import Derived.Test.YtoonaidpmahgcaaGreatJCombP
import Derived.Test.YtoonaidpmahgcaaGreatJMildQ
namespace Go.Proofs.YtoonaidpmahgcaaGreat
set_option linter.unusedSimpArgs false
set_option linter.unusedVariables false
open Go.Sort

def imgs (ps : List Piece) : List Spn := ps.map Piece.img
/-- the pieces of a span within time -/
structure Pcs (ps : List Piece) (f b : Int) : Prop where
  ct : contig f ps b
  lo : -62135596800 ≤ f
  hi : b ≤ 253402300800
  off : ∀ p ∈ ps, -93600 < p.off ∧ p.off < 93600
theorem contig_bd : ∀ {ps : List Piece} {f b : Int}, contig f ps b → (∀ p ∈ ps, f ≤ p.fr ∧ p.fr < p.to ∧ p.to ≤ b) ∧ ps.Pairwise (fun p q => p.to ≤ q.fr)
  | [], _, _, _ => ⟨fun p h => (by cases h), List.Pairwise.nil⟩
  | p :: ps, f, b, ⟨h1, h2, h3⟩ => by
    obtain ⟨g1, g2⟩ := contig_bd h3
    refine ⟨fun q hq => ?_, List.pairwise_cons.2 ⟨fun q hq => (g1 q hq).1, g2⟩⟩
    have hb := contig_le h3
    rcases List.mem_cons.1 hq with rfl | hq
    · omega
    · have := g1 q hq
      omega
theorem pcs_of {z : Zn} (hv : z.valid = true) {a b : Int} (h : wideA a < wideB b) : Pcs (z.pieces (wideA a) (wideB b)) (wideA a) (wideB b) :=
  ⟨pieces_contig hv h, by unfold wideA; omega, by unfold wideB; omega, fun p hp => (off_of hv hp).1⟩
theorem img_ok {ps : List Piece} {f b : Int} (h : Pcs ps f b) : ∀ s ∈ imgs ps, s.ok = true := fun s hs => by
  obtain ⟨p, hp, rfl⟩ := List.mem_map.1 hs
  have h1 := (contig_bd h.ct).1 p hp
  have h2 := h.off p hp
  have := h.lo
  have := h.hi
  exact Spn.ok_iff.2 ⟨by unfold Piece.img; dsimp only; omega, by unfold Piece.img; dsimp only; omega, by unfold Piece.img; dsimp only; omega⟩

/-! ### skips in order -/
theorem skipsF_asc : ∀ {ps : List Piece} {o f b : Int}, contig f ps b → (skipsF o false ps).Pairwise (fun x y => x.at_ ≤ y.at_)
  | [], _, _, _, _ => List.Pairwise.nil
  | p :: ps, o, f, b, ⟨h1, h2, h3⟩ => by
    have ih := skipsF_asc (o := p.off) h3
    rw [skipsF]
    split
    · refine List.pairwise_cons.2 ⟨fun y hy => ?_, ih⟩
      have := (mem_skipsF h3 hy).1
      dsimp only
      omega
    · exact ih
theorem skipsF_from : ∀ {ps : List Piece} {o f b : Int} {x : Skip}, contig f ps b → x ∈ skipsF o false ps → x.at_ + x.bef = f + o ∨ ∃ p ∈ ps, x.at_ + x.bef = p.to + p.off
  | [], _, _, _, _, _, h => by cases h
  | p :: ps, o, f, b, x, ⟨h1, h2, h3⟩, h => by
    have key : x ∈ skipsF p.off false ps → x.at_ + x.bef = f + o ∨ ∃ q ∈ p :: ps, x.at_ + x.bef = q.to + q.off := fun h => by
      rcases skipsF_from h3 h with g | ⟨q, hq, g⟩
      · exact .inr ⟨p, List.mem_cons_self, g⟩
      · exact .inr ⟨q, List.mem_cons_of_mem _ hq, g⟩
    rw [skipsF] at h
    split at h
    · rcases List.mem_cons.1 h with rfl | h
      · left; dsimp only; omega
      · exact key h
    · exact key h
/-- what the list of skips is -/
structure Skips (ps : List Piece) (f b : Int) (L : List Skip) : Prop where
  bd : ∀ x ∈ L, f ≤ x.at_ ∧ x.at_ < b ∧ x.bef < x.aft ∧ (-93600 < x.bef ∧ x.bef < 93600) ∧ (-93600 < x.aft ∧ x.aft < 93600)
  asc : L.Pairwise (fun x y => x.at_ ≤ y.at_)
  frm : ∀ x ∈ L, ∃ p ∈ ps, x.at_ + x.bef = p.to + p.off
theorem skips_ok {z : Zn} (hv : z.valid = true) {a b : Int} (h : wideA a < wideB b) : Skips (z.pieces (wideA a) (wideB b)) (wideA a) (wideB b) (z.skips (wideA a) (wideB b)) := by
  refine ⟨fun x hx => mem_skips hv h hx, ?_, fun x hx => ?_⟩
  · have hc := pieces_contig hv h
    unfold Zn.skips
    generalize z.pieces (wideA a) (wideB b) = ps at *
    cases ps with
    | nil => exact List.Pairwise.nil
    | cons p ps =>
      rw [skipsF, if_neg (by simp)]
      exact skipsF_asc hc.2.2
  · have hc := pieces_contig hv h
    unfold Zn.skips at hx
    generalize z.pieces (wideA a) (wideB b) = ps at *
    cases ps with
    | nil => cases hx
    | cons p ps =>
      rw [skipsF, if_neg (by simp)] at hx
      rcases skipsF_from hc.2.2 hx with g | ⟨q, hq, g⟩
      · exact ⟨p, List.mem_cons_self, g⟩
      · exact ⟨q, List.mem_cons_of_mem _ hq, g⟩

/-! ### what is left of a skip -/
structure RestInv (x : Skip) (N r : List Spn) : Prop where
  m : ∀ y, hasL r y ↔ inSkip y x = true ∧ ∀ s ∈ N, ¬ s.has y
  asc : r.Pairwise (fun s t => s.to ≤ t.fr)
  ok : ∀ s ∈ r, s.ok = true
  f : ∀ s ∈ r, s.fr = x.at_ + x.bef ∨ ∃ t ∈ N, s.fr = t.to
def Skip.spn (x : Skip) : Spn := ⟨x.at_ + x.bef, x.at_ + x.aft⟩
theorem rest_start {x : Skip} (h : x.spn.ok = true) : RestInv x [] [x.spn] := by
  refine ⟨fun y => ?_, List.pairwise_singleton _ _, fun s hs => by rw [List.mem_singleton.1 hs]; exact h, fun s hs => .inl (by rw [List.mem_singleton.1 hs]; rfl)⟩
  rw [hasL_one]
  unfold inSkip Spn.has Skip.spn
  simp
theorem minus_mem {a b s : Spn} (hs : s ∈ minusF a b) : a.fr ≤ s.fr ∧ s.to ≤ a.to ∧ s.fr < s.to ∧ (s.fr = a.fr ∨ s.fr = b.to) := by
  unfold minusF at hs
  rcases List.mem_append.1 hs with hs | hs <;> split at hs
  · rw [List.mem_singleton] at hs; subst hs; dsimp only; omega
  · cases hs
  · rw [List.mem_singleton] at hs; subst hs; dsimp only; omega
  · cases hs
theorem minus_asc {a b : Spn} (hb : b.fr < b.to) : (minusF a b).Pairwise (fun s t => s.to ≤ t.fr) := by
  unfold minusF
  refine List.pairwise_append.2 ⟨by split <;> simp, by split <;> simp, fun s hs t ht => ?_⟩
  split at hs
  · split at ht
    · rw [List.mem_singleton] at hs ht; subst hs; subst ht; dsimp only; omega
    · cases ht
  · cases hs
theorem minus_len (a b : Spn) : (minusF a b).length ≤ 2 := by
  unfold minusF
  rw [List.length_append]
  have h1 : (if a.fr < min a.to b.fr then [(⟨a.fr, min a.to b.fr⟩ : Spn)] else []).length ≤ 1 := by split <;> simp
  have h2 : (if max a.fr b.to < a.to then [(⟨max a.fr b.to, a.to⟩ : Spn)] else []).length ≤ 1 := by split <;> simp
  omega
theorem flat_minus_len (b : Spn) : ∀ r : List Spn, (r.flatMap fun q => minusF q b).length ≤ 2 * r.length
  | [] => by simp
  | a :: r => by
    have := flat_minus_len b r
    have := minus_len a b
    rw [List.flatMap_cons, List.length_append, List.length_cons]
    omega
theorem rest_step {x : Skip} {N r : List Spn} {s : Spn} (h : RestInv x N r) (hs : s.ok = true) : RestInv x (N ++ [s]) (r.flatMap fun q => minusF q s) := by
  have hs3 := (Spn.ok_iff.1 hs).2.2
  refine ⟨fun y => ?_, ?_, fun t ht => ?_, fun t ht => ?_⟩
  · have e : hasL (r.flatMap fun q => minusF q s) y ↔ hasL r y ∧ ¬ s.has y := by
      constructor
      · rintro ⟨u, hu, h1⟩
        obtain ⟨q, hq, h2⟩ := List.mem_flatMap.1 hu
        have := (mem_minusF hs3 y (a := q)).1 ⟨u, h2, h1⟩
        exact ⟨⟨q, hq, this.1⟩, this.2⟩
      · rintro ⟨⟨q, hq, h1⟩, h2⟩
        obtain ⟨u, hu, h3⟩ := (mem_minusF hs3 y (a := q)).2 ⟨h1, h2⟩
        exact ⟨u, List.mem_flatMap.2 ⟨q, hq, hu⟩, h3⟩
    rw [e, h.m y]
    constructor
    · rintro ⟨⟨h1, h2⟩, h3⟩
      refine ⟨h1, fun u hu => ?_⟩
      rcases List.mem_append.1 hu with hu | hu
      · exact h2 u hu
      · rw [List.mem_singleton.1 hu]; exact h3
    · rintro ⟨h1, h2⟩
      exact ⟨⟨h1, fun u hu => h2 u (List.mem_append_left _ hu)⟩, h2 s (by simp)⟩
  · rw [List.flatMap, List.pairwise_flatten, List.pairwise_map]
    refine ⟨fun l hl => ?_, h.asc.imp fun {a b} hab u hu v hv => ?_⟩
    · obtain ⟨q, _, rfl⟩ := List.mem_map.1 hl
      exact minus_asc hs3
    · have := minus_mem hu
      have := minus_mem hv
      omega
  · obtain ⟨q, hq, h2⟩ := List.mem_flatMap.1 ht
    have h3 := minus_mem h2
    have h4 := Spn.ok_iff.1 (h.ok q hq)
    exact Spn.ok_iff.2 ⟨by omega, by omega, h3.2.2.1⟩
  · obtain ⟨q, hq, h2⟩ := List.mem_flatMap.1 ht
    obtain ⟨_, _, _, h5 | h5⟩ := minus_mem h2
    · rw [h5]
      rcases h.f q hq with h6 | ⟨u, hu, h6⟩
      · exact .inl h6
      · exact .inr ⟨u, List.mem_append_left _ hu, h6⟩
    · exact .inr ⟨s, by simp, h5⟩
theorem RestInv.len {x : Skip} {N r : List Spn} (h : RestInv x N r) : r.length ≤ N.length + 1 := by
  have h1 : (r.map Spn.fr).Pairwise (· < ·) := by
    rw [List.pairwise_map]
    refine List.pairwise_iff_getElem.2 fun i j hi hj hij => ?_
    have h2 := List.pairwise_iff_getElem.1 h.asc i j hi hj hij
    have h3 := Spn.ok_iff.1 (h.ok _ (List.getElem_mem hi))
    omega
  have := asc_sub_len (S := (x.at_ + x.bef) :: N.map Spn.to) h1 fun a ha => by
    obtain ⟨s, hs, rfl⟩ := List.mem_map.1 ha
    rcases h.f s hs with h2 | ⟨t, ht, h2⟩
    · rw [h2]; exact List.mem_cons_self
    · rw [h2]; exact List.mem_cons_of_mem _ (List.mem_map.2 ⟨t, ht, rfl⟩)
  simpa using this
/-- what is left of a skip without all images -/
structure GapOne (ps : List Piece) (x : Skip) (r : List Spn) : Prop where
  m : ∀ y, hasL r y ↔ inSkip y x = true ∧ ∀ p ∈ ps, ¬ p.img.has y
  ok : ∀ s ∈ r, s.ok = true
  f : ∀ s ∈ r, s.fr = x.at_ + x.bef ∨ ∃ p ∈ ps, s.fr = p.to + p.off
  l : r.length ≤ ps.length + 1
theorem gap_one {ps : List Piece} {f b : Int} (hp : Pcs ps f b) {x : Skip} (hx : (-93600 < x.bef ∧ x.bef < 93600) ∧ (-93600 < x.aft ∧ x.aft < 93600)) {i m : Nat} {r : List Spn} (h : RestInv x (((imgs ps).drop i).take m) r)
    (h1 : ∀ j, j < i → ((imgs ps)[j]!).to < x.at_ - 280800) (h2 : ps.length ≤ i + m ∨ x.at_ + 280800 < ((imgs ps)[i + m]!).fr) : GapOne ps x r := by
  have hl : (imgs ps).length = ps.length := by unfold imgs; simp
  have hbd := contig_bd hp.ct
  have hE : ∀ j (hj : j < ps.length), (imgs ps)[j]! = (ps[j]).img := fun j hj => by
    rw [getElem!_pos (imgs ps) j (by omega)]
    unfold imgs
    rw [List.getElem_map]
  refine ⟨fun y => ?_, h.ok, fun s hs => ?_, ?_⟩
  · rw [h.m y]
    refine ⟨fun ⟨g1, g2⟩ => ⟨g1, fun p hp1 hy => ?_⟩, fun ⟨g1, g2⟩ => ⟨g1, fun s hs => ?_⟩⟩
    · obtain ⟨j, hj, rfl⟩ := List.getElem_of_mem hp1
      have hy' := hy
      unfold Spn.has at hy'
      have g3 : x.at_ + x.bef ≤ y ∧ y < x.at_ + x.aft := by unfold inSkip at g1; simpa using g1
      by_cases hji : j < i
      · have := h1 j hji
        rw [hE j hj] at this
        omega
      · by_cases hjm : j < i + m
        · refine g2 _ ?_ hy
          refine List.mem_take_iff_getElem.2 ⟨j - i, by rw [List.length_drop, hl]; omega, ?_⟩
          rw [List.getElem_drop]
          unfold imgs
          rw [List.getElem_map]
          congr 2
          omega
        · rcases h2 with h2 | h2
          · omega
          · rw [hE _ (by omega)] at h2
            have hq := hp.off _ (List.getElem_mem (show i + m < ps.length by omega))
            have hp2 := hp.off _ (List.getElem_mem hj)
            have hle : (ps[i + m]'(by omega)).fr ≤ (ps[j]).fr := by
              rcases Nat.lt_or_eq_of_le (show i + m ≤ j by omega) with h3 | h3
              · have h4 := List.pairwise_iff_getElem.1 hbd.2 (i + m) j (by omega) hj h3
                have h5 := hbd.1 _ (List.getElem_mem (show i + m < ps.length by omega))
                omega
              · simp only [h3]; exact Int.le_refl _
            unfold Piece.img at h2 hy'
            dsimp only at h2 hy'
            omega
    · have hm : s ∈ imgs ps := List.mem_of_mem_drop (List.mem_of_mem_take hs)
      obtain ⟨p, hp1, rfl⟩ := List.mem_map.1 hm
      exact g2 p hp1
  · rcases h.f s hs with g | ⟨t, ht, g⟩
    · exact .inl g
    · obtain ⟨p, hp1, rfl⟩ := List.mem_map.1 (List.mem_of_mem_drop (List.mem_of_mem_take ht))
      exact .inr ⟨p, hp1, g⟩
  · have h3 := h.len
    rw [List.length_take, List.length_drop, hl] at h3
    omega
/-- what the gaps of some skips are -/
structure GapsOk (ps : List Piece) (L : List Skip) (out : List Spn) : Prop where
  m : ∀ y, hasL out y ↔ (∃ x ∈ L, inSkip y x = true) ∧ ∀ p ∈ ps, ¬ p.img.has y
  ok : ∀ s ∈ out, s.ok = true
  f : ∀ s ∈ out, (∃ x ∈ L, s.fr = x.at_ + x.bef) ∨ ∃ p ∈ ps, s.fr = p.to + p.off
  l : out.length ≤ L.length * (ps.length + 1)
theorem gaps_nil (ps : List Piece) : GapsOk ps [] [] := ⟨fun y => ⟨fun h => absurd h (hasL_nil y), fun ⟨⟨x, hx, _⟩, _⟩ => (by cases hx)⟩, fun s hs => (by cases hs), fun s hs => (by cases hs), Nat.zero_le _⟩
theorem gaps_snoc {ps : List Piece} {L : List Skip} {out r : List Spn} {x : Skip} (h : GapsOk ps L out) (g : GapOne ps x r) : GapsOk ps (L ++ [x]) (out ++ r) := by
  refine ⟨fun y => ?_, fun s hs => ?_, fun s hs => ?_, ?_⟩
  · rw [hasL_append, h.m y, g.m y]
    constructor
    · rintro (⟨⟨u, hu, h1⟩, h2⟩ | ⟨h1, h2⟩)
      · exact ⟨⟨u, List.mem_append_left _ hu, h1⟩, h2⟩
      · exact ⟨⟨x, by simp, h1⟩, h2⟩
    · rintro ⟨⟨u, hu, h1⟩, h2⟩
      rcases List.mem_append.1 hu with hu | hu
      · exact .inl ⟨⟨u, hu, h1⟩, h2⟩
      · rw [List.mem_singleton.1 hu] at h1; exact .inr ⟨h1, h2⟩
  · rcases List.mem_append.1 hs with hs | hs
    · exact h.ok s hs
    · exact g.ok s hs
  · rcases List.mem_append.1 hs with hs | hs
    · rcases h.f s hs with ⟨u, hu, h1⟩ | h1
      · exact .inl ⟨u, List.mem_append_left _ hu, h1⟩
      · exact .inr h1
    · rcases g.f s hs with h1 | h1
      · exact .inl ⟨x, by simp, h1⟩
      · exact .inr h1
  · have h1 := h.l
    have h2 := g.l
    rw [List.length_append, List.length_append, List.length_singleton, Nat.add_mul, Nat.one_mul]
    omega

/-! ### folds -/
/-- what the folds of the first images, and of some in front of the next one, are -/
structure FoldsOk (ps : List Piece) (P : Nat → Nat → Prop) (out : List Spn) : Prop where
  m : ∀ y, hasL out y ↔ ∃ i j, P i j ∧ ((imgs ps)[i]!).has y ∧ ((imgs ps)[j]!).has y
  ok : ∀ s ∈ out, s.ok = true
  f : ∀ s ∈ out, ∃ p ∈ ps, s.fr = p.fr + p.off
/-- the pairs of the first n images -/
def pairsN (n : Nat) (i j : Nat) : Prop := j < i ∧ i < n
/-- and those of the next one with images from k on -/
def pairsK (n k : Nat) (i j : Nat) : Prop := pairsN n i j ∨ i = n ∧ k ≤ j ∧ j < n
theorem folds_nil (ps : List Piece) : FoldsOk ps (pairsN 0) [] := ⟨fun y => ⟨fun h => absurd h (hasL_nil y), fun ⟨i, j, h, _⟩ => absurd h.2 (Nat.not_lt_zero _)⟩, fun s hs => (by cases hs), fun s hs => (by cases hs)⟩
theorem folds_in {ps : List Piece} {n : Nat} {out : List Spn} (h : FoldsOk ps (pairsN n) out) : FoldsOk ps (pairsK n n) out :=
  ⟨fun y => by
    rw [h.m y]
    constructor
    · rintro ⟨i, j, h1, h2⟩; exact ⟨i, j, .inl h1, h2⟩
    · rintro ⟨i, j, h1 | h1, h2⟩
      · exact ⟨i, j, h1, h2⟩
      · omega, h.ok, h.f⟩
theorem img_at {ps : List Piece} {i : Nat} (hi : i < ps.length) : (imgs ps)[i]! = (ps[i]).img := by
  rw [getElem!_pos (imgs ps) i (by unfold imgs; simpa using hi)]
  unfold imgs
  rw [List.getElem_map]
theorem folds_add {ps : List Piece} {f b : Int} (hp : Pcs ps f b) {n k : Nat} {out : List Spn} (h : FoldsOk ps (pairsK n (k + 1)) out) (hn : n < ps.length) (hk : k < n) :
    FoldsOk ps (pairsK n k) (out ++ (if meetB ((imgs ps)[n]!) ((imgs ps)[k]!) = true then [meetF ((imgs ps)[n]!) ((imgs ps)[k]!)] else [])) := by
  have ok := img_ok hp
  have hl : (imgs ps).length = ps.length := by unfold imgs; simp
  have m1 : (imgs ps)[n]! ∈ imgs ps := by rw [getElem!_pos (imgs ps) n (by omega)]; exact List.getElem_mem _
  have m2 : (imgs ps)[k]! ∈ imgs ps := by rw [getElem!_pos (imgs ps) k (by omega)]; exact List.getElem_mem _
  have o1 := ok _ m1
  have o2 := ok _ m2
  have key : ∀ y, hasL (if meetB ((imgs ps)[n]!) ((imgs ps)[k]!) = true then [meetF ((imgs ps)[n]!) ((imgs ps)[k]!)] else []) y ↔ ((imgs ps)[n]!).has y ∧ ((imgs ps)[k]!).has y := fun y => by
    cases hm : meetB ((imgs ps)[n]!) ((imgs ps)[k]!)
    · simp only [Bool.false_eq_true, if_false]
      exact ⟨fun h => absurd h (hasL_nil y), fun h => absurd h (meet_none o1 o2 hm y)⟩
    · simp only [if_true]
      rw [hasL_one, meet_has]
  refine ⟨fun y => ?_, fun s hs => ?_, fun s hs => ?_⟩
  · rw [hasL_append, h.m y, key y]
    constructor
    · rintro (⟨i, j, h1, h2⟩ | h2)
      · refine ⟨i, j, ?_, h2⟩
        rcases h1 with h1 | h1
        · exact .inl h1
        · exact .inr (by omega)
      · exact ⟨n, k, .inr (by omega), h2⟩
    · rintro ⟨i, j, h1, h2⟩
      rcases h1 with h1 | h1
      · exact .inl ⟨i, j, .inl h1, h2⟩
      · by_cases hj : j = k
        · rw [h1.1, hj] at h2; exact .inr h2
        · exact .inl ⟨i, j, .inr (by omega), h2⟩
  · rcases List.mem_append.1 hs with hs | hs
    · exact h.ok s hs
    · split at hs
      · rename_i hm
        rw [List.mem_singleton.1 hs]
        unfold meetB at hm
        simp only [Bool.and_eq_true, decide_eq_true_eq] at hm
        have e1 := Spn.ok_iff.1 o1
        have e2 := Spn.ok_iff.1 o2
        have e3 := hm.2.2
        refine Spn.ok_iff.2 ⟨?_, ?_, e3⟩
        · unfold meetF; dsimp only; omega
        · unfold meetF; dsimp only; omega
      · cases hs
  · rcases List.mem_append.1 hs with hs | hs
    · exact h.f s hs
    · split at hs
      · rw [List.mem_singleton.1 hs, img_at hn, img_at (show k < ps.length by omega)]
        unfold meetF Piece.img
        dsimp only
        rcases Int.le_total ((ps[n]).fr + (ps[n]).off) ((ps[k]'(by omega)).fr + (ps[k]'(by omega)).off) with g | g
        · exact ⟨_, List.getElem_mem (show k < ps.length by omega), by omega⟩
        · exact ⟨_, List.getElem_mem hn, by omega⟩
      · cases hs
/-- images further ahead do not meet -/
theorem folds_end {ps : List Piece} {f b : Int} (hp : Pcs ps f b) {n k : Nat} {out : List Spn} (h : FoldsOk ps (pairsK n k) out) (hn : n < ps.length) (hk : k ≤ n) (hs : k = 0 ∨ ((imgs ps)[k - 1]!).to ≤ ((imgs ps)[n]!).fr - 374400) : FoldsOk ps (pairsN (n + 1)) out := by
  have hbd := contig_bd hp.ct
  refine ⟨fun y => ?_, h.ok, h.f⟩
  rw [h.m y]
  constructor
  · rintro ⟨i, j, h1, h2⟩
    refine ⟨i, j, ?_, h2⟩
    rcases h1 with h1 | h1
    · exact ⟨h1.1, by have := h1.2; omega⟩
    · exact ⟨by omega, by omega⟩
  · rintro ⟨i, j, h1, h2⟩
    refine ⟨i, j, ?_, h2⟩
    by_cases hi : i < n
    · exact .inl ⟨h1.1, hi⟩
    · have hi2 : i = n := by have := h1.2; omega
      refine .inr ⟨hi2, Nat.not_lt.1 fun hjk => ?_, by have := h1.1; omega⟩
      rcases hs with hs | hs
      · omega
      · have hj : j < ps.length := by omega
        have hk1 : k - 1 < ps.length := by omega
        rw [hi2, img_at hn, img_at hj] at h2
        rw [img_at hn, img_at hk1] at hs
        have b1 := hp.off _ (List.getElem_mem hj)
        have b2 := hp.off _ (List.getElem_mem hk1)
        have hle : (ps[j]).to ≤ (ps[k - 1]).to := by
          rcases Nat.lt_or_eq_of_le (show j ≤ k - 1 by omega) with h3 | h3
          · have h4 := List.pairwise_iff_getElem.1 hbd.2 j (k - 1) hj hk1 h3
            have h5 := hbd.1 _ (List.getElem_mem hk1)
            omega
          · simp only [h3]; exact Int.le_refl _
        unfold Spn.has Piece.img at h2
        unfold Piece.img at hs
        dsimp only at h2 hs
        omega

/-! ### what the law says -/
theorem two_of {l : List Int} (hA : l.Pairwise (· < ·)) : 1 < l.length ↔ ∃ s ∈ l, ∃ t ∈ l, s ≠ t := by
  constructor
  · intro h
    have := List.pairwise_iff_getElem.1 hA 0 1 (by omega) h (by omega)
    exact ⟨l[0], List.getElem_mem _, l[1], List.getElem_mem _, by omega⟩
  · rintro ⟨s, hs, t, ht, hne⟩
    match l, hs, ht with
    | [x], hs, ht => rw [List.mem_singleton.1 hs, List.mem_singleton.1 ht] at hne; exact absurd rfl hne
    | x :: y :: l, _, _ => simp
/-- a local time is in a gap, and in a fold -/
structure Marks (z : Zn) (a b : Int) (l : Int) (g f : Bool) : Prop where
  gap : g = true → z.insts l = []
  fold : f = true ↔ 1 < (z.insts l).length
  far : g = false → -62135596800 + 187200 ≤ l → l < 253402300800 - 187200 → z.insts l ≠ []
theorem marks {z : Zn} (hv : z.valid = true) {a b l : Int} (ha : -62135596800 ≤ a) (hb : b ≤ 253402300800) (hl : a ≤ l ∧ l < b) {G F : List Spn} (hG : GapsOk (z.pieces (wideA a) (wideB b)) (z.skips (wideA a) (wideB b)) G)
    (hF : FoldsOk (z.pieces (wideA a) (wideB b)) (pairsN (z.pieces (wideA a) (wideB b)).length) F) {g f : Bool} (hg : g = true ↔ hasL G l) (hf : f = true ↔ hasL F l) : Marks z a b l g f := by
  have hip := fun t => inst_piece (t := t) hv ha hb hl
  have hw : wideA a < wideB b := by unfold wideA wideB; omega
  have hP := pcs_of hv hw
  have hbd := contig_bd hP.ct
  refine ⟨fun h => ?_, ?_, fun h h1 h2 h3 => ?_⟩
  · have h1 := ((hG.m l).1 (hg.1 h)).2
    rw [List.eq_nil_iff_forall_not_mem]
    intro t ht
    obtain ⟨p, hp, h2, _⟩ := (hip t).1 ht
    exact h1 p hp h2
  · rw [hf, hF.m l, two_of (insts_asc hv l)]
    constructor
    · rintro ⟨i, j, ⟨h1, h2⟩, h3, h4⟩
      rw [img_at h2] at h3
      rw [img_at (by omega)] at h4
      refine ⟨_, (hip _).2 ⟨_, List.getElem_mem h2, h3, rfl⟩, _, (hip _).2 ⟨_, List.getElem_mem (show j < _ by omega), h4, rfl⟩, ?_⟩
      have := List.pairwise_iff_getElem.1 hbd.2 j i (by omega) h2 h1
      unfold Spn.has Piece.img at h3 h4
      dsimp only at h3 h4
      omega
    · rintro ⟨s, hs, t, ht, hne⟩
      obtain ⟨p, hp, p1, p2⟩ := (hip s).1 hs
      obtain ⟨q, hq, q1, q2⟩ := (hip t).1 ht
      obtain ⟨i, hi, rfl⟩ := List.getElem_of_mem hp
      obtain ⟨j, hj, rfl⟩ := List.getElem_of_mem hq
      rcases Nat.lt_trichotomy i j with h | h | h
      · exact ⟨j, i, ⟨h, hj⟩, by rw [img_at hj]; exact q1, by rw [img_at hi]; exact p1⟩
      · subst h; omega
      · exact ⟨i, j, ⟨h, hi⟩, by rw [img_at hi]; exact p1, by rw [img_at hj]; exact q1⟩
  · have hn : ∀ p ∈ z.pieces (wideA a) (wideB b), ¬ p.img.has l := fun p hp hy => by
      have := (hip (l - p.off)).2 ⟨p, hp, hy, rfl⟩
      rw [h3] at this
      cases this
    have hs := skip_there hv ha hb hl ⟨h1, h2⟩ hn
    have := hg.2 ((hG.m l).2 ⟨hs, hn⟩)
    rw [h] at this
    cases this
/-- few runs are marked -/
theorem gaps_few {ps : List Piece} {f b : Int} {L : List Skip} {G out : List Spn} {c : Spn} (hS : Skips ps f b L) (hG : GapsOk ps L G) (hU : UnionOk c G out) : out.length ≤ ps.length := by
  have := hU.c.len (S := ps.map fun p => max (p.to + p.off) c.fr) fun r hr => by
    obtain ⟨s, hs, e⟩ := hU.f r hr
    rcases hG.f s hs with ⟨x, hx, h1⟩ | ⟨p, hp, h1⟩
    · obtain ⟨p, hp, h2⟩ := hS.frm x hx
      exact List.mem_map.2 ⟨p, hp, by rw [e, h1, h2]⟩
    · exact List.mem_map.2 ⟨p, hp, by rw [e, h1]⟩
  rwa [List.length_map] at this
theorem folds_few {ps : List Piece} {P : Nat → Nat → Prop} {F out : List Spn} {c : Spn} (hF : FoldsOk ps P F) (hU : UnionOk c F out) : out.length ≤ ps.length := by
  have := hU.c.len (S := ps.map fun p => max (p.fr + p.off) c.fr) fun r hr => by
    obtain ⟨s, hs, e⟩ := hU.f r hr
    obtain ⟨p, hp, h1⟩ := hF.f s hs
    exact List.mem_map.2 ⟨p, hp, by rw [e, h1]⟩
  rwa [List.length_map] at this
end Go.Proofs.YtoonaidpmahgcaaGreat

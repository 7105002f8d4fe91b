/- Joined by merge.py: LocP. -/
import Derived.Test.YtdpkolnfbimheaaGreatGZn
/- The pieces of a time span with one offset, and the instants of a local time. No program in sight. -/
namespace Go.Proofs.YtdpkolnfbimheaaGreat
set_option linter.unusedSimpArgs false
set_option linter.unusedVariables false
open Go.Sort

/-- the type at an instant by a list of transitions, from a type on -/
def typL (o : Typ) : List Trn → Int → Typ
  | [], _ => o
  | x :: xs, t => if x.at_ ≤ t then typL x.ty xs t else typL o xs t
theorem typL_append (o : Typ) (A B : List Trn) (t : Int) : typL o (A ++ B) t = typL (typL o A t) B t := by
  induction A generalizing o with
  | nil => rfl
  | cons x A ih =>
    rw [List.cons_append, typL, typL]
    split <;> exact ih _
theorem typL_late {o : Typ} {B : List Trn} {t : Int} (h : ∀ x ∈ B, t < x.at_) : typL o B t = o := by
  induction B with
  | nil => rfl
  | cons x B ih =>
    rw [typL, if_neg (by have := h x List.mem_cons_self; omega)]
    exact ih fun y hy => h y (List.mem_cons_of_mem _ hy)
theorem typL_early {o : Typ} {A : List Trn} {t u : Int} (h : ∀ x ∈ A, x.at_ ≤ t) (h2 : ∀ x ∈ A, x.at_ ≤ u) : typL o A t = typL o A u := by
  induction A generalizing o with
  | nil => rfl
  | cons x A ih =>
    rw [typL, typL, if_pos (h x List.mem_cons_self), if_pos (h2 x List.mem_cons_self)]
    exact ih (fun y hy => h y (List.mem_cons_of_mem _ hy)) (fun y hy => h2 y (List.mem_cons_of_mem _ hy))
theorem typL_rev (o : Typ) (l : List Trn) (t : Int) : typL o l t = match l.reverse.find? (fun x => decide (x.at_ ≤ t)) with | some x => x.ty | none => o := by
  induction l generalizing o with
  | nil => rfl
  | cons x l ih =>
    rw [typL, List.reverse_cons, List.find?_append]
    by_cases h : x.at_ ≤ t
    · rw [if_pos h, ih]
      cases l.reverse.find? (fun x => decide (x.at_ ≤ t)) with
      | some y => rfl
      | none => simp [h]
    · rw [if_neg h, ih]
      cases l.reverse.find? (fun x => decide (x.at_ ≤ t)) with
      | some y => rfl
      | none => simp [h]
theorem typF_L (z : Zn) (t : Int) : z.typF t = typL z.first z.T t := by
  rw [typL_rev]; rfl
theorem asc_parts {l : List Trn} (h : l.Pairwise (fun x y => x.at_ < y.at_)) {a b : Int} (hab : a ≤ b) : l = l.filter (fun x => decide (x.at_ < a)) ++ (l.filter (fun x => decide (a ≤ x.at_ ∧ x.at_ < b)) ++ l.filter (fun x => decide (b ≤ x.at_))) := by
  induction l with
  | nil => rfl
  | cons x l ih =>
    obtain ⟨h1, h2⟩ := List.pairwise_cons.1 h
    have ih := ih h2
    simp only [List.filter_cons]
    by_cases g1 : x.at_ < a
    · rw [decide_eq_true g1, decide_eq_false (show ¬ (a ≤ x.at_ ∧ x.at_ < b) by omega), decide_eq_false (show ¬ b ≤ x.at_ by omega)]
      simp only [if_true, Bool.false_eq_true, if_false, List.cons_append]
      rw [← ih]
    · have e1 : l.filter (fun x => decide (x.at_ < a)) = [] := List.filter_eq_nil_iff.2 fun y hy => by
        have := h1 y hy
        simp; omega
      rw [e1] at ih ⊢
      by_cases g2 : x.at_ < b
      · rw [decide_eq_false g1, decide_eq_true (show a ≤ x.at_ ∧ x.at_ < b by omega), decide_eq_false (show ¬ b ≤ x.at_ by omega)]
        simp only [if_true, Bool.false_eq_true, if_false, List.cons_append, List.nil_append] at ih ⊢
        rw [← ih]
      · have e2 : l.filter (fun x => decide (a ≤ x.at_ ∧ x.at_ < b)) = [] := List.filter_eq_nil_iff.2 fun y hy => by
          have := h1 y hy
          simp; omega
        rw [e2] at ih ⊢
        rw [decide_eq_false g1, decide_eq_false (show ¬ (a ≤ x.at_ ∧ x.at_ < b) by omega), decide_eq_true (show b ≤ x.at_ by omega)]
        simp only [if_true, Bool.false_eq_true, if_false, List.cons_append, List.nil_append] at ih ⊢
        rw [← ih]
theorem typL_mid {o : Typ} {A B C : List Trn} {a b t : Int} (h1 : a ≤ t) (h2 : t < b) (m1 : ∀ x ∈ A, x.at_ < a) (m2 : ∀ x ∈ B, a ≤ x.at_ ∧ x.at_ < b) (m3 : ∀ x ∈ C, b ≤ x.at_) (hB : B.Pairwise (fun x y => x.at_ < y.at_)) :
    typL o (A ++ (B ++ C)) t = typL (typL o (A ++ (B ++ C)) a) B t := by
  rw [typL_append, typL_append, typL_append, typL_append, typL_late (B := C) (t := t) fun x hx => by have := m3 x hx; omega, typL_late (B := C) (t := a) fun x hx => by have := m3 x hx; omega]
  rw [typL_early (A := A) (t := t) (u := a) (fun x hx => by have := m1 x hx; omega) (fun x hx => by have := m1 x hx; omega)]
  generalize typL o A a = o
  -- a transition at a itself comes first
  cases B with
  | nil => rfl
  | cons x B =>
    obtain ⟨g1, g2⟩ := List.pairwise_cons.1 hB
    have hl : ∀ y ∈ B, a < y.at_ := fun y hy => by have := g1 y hy; have := m2 x List.mem_cons_self; omega
    by_cases hx : x.at_ ≤ a
    · have e1 : typL o (x :: B) a = x.ty := by rw [typL, if_pos hx, typL_late hl]
      have e2 : ∀ o', typL o' (x :: B) t = typL x.ty B t := fun o' => by rw [typL, if_pos (by omega)]
      rw [e1, e2, e2]
    · rw [show typL o (x :: B) a = o from typL_late fun y hy => by
        rcases List.mem_cons.1 hy with rfl | hy
        · omega
        · exact hl y hy]
/-- within a span the type is told by the type at its start and its transitions -/
theorem typF_bet {z : Zn} (hv : z.valid = true) {a b t : Int} (h1 : a ≤ t) (h2 : t < b) : z.typF t = typL (z.typF a) (z.betF a b) t := by
  have hA := T_asc hv
  rw [typF_L, typF_L]
  have hp := asc_parts hA (show a ≤ b by omega)
  have := typL_mid (o := z.first) h1 h2 (fun x hx => by simpa using (List.mem_filter.1 hx).2) (fun x hx => by simpa using (List.mem_filter.1 hx).2) (fun x hx => by simpa using (List.mem_filter.1 hx).2) (hA.filter (fun x => decide (a ≤ x.at_ ∧ x.at_ < b)))
    (A := z.T.filter (fun x => decide (x.at_ < a))) (C := z.T.filter (fun x => decide (b ≤ x.at_)))
  rw [← hp] at this
  exact this

/-! ### the pieces -/
structure Piece where
  fr : Int
  to : Int
  off : Int
instance : Inhabited Piece := ⟨⟨0, 0, 0⟩⟩
def piecesF (b : Int) : Int → Int → List Trn → List Piece
  | f, o, [] => [⟨f, b, o⟩]
  | f, o, x :: xs => if f < x.at_ then ⟨f, x.at_, o⟩ :: piecesF b x.at_ x.ty.off xs else piecesF b f x.ty.off xs
def Zn.offF (z : Zn) (t : Int) : Int := (z.typF t).off
def Zn.pieces (z : Zn) (a b : Int) : List Piece := if a < b then piecesF b a (z.offF a) (z.betF a b) else []
theorem piecesF_in {b : Int} : ∀ {f : Int} {o : Int} {l : List Trn}, f < b → l.Pairwise (fun x y => x.at_ < y.at_) → (∀ x ∈ l, f ≤ x.at_ ∧ x.at_ < b) → (∀ p ∈ piecesF b f o l, f ≤ p.fr ∧ p.fr < p.to ∧ p.to ≤ b) ∧ (piecesF b f o l).Pairwise (fun p q => p.to ≤ q.fr)
  | f, o, [], hf, _, _ => by
    refine ⟨fun p hp => ?_, List.pairwise_singleton _ _⟩
    rw [piecesF, List.mem_singleton] at hp
    subst hp
    exact ⟨Int.le_refl _, hf, Int.le_refl _⟩
  | f, o, x :: xs, hf, hA, hl => by
    obtain ⟨g1, g2⟩ := List.pairwise_cons.1 hA
    have hx := hl x List.mem_cons_self
    rw [piecesF]
    split
    · rename_i hlt
      obtain ⟨h1, h2⟩ := piecesF_in (o := x.ty.off) hx.2 g2 fun y hy => ⟨by have := g1 y hy; omega, (hl y (List.mem_cons_of_mem _ hy)).2⟩
      refine ⟨fun p hp => ?_, List.pairwise_cons.2 ⟨fun q hq => (h1 q hq).1, h2⟩⟩
      rcases List.mem_cons.1 hp with rfl | hp
      · exact ⟨Int.le_refl _, hlt, by dsimp only; omega⟩
      · have := h1 p hp; omega
    · exact piecesF_in hf g2 fun y hy => hl y (List.mem_cons_of_mem _ hy)
theorem piecesF_off {b : Int} : ∀ {f : Int} {ty : Typ} {l : List Trn}, l.Pairwise (fun x y => x.at_ < y.at_) → (∀ x ∈ l, f ≤ x.at_ ∧ x.at_ < b) → ∀ p ∈ piecesF b f ty.off l, ∀ t, p.fr ≤ t → t < p.to → (typL ty l t).off = p.off
  | f, ty, [], _, _ => fun p hp t _ _ => by
    rw [piecesF, List.mem_singleton] at hp
    subst hp; rfl
  | f, ty, x :: xs, hA, hl => fun p hp t h1 h2 => by
    obtain ⟨g1, g2⟩ := List.pairwise_cons.1 hA
    have hx := hl x List.mem_cons_self
    have hl2 : ∀ y ∈ xs, x.at_ ≤ y.at_ ∧ y.at_ < b := fun y hy => ⟨by have := g1 y hy; omega, (hl y (List.mem_cons_of_mem _ hy)).2⟩
    rw [piecesF] at hp
    split at hp
    · rename_i hlt
      rcases List.mem_cons.1 hp with rfl | hp
      · dsimp only at h1 h2
        rw [typL_late fun y hy => by
          rcases List.mem_cons.1 hy with rfl | hy
          · exact h2
          · have := g1 y hy; omega]
      · have := (piecesF_in (o := x.ty.off) hx.2 g2 hl2).1 p hp
        rw [typL, if_pos (by omega)]
        exact piecesF_off g2 hl2 p hp t h1 h2
    · rename_i hlt
      have he : x.at_ = f := by omega
      have := (piecesF_in (b := b) (f := f) (o := x.ty.off) (by omega) g2 fun y hy => by have := hl2 y hy; omega).1 p hp
      rw [typL, if_pos (by omega)]
      exact piecesF_off g2 (fun y hy => by have := hl2 y hy; omega) p hp t h1 h2
theorem piecesF_cov {b : Int} : ∀ {f o : Int} {l : List Trn}, (∀ x ∈ l, f ≤ x.at_ ∧ x.at_ < b) → l.Pairwise (fun x y => x.at_ < y.at_) → ∀ t, f ≤ t → t < b → ∃ p ∈ piecesF b f o l, p.fr ≤ t ∧ t < p.to
  | f, o, [], _, _ => fun t h1 h2 => ⟨_, List.mem_cons_self, h1, h2⟩
  | f, o, x :: xs, hl, hA => fun t h1 h2 => by
    obtain ⟨g1, g2⟩ := List.pairwise_cons.1 hA
    have hx := hl x List.mem_cons_self
    have hl2 : ∀ y ∈ xs, x.at_ ≤ y.at_ ∧ y.at_ < b := fun y hy => ⟨by have := g1 y hy; omega, (hl y (List.mem_cons_of_mem _ hy)).2⟩
    rw [piecesF]
    split
    · by_cases h3 : t < x.at_
      · exact ⟨_, List.mem_cons_self, h1, h3⟩
      · obtain ⟨p, hp, h4⟩ := piecesF_cov (o := x.ty.off) hl2 g2 t (by omega) h2
        exact ⟨p, List.mem_cons_of_mem _ hp, h4⟩
    · exact piecesF_cov (fun y hy => by have := hl2 y hy; omega) g2 t h1 h2
theorem bet_asc {z : Zn} (hv : z.valid = true) (a b : Int) : (z.betF a b).Pairwise (fun x y => x.at_ < y.at_) := (T_asc hv).filter _
theorem bet_mem {z : Zn} {a b : Int} : ∀ x ∈ z.betF a b, a ≤ x.at_ ∧ x.at_ < b := fun x hx => by simpa using (List.mem_filter.1 hx).2
/-- what the pieces of a span are -/
structure PiecesOk (z : Zn) (a b : Int) (l : List Piece) : Prop where
  bd : ∀ p ∈ l, a ≤ p.fr ∧ p.fr < p.to ∧ p.to ≤ b
  asc : l.Pairwise (fun p q => p.to ≤ q.fr)
  off : ∀ p ∈ l, ∀ t, p.fr ≤ t → t < p.to → z.offF t = p.off
  cov : ∀ t, a ≤ t → t < b → ∃ p ∈ l, p.fr ≤ t ∧ t < p.to
theorem pieces_ok {z : Zn} (hv : z.valid = true) (a b : Int) : PiecesOk z a b (z.pieces a b) := by
  unfold Zn.pieces
  split
  · rename_i hab
    have hi := piecesF_in (b := b) (o := z.offF a) hab (bet_asc hv a b) bet_mem
    refine ⟨hi.1, hi.2, fun p hp t h1 h2 => ?_, fun t h1 h2 => piecesF_cov bet_mem (bet_asc hv a b) t h1 h2⟩
    have := hi.1 p hp
    unfold Zn.offF at hp ⊢
    rw [typF_bet hv (a := a) (b := b) (by omega) (by omega)]
    exact piecesF_off (bet_asc hv a b) bet_mem p hp t h1 h2
  · rename_i hab
    exact ⟨fun p hp => (by cases hp), List.Pairwise.nil, fun p hp => (by cases hp), fun t h1 h2 => (by omega)⟩

/-! ### offsets are bounded -/
theorem TT_off {z : Zn} (ok : TailOk z) {x : Int × Trn} (h : x ∈ z.TT) : -93600 < x.2.ty.off ∧ x.2.ty.off < 93600 := by
  have hm := (trans_sub _ _ _).subset h
  obtain ⟨y, hy, _, h1, _⟩ := mem_happ ok ⟨ok.s1, ok.s2⟩ evT_in x hm
  have hr := sv_bd ok (rule_mem (mem_evT.1 hy).2)
  have := ok.o1
  have := ok.o2
  rw [h1]
  show -93600 < z.off + _ ∧ z.off + _ < 93600
  omega
theorem T_ty {z : Zn} (hv : z.valid = true) : ∀ x ∈ z.T, -93600 < x.ty.off ∧ x.ty.off < 93600 := fun x hx => by
  obtain ⟨h1, h2⟩ := valid_parts hv
  unfold Zn.T at hx
  rcases List.mem_append.1 hx with hx | hx
  · exact (typB_sv ((tab_asc (head_tab h1).1).2 x hx).2.2).1
  · split at hx
    · cases hx
    · rename_i hn
      obtain ⟨t, ht, rfl⟩ := List.mem_map.1 hx
      exact TT_off (valid_tail hv hn) ht
theorem first_ty {z : Zn} (hv : z.valid = true) : -93600 < z.first.off ∧ z.first.off < 93600 := by
  have h := (valid_parts hv).1
  unfold Zn.headB at h
  simp only [Bool.and_eq_true, decide_eq_true_eq] at h
  exact (typB_sv h.2.1).1
theorem off_bd {z : Zn} (hv : z.valid = true) (t : Int) : -93600 < z.offF t ∧ z.offF t < 93600 := by
  unfold Zn.offF Zn.typF
  cases h : z.prevF t with
  | none => exact first_ty hv
  | some x => exact T_ty hv x (List.mem_reverse.1 (List.mem_of_find?_eq_some h))

/-! ### the instants of a local time -/
def wideA (a : Int) : Int := max (-62135596800) (a - 93600)
def wideB (b : Int) : Int := min 253402300800 (b + 93600)
def instF (l : Int) (ps : List Piece) : List Int := ps.filterMap fun p => if p.fr ≤ l - p.off ∧ l - p.off < p.to then some (l - p.off) else none
def Zn.insts (z : Zn) (l : Int) : List Int := instF l (z.pieces (wideA l) (wideB (l + 1)))
theorem inst_asc {l : Int} : ∀ {ps : List Piece}, ps.Pairwise (fun p q => p.to ≤ q.fr) → (instF l ps).Pairwise (· < ·) ∧ ∀ t ∈ instF l ps, ∃ p ∈ ps, p.fr ≤ t ∧ t < p.to ∧ t = l - p.off
  | [], _ => ⟨List.Pairwise.nil, fun t ht => by cases ht⟩
  | p :: ps, h => by
    obtain ⟨h1, h2⟩ := List.pairwise_cons.1 h
    obtain ⟨i1, i2⟩ := inst_asc h2 (l := l)
    unfold instF at *
    rw [List.filterMap_cons]
    by_cases hc : p.fr ≤ l - p.off ∧ l - p.off < p.to
    · rw [if_pos hc]
      refine ⟨List.pairwise_cons.2 ⟨fun t ht => ?_, i1⟩, fun t ht => ?_⟩
      · obtain ⟨q, hq, h3, _⟩ := i2 t ht
        have := h1 q hq
        omega
      · rcases List.mem_cons.1 ht with rfl | ht
        · exact ⟨p, List.mem_cons_self, hc.1, hc.2, rfl⟩
        · obtain ⟨q, hq, h3⟩ := i2 t ht
          exact ⟨q, List.mem_cons_of_mem _ hq, h3⟩
    · rw [if_neg hc]
      refine ⟨i1, fun t ht => ?_⟩
      obtain ⟨q, hq, h3⟩ := i2 t ht
      exact ⟨q, List.mem_cons_of_mem _ hq, h3⟩
/-- the instants of a local time are those that have it -/
theorem mem_insts {z : Zn} (hv : z.valid = true) {l t : Int} : t ∈ z.insts l ↔ (-62135596800 ≤ t ∧ t < 253402300800) ∧ t + z.offF t = l := by
  have ok := pieces_ok hv (wideA l) (wideB (l + 1))
  constructor
  · intro ht
    obtain ⟨p, hp, h1, h2, h3⟩ := (inst_asc ok.asc).2 t ht
    have hb := ok.bd p hp
    have ho := ok.off p hp t h1 h2
    unfold wideA wideB at hb
    exact ⟨by omega, by omega⟩
  · rintro ⟨h1, h2⟩
    have hb := off_bd hv t
    obtain ⟨p, hp, h3, h4⟩ := ok.cov t (by unfold wideA; omega) (by unfold wideB; omega)
    have ho := ok.off p hp t h3 h4
    unfold Zn.insts instF
    exact List.mem_filterMap.2 ⟨p, hp, by rw [if_pos (by omega)]; congr 1; omega⟩
theorem insts_asc {z : Zn} (hv : z.valid = true) (l : Int) : (z.insts l).Pairwise (· < ·) := (inst_asc (pieces_ok hv _ _).asc).1

/-! ### the skips, and what a policy makes of them -/
structure Skip where
  at_ : Int
  bef : Int
  aft : Int
instance : Inhabited Skip := ⟨⟨0, 0, 0⟩⟩
def skipsF : Int → Bool → List Piece → List Skip
  | _, _, [] => []
  | b, f, p :: ps => if f = false ∧ b < p.off then ⟨p.fr, b, p.off⟩ :: skipsF p.off false ps else skipsF p.off false ps
def Zn.skips (z : Zn) (a b : Int) : List Skip := skipsF 0 true (z.pieces a b)
def inSkip (l : Int) (x : Skip) : Bool := decide (x.at_ + x.bef ≤ l ∧ l < x.at_ + x.aft)
/-- what the policies make of a skipped local time -/
def gapF (g l : Int) (x : Skip) : Int × Int := if g = 1 then (0, 11) else if g = 2 then (l - x.bef, 0) else if g = 3 then (l - x.aft, 0) else (x.at_, 0)
def inTB (t : Int) : Bool := decide (-62135596800 ≤ t ∧ t < 253402300800)
def Zn.resF (z : Zn) (l g f : Int) : Int × Int :=
  if (z.insts l).length = 1 then ((z.insts l)[0]!, 0)
  else if 1 < (z.insts l).length then (if f = 1 then (0, 12) else if f = 2 then ((z.insts l)[0]!, 0) else ((z.insts l)[(z.insts l).length - 1]!, 0))
  else match (z.skips (wideA l) (wideB (l + 1))).reverse.find? (inSkip l) with
    | none => (0, 2)
    | some x => if (gapF g l x).2 ≠ 0 then (0, (gapF g l x).2) else if inTB (gapF g l x).1 = true then ((gapF g l x).1, 0) else (0, 2)
def polB (g f : Int) : Bool := decide (1 ≤ g ∧ g ≤ 4 ∧ 1 ≤ f ∧ f ≤ 3)
/-- what Resolve returns -/
def Zn.resV (z : Zn) (l g f : Int) : Int × Int := if z.valid = false ∨ polB g f = false then (0, 1) else if inTB l = false then (0, 2) else z.resF l g f

end Go.Proofs.YtdpkolnfbimheaaGreat

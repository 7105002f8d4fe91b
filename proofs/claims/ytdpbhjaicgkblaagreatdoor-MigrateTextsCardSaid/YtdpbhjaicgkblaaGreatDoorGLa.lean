/- Joined by merge.py: LocP, LocW1, LocW2, RfT, LocW3, LocW4, MildP, SpnP, GapsP, LocW5. -/
import Derived.Test.YtdpbhjaicgkblaaGreatDoorGZn
import Derived.Test.YtdpbhjaicgkblaaGreatDoorGZh
import Derived.Test.YtdpbhjaicgkblaaGreatDoorGZk
import Derived.Laws.AppendOwnNone
import Derived.Test.YtdpbhjaicgkblaaGreatDoorGBase
import Derived.RangeFuncNested
import Derived.RangeFuncBound
import Derived.RangeFuncCalls
import Derived.RangeFuncLeaves
import Derived.RangeFuncBox
import Derived.Shelf.Abstract
import Derived.Shelf.RegionOpen
import Derived.WalkKit
import Derived.OwnWalkIn
import Derived.TacticsInMore
import Derived.LoopNIn
import Derived.LoopIn
import Derived.Outline
import Derived.Handy
import Derived.Deep.RegionHeld3
/- The pieces of a time span with one offset, and the instants of a local time. No program in sight. -/
namespace Go.Proofs.YtdpbhjaicgkblaaGreatDoor
set_option linter.unusedSimpArgs false
set_option linter.unusedVariables false
open Go.Sort
def typL (o : Typ) : List Trn → Int → Typ
 | [], _ => o
 | x :: xs, t => if x.at_ ≤ t then typL x.ty xs t else typL o xs t
theorem typL_append (o : Typ) (A B : List Trn) (t : Int) : typL o (A ++ B) t = typL (typL o A t) B t := by
 induction A generalizing o with
 | nil => rfl
 | cons x A ih =>
  rw [List.cons_append, typL, typL]
  split <;> exact ih _
theorem typL_late {o : Typ} {B : List Trn} {t : Int} (h : ∀ x ∈ B, t < x.at_) : typL o B t = o := by
 induction B with
 | nil => rfl
 | cons x B ih =>
  rw [typL, if_neg (by have := h x List.mem_cons_self; omega)]
  exact ih fun y hy => h y (List.mem_cons_of_mem _ hy)
theorem typL_early {o : Typ} {A : List Trn} {t u : Int} (h : ∀ x ∈ A, x.at_ ≤ t) (h2 : ∀ x ∈ A, x.at_ ≤ u) : typL o A t = typL o A u := by
 induction A generalizing o with
 | nil => rfl
 | cons x A ih =>
  rw [typL, typL, if_pos (h x List.mem_cons_self), if_pos (h2 x List.mem_cons_self)]
  exact ih (fun y hy => h y (List.mem_cons_of_mem _ hy)) (fun y hy => h2 y (List.mem_cons_of_mem _ hy))
theorem typL_rev (o : Typ) (l : List Trn) (t : Int) : typL o l t = match l.reverse.find? (fun x => decide (x.at_ ≤ t)) with | some x => x.ty | none => o := by
 induction l generalizing o with
 | nil => rfl
 | cons x l ih =>
  rw [typL, List.reverse_cons, List.find?_append]
  by_cases h : x.at_ ≤ t
  ·rw [if_pos h, ih]
   cases l.reverse.find? (fun x => decide (x.at_ ≤ t)) with
   | some y => rfl
   | none => simp [h]
  ·rw [if_neg h, ih]
   cases l.reverse.find? (fun x => decide (x.at_ ≤ t)) with
   | some y => rfl
   | none => simp [h]
theorem typF_L (z : Zn) (t : Int) : z.typF t = typL z.first z.T t := by
 rw [typL_rev]; rfl
theorem asc_parts {l : List Trn} (h : l.Pairwise (fun x y => x.at_ < y.at_)) {a b : Int} (hab : a ≤ b) : l = l.filter (fun x => decide (x.at_ < a)) ++ (l.filter (fun x => decide (a ≤ x.at_ ∧ x.at_ < b)) ++ l.filter (fun x => decide (b ≤ x.at_))) := by
 induction l with
 | nil => rfl
 | cons x l ih =>
  obtain ⟨h1, h2⟩ := List.pairwise_cons.1 h
  have ih := ih h2
  simp only [List.filter_cons]
  by_cases g1 : x.at_ < a
  ·rw [decide_eq_true g1, decide_eq_false (show ¬ (a ≤ x.at_ ∧ x.at_ < b) by omega), decide_eq_false (show ¬ b ≤ x.at_ by omega)]
   simp only [if_true, Bool.false_eq_true, if_false, List.cons_append]
   rw [← ih]
  ·have e1 : l.filter (fun x => decide (x.at_ < a)) = [] := List.filter_eq_nil_iff.2 fun y hy => by
    have := h1 y hy
    simp; omega
   rw [e1] at ih ⊢
   by_cases g2 : x.at_ < b
   ·rw [decide_eq_false g1, decide_eq_true (show a ≤ x.at_ ∧ x.at_ < b by omega), decide_eq_false (show ¬ b ≤ x.at_ by omega)]
    simp only [if_true, Bool.false_eq_true, if_false, List.cons_append, List.nil_append] at ih ⊢
    rw [← ih]
   ·have e2 : l.filter (fun x => decide (a ≤ x.at_ ∧ x.at_ < b)) = [] := List.filter_eq_nil_iff.2 fun y hy => by
     have := h1 y hy
     simp; omega
    rw [e2] at ih ⊢
    rw [decide_eq_false g1, decide_eq_false (show ¬ (a ≤ x.at_ ∧ x.at_ < b) by omega), decide_eq_true (show b ≤ x.at_ by omega)]
    simp only [if_true, Bool.false_eq_true, if_false, List.cons_append, List.nil_append] at ih ⊢
    rw [← ih]
theorem typL_mid {o : Typ} {A B C : List Trn} {a b t : Int} (h1 : a ≤ t) (h2 : t < b) (m1 : ∀ x ∈ A, x.at_ < a) (m2 : ∀ x ∈ B, a ≤ x.at_ ∧ x.at_ < b) (m3 : ∀ x ∈ C, b ≤ x.at_) (hB : B.Pairwise (fun x y => x.at_ < y.at_)) :
  typL o (A ++ (B ++ C)) t = typL (typL o (A ++ (B ++ C)) a) B t := by
 rw [typL_append, typL_append, typL_append, typL_append, typL_late (B := C) (t := t) fun x hx => by have := m3 x hx; omega, typL_late (B := C) (t := a) fun x hx => by have := m3 x hx; omega]
 rw [typL_early (A := A) (t := t) (u := a) (fun x hx => by have := m1 x hx; omega) (fun x hx => by have := m1 x hx; omega)]
 generalize typL o A a = o
 -- a transition at a itself comes first
 cases B with
 | nil => rfl
 | cons x B =>
  obtain ⟨g1, g2⟩ := List.pairwise_cons.1 hB
  have hl : ∀ y ∈ B, a < y.at_ := fun y hy => by have := g1 y hy; have := m2 x List.mem_cons_self; omega
  by_cases hx : x.at_ ≤ a
  ·have e1 : typL o (x :: B) a = x.ty := by rw [typL, if_pos hx, typL_late hl]
   have e2 : ∀ o', typL o' (x :: B) t = typL x.ty B t := fun o' => by rw [typL, if_pos (by omega)]
   rw [e1, e2, e2]
  ·rw [show typL o (x :: B) a = o from typL_late fun y hy => by
    rcases List.mem_cons.1 hy with rfl | hy
    ·omega
    ·exact hl y hy]
theorem typF_bet {z : Zn} (hv : z.valid = true) {a b t : Int} (h1 : a ≤ t) (h2 : t < b) : z.typF t = typL (z.typF a) (z.betF a b) t := by
 have hA := T_asc hv
 rw [typF_L, typF_L]
 have hp := asc_parts hA (show a ≤ b by omega)
 have := typL_mid (o := z.first) h1 h2 (fun x hx => by simpa using (List.mem_filter.1 hx).2) (fun x hx => by simpa using (List.mem_filter.1 hx).2) (fun x hx => by simpa using (List.mem_filter.1 hx).2) (hA.filter (fun x => decide (a ≤ x.at_ ∧ x.at_ < b)))
  (A := z.T.filter (fun x => decide (x.at_ < a))) (C := z.T.filter (fun x => decide (b ≤ x.at_)))
 rw [← hp] at this
 exact this
/-! ### the pieces -/
structure Piece where
 fr : Int
 to : Int
 off : Int
instance : Inhabited Piece := ⟨⟨0, 0, 0⟩⟩
def piecesF (b : Int) : Int → Int → List Trn → List Piece
 | f, o, [] => [⟨f, b, o⟩]
 | f, o, x :: xs => if f < x.at_ then ⟨f, x.at_, o⟩ :: piecesF b x.at_ x.ty.off xs else piecesF b f x.ty.off xs
def Zn.offF (z : Zn) (t : Int) : Int := (z.typF t).off
def Zn.pieces (z : Zn) (a b : Int) : List Piece := if a < b then piecesF b a (z.offF a) (z.betF a b) else []
theorem piecesF_in {b : Int} : ∀ {f : Int} {o : Int} {l : List Trn}, f < b → l.Pairwise (fun x y => x.at_ < y.at_) → (∀ x ∈ l, f ≤ x.at_ ∧ x.at_ < b) → (∀ p ∈ piecesF b f o l, f ≤ p.fr ∧ p.fr < p.to ∧ p.to ≤ b) ∧ (piecesF b f o l).Pairwise (fun p q => p.to ≤ q.fr)
 | f, o, [], hf, _, _ => by
  refine ⟨fun p hp => ?_, List.pairwise_singleton _ _⟩
  rw [piecesF, List.mem_singleton] at hp
  subst hp
  exact ⟨Int.le_refl _, hf, Int.le_refl _⟩
 | f, o, x :: xs, hf, hA, hl => by
  obtain ⟨g1, g2⟩ := List.pairwise_cons.1 hA
  have hx := hl x List.mem_cons_self
  rw [piecesF]
  split
  ·rename_i hlt
   obtain ⟨h1, h2⟩ := piecesF_in (o := x.ty.off) hx.2 g2 fun y hy => ⟨by have := g1 y hy; omega, (hl y (List.mem_cons_of_mem _ hy)).2⟩
   refine ⟨fun p hp => ?_, List.pairwise_cons.2 ⟨fun q hq => (h1 q hq).1, h2⟩⟩
   rcases List.mem_cons.1 hp with rfl | hp
   ·exact ⟨Int.le_refl _, hlt, by dsimp only; omega⟩
   ·have := h1 p hp; omega
  ·exact piecesF_in hf g2 fun y hy => hl y (List.mem_cons_of_mem _ hy)
theorem piecesF_off {b : Int} : ∀ {f : Int} {ty : Typ} {l : List Trn}, l.Pairwise (fun x y => x.at_ < y.at_) → (∀ x ∈ l, f ≤ x.at_ ∧ x.at_ < b) → ∀ p ∈ piecesF b f ty.off l, ∀ t, p.fr ≤ t → t < p.to → (typL ty l t).off = p.off
 | f, ty, [], _, _ => fun p hp t _ _ => by
  rw [piecesF, List.mem_singleton] at hp
  subst hp; rfl
 | f, ty, x :: xs, hA, hl => fun p hp t h1 h2 => by
  obtain ⟨g1, g2⟩ := List.pairwise_cons.1 hA
  have hx := hl x List.mem_cons_self
  have hl2 : ∀ y ∈ xs, x.at_ ≤ y.at_ ∧ y.at_ < b := fun y hy => ⟨by have := g1 y hy; omega, (hl y (List.mem_cons_of_mem _ hy)).2⟩
  rw [piecesF] at hp
  split at hp
  ·rename_i hlt
   rcases List.mem_cons.1 hp with rfl | hp
   ·dsimp only at h1 h2
    rw [typL_late fun y hy => by
     rcases List.mem_cons.1 hy with rfl | hy
     ·exact h2
     ·have := g1 y hy; omega]
   ·have := (piecesF_in (o := x.ty.off) hx.2 g2 hl2).1 p hp
    rw [typL, if_pos (by omega)]
    exact piecesF_off g2 hl2 p hp t h1 h2
  ·rename_i hlt
   have he : x.at_ = f := by omega
   have := (piecesF_in (b := b) (f := f) (o := x.ty.off) (by omega) g2 fun y hy => by have := hl2 y hy; omega).1 p hp
   rw [typL, if_pos (by omega)]
   exact piecesF_off g2 (fun y hy => by have := hl2 y hy; omega) p hp t h1 h2
theorem piecesF_cov {b : Int} : ∀ {f o : Int} {l : List Trn}, (∀ x ∈ l, f ≤ x.at_ ∧ x.at_ < b) → l.Pairwise (fun x y => x.at_ < y.at_) → ∀ t, f ≤ t → t < b → ∃ p ∈ piecesF b f o l, p.fr ≤ t ∧ t < p.to
 | f, o, [], _, _ => fun t h1 h2 => ⟨_, List.mem_cons_self, h1, h2⟩
 | f, o, x :: xs, hl, hA => fun t h1 h2 => by
  obtain ⟨g1, g2⟩ := List.pairwise_cons.1 hA
  have hx := hl x List.mem_cons_self
  have hl2 : ∀ y ∈ xs, x.at_ ≤ y.at_ ∧ y.at_ < b := fun y hy => ⟨by have := g1 y hy; omega, (hl y (List.mem_cons_of_mem _ hy)).2⟩
  rw [piecesF]
  split
  ·by_cases h3 : t < x.at_
   ·exact ⟨_, List.mem_cons_self, h1, h3⟩
   ·obtain ⟨p, hp, h4⟩ := piecesF_cov (o := x.ty.off) hl2 g2 t (by omega) h2
    exact ⟨p, List.mem_cons_of_mem _ hp, h4⟩
  ·exact piecesF_cov (fun y hy => by have := hl2 y hy; omega) g2 t h1 h2
theorem bet_asc {z : Zn} (hv : z.valid = true) (a b : Int) : (z.betF a b).Pairwise (fun x y => x.at_ < y.at_) := (T_asc hv).filter _
theorem bet_mem {z : Zn} {a b : Int} : ∀ x ∈ z.betF a b, a ≤ x.at_ ∧ x.at_ < b := fun x hx => by simpa using (List.mem_filter.1 hx).2
structure PiecesOk (z : Zn) (a b : Int) (l : List Piece) : Prop where
 bd : ∀ p ∈ l, a ≤ p.fr ∧ p.fr < p.to ∧ p.to ≤ b
 asc : l.Pairwise (fun p q => p.to ≤ q.fr)
 off : ∀ p ∈ l, ∀ t, p.fr ≤ t → t < p.to → z.offF t = p.off
 cov : ∀ t, a ≤ t → t < b → ∃ p ∈ l, p.fr ≤ t ∧ t < p.to
theorem pieces_ok {z : Zn} (hv : z.valid = true) (a b : Int) : PiecesOk z a b (z.pieces a b) := by
 unfold Zn.pieces
 split
 ·rename_i hab
  have hi := piecesF_in (b := b) (o := z.offF a) hab (bet_asc hv a b) bet_mem
  refine ⟨hi.1, hi.2, fun p hp t h1 h2 => ?_, fun t h1 h2 => piecesF_cov bet_mem (bet_asc hv a b) t h1 h2⟩
  have := hi.1 p hp
  unfold Zn.offF at hp ⊢
  rw [typF_bet hv (a := a) (b := b) (by omega) (by omega)]
  exact piecesF_off (bet_asc hv a b) bet_mem p hp t h1 h2
 ·rename_i hab
  exact ⟨fun p hp => (by cases hp), List.Pairwise.nil, fun p hp => (by cases hp), fun t h1 h2 => (by omega)⟩
/-! ### offsets are bounded -/
theorem TT_off {z : Zn} (ok : TailOk z) {x : Int × Trn} (h : x ∈ z.TT) : -93600 < x.2.ty.off ∧ x.2.ty.off < 93600 := by
 have hm := (trans_sub _ _ _).subset h
 obtain ⟨y, hy, _, h1, _⟩ := mem_happ ok ⟨ok.s1, ok.s2⟩ evT_in x hm
 have hr := sv_bd ok (rule_mem (mem_evT.1 hy).2)
 have := ok.o1
 have := ok.o2
 rw [h1]
 show -93600 < z.off + _ ∧ z.off + _ < 93600
 omega
theorem T_ty {z : Zn} (hv : z.valid = true) : ∀ x ∈ z.T, -93600 < x.ty.off ∧ x.ty.off < 93600 := fun x hx => by
 obtain ⟨h1, h2⟩ := valid_parts hv
 unfold Zn.T at hx
 rcases List.mem_append.1 hx with hx | hx
 ·exact (typB_sv ((tab_asc (head_tab h1).1).2 x hx).2.2).1
 ·split at hx
  ·cases hx
  ·rename_i hn
   obtain ⟨t, ht, rfl⟩ := List.mem_map.1 hx
   exact TT_off (valid_tail hv hn) ht
theorem first_ty {z : Zn} (hv : z.valid = true) : -93600 < z.first.off ∧ z.first.off < 93600 := by
 have h := (valid_parts hv).1
 unfold Zn.headB at h
 simp only [Bool.and_eq_true, decide_eq_true_eq] at h
 exact (typB_sv h.2.1).1
theorem off_bd {z : Zn} (hv : z.valid = true) (t : Int) : -93600 < z.offF t ∧ z.offF t < 93600 := by
 unfold Zn.offF Zn.typF
 cases h : z.prevF t with
 | none => exact first_ty hv
 | some x => exact T_ty hv x (List.mem_reverse.1 (List.mem_of_find?_eq_some h))
/-! ### the instants of a local time -/
def wideA (a : Int) : Int := max (-62135596800) (a - 93600)
def wideB (b : Int) : Int := min 253402300800 (b + 93600)
def instF (l : Int) (ps : List Piece) : List Int := ps.filterMap fun p => if p.fr ≤ l - p.off ∧ l - p.off < p.to then some (l - p.off) else none
def Zn.insts (z : Zn) (l : Int) : List Int := instF l (z.pieces (wideA l) (wideB (l + 1)))
/-! ### the skips, and what a policy makes of them -/
structure Skip where
 at_ : Int
 bef : Int
 aft : Int
instance : Inhabited Skip := ⟨⟨0, 0, 0⟩⟩
def skipsF : Int → Bool → List Piece → List Skip
 | _, _, [] => []
 | b, f, p :: ps => if f = false ∧ b < p.off then ⟨p.fr, b, p.off⟩ :: skipsF p.off false ps else skipsF p.off false ps
def Zn.skips (z : Zn) (a b : Int) : List Skip := skipsF 0 true (z.pieces a b)
def inSkip (l : Int) (x : Skip) : Bool := decide (x.at_ + x.bef ≤ l ∧ l < x.at_ + x.aft)
def gapF (g l : Int) (x : Skip) : Int × Int := if g = 1 then (0, 11) else if g = 2 then (l - x.bef, 0) else if g = 3 then (l - x.aft, 0) else (x.at_, 0)
def inTB (t : Int) : Bool := decide (-62135596800 ≤ t ∧ t < 253402300800)
def Zn.resF (z : Zn) (l g f : Int) : Int × Int :=
 if (z.insts l).length = 1 then ((z.insts l)[0]!, 0)
 else if 1 < (z.insts l).length then (if f = 1 then (0, 12) else if f = 2 then ((z.insts l)[0]!, 0) else ((z.insts l)[(z.insts l).length - 1]!, 0))
 else match (z.skips (wideA l) (wideB (l + 1))).reverse.find? (inSkip l) with
  | none => (0, 2)
  | some x => if (gapF g l x).2 ≠ 0 then (0, (gapF g l x).2) else if inTB (gapF g l x).1 = true then ((gapF g l x).1, 0) else (0, 2)
def polB (g f : Int) : Bool := decide (1 ≤ g ∧ g ≤ 4 ∧ 1 ≤ f ∧ f ≤ 3)
def Zn.resV (z : Zn) (l g f : Int) : Int × Int := if z.valid = false ∨ polB g f = false then (0, 1) else if inTB l = false then (0, 2) else z.resF l g f
end Go.Proofs.YtdpbhjaicgkblaaGreatDoor
/- local.isTime, isSpan, wide. -/
namespace Go.Proofs.YtdpbhjaicgkblaaGreatDoor
set_option linter.unusedSimpArgs false
set_option linter.unusedVariables false
open Go.ChangeShapes Go.WideShapes Go.ChangeAt Go.RowKit
theorem inTB_T (t : Int) : inTB t = inT t := by
 unfold inTB inT
 rw [← Bool.decide_and]
theorem isTime_any (t : Int) (w : World) : Calls Tryz.prog 120 #[.int .i64 t] w fun e w' => e = .returned (.bool (inT t)) ∧ w = w' := by
 unfold inT
 by_cases h1 : -62135596800 ≤ t
 ·rw [decide_eq_true h1]
  go_enter Tryz.func120, Tryz.ntmps120
  go_wp2
  go_ret
  exact ⟨ret1 (vbool (by simp)), rfl⟩
 ·rw [decide_eq_false h1]
  go_enter Tryz.func120, Tryz.ntmps120
  go_wp2
  go_ret
  exact ⟨rfl, rfl⟩
theorem wide_any (a b : Int) (w : World) (ha : -9000000000000000000 ≤ a ∧ a ≤ 9000000000000000000) (hb : -9000000000000000000 ≤ b ∧ b ≤ 9000000000000000000) :
  Calls Tryz.prog 124 #[.agg #[.int .i64 a, .int .i64 b]] w fun e w' => e = .returned (.agg #[.int .i64 (wideA a), .int .i64 (wideB b)]) ∧ Below w.heap.size w w' := by
 obtain ⟨a1, a2⟩ := ha
 obtain ⟨b1, b2⟩ := hb
 unfold wideA wideB
 go_enter Tryz.func124, Tryz.ntmps124
 go_wp2
 exact bodyPost_ret (v := .agg #[.int .i64 (max (-62135596800) (a - 93600)), .int .i64 (min 253402300800 (b + 93600))]) (by simp [results, Tryz.results124, go_sem]) rfl ⟨rfl, by first | exact (((Below.refl _ _).alloc (Nat.le_refl _) _).alloc (by simp) _) | exact ((((Below.refl _ _).alloc (Nat.le_refl _) _).alloc (by simp) _).setCell (by simp) _).setCell (by simp) _⟩
end Go.Proofs.YtdpbhjaicgkblaaGreatDoor
/- local.transitions, in a span that is not too long and not too full. -/
namespace Go.Proofs.YtdpbhjaicgkblaaGreatDoor
set_option linter.unusedSimpArgs false
set_option linter.unusedVariables false
open Go.ChangeShapes Go.WideShapes Go.ChangeAt Go.RowKit
structure Mild (z : Zn) (a b : Int) : Prop where
 v : z.valid = true
 a1 : -62135596800 ≤ a
 b1 : b ≤ 253402300800
 c : b - a ≤ 3155760000
 l : (z.betF a b).length ≤ 1000
theorem spanB_of {a b : Int} (h1 : -62135596800 ≤ a) (h2 : a < b) (h3 : b ≤ 253402300800) : spanB a b = true := by
 unfold spanB ivB lineB
 simp
 omega
theorem mild_bet {z : Zn} {a b : Int} (h : Mild z a b) (hab : a < b) : z.betV a b = (z.betF a b, 0) := by
 unfold Zn.betV
 rw [if_pos ⟨spanB_of h.a1 hab h.b1, h.v⟩, if_pos h.l]
theorem betF_none' {z : Zn} {a b : Int} (hab : ¬ a < b) : z.betF a b = [] := by
 unfold Zn.betF
 exact List.filter_eq_nil_iff.2 fun x _ => by simp; omega
def TrsEnd (z : Zn) (a b : Int) (w : World) (e : Ending) (w' : World) : Prop := ∃ v, e = .returned v ∧ w'.ownsRow w.heap.size 68 4 v (z.betF a b).length ((z.betF a b).flatMap Trn.cells) ∧ Below w.heap.size w w'
def TrRel (l : List Trn) (a b : Int) (W0 : World) (T : TypeId) (v5 v6 : Value) (wr : World) : Prop :=
 Below W0.heap.size W0 wr ∧ ((v6 = .int .i64 a ∧ v5 = .slice none 0 0) ∨ (v6 = .int .i64 b ∧ a < b ∧ wr.ownsRow W0.heap.size T 4 v5 l.length (l.flatMap Trn.cells)))
theorem flat_oneT' (l : List Trn) : ∀ u ∈ l.flatMap Trn.cells, u.oneCell' = true := fun u hu => by
 obtain ⟨x, _, hx⟩ := List.mem_flatMap.1 hu
 exact trn_one x u hx
theorem rd_cells' {l : List Trn} {w : World} {b off c : Nat} (h : Rd Trn.cells 4 w (.slice (some ⟨b, off, none⟩) l.length c) l) : ∀ j u, (l.flatMap Trn.cells)[j]? = some u → w.cell? ⟨b, off + j, none⟩ = some u := by
 rcases h with ⟨rfl, _⟩ | ⟨b', off', c', hv, _, hc⟩
 ·intro j u hu; simp at hu
 ·injection hv with h1 _ _
  injection h1 with h1
  injection h1 with h1 h2 _
  subst h1 h2
  intro j u hu
  have hj : j < l.length * 4 := by rw [← flat_len trn_len l]; exact (List.getElem?_eq_some_iff.1 hu).1
  have := flat_get trn_len l (j / 4) (j % 4) (by omega) (by omega)
  rw [show j / 4 * 4 + j % 4 = j by omega, hu] at this
  have e := hc (j / 4) (by omega) (j % 4) u (by rw [List.getElem?_eq_getElem (by rw [trn_len]; omega)]; rw [getElem!_pos _ (j % 4) (by rw [trn_len]; omega)] at this; exact this.symm)
  rwa [show off + j / 4 * 4 + j % 4 = off + j by omega] at e
theorem own_base {w : World} {base base' : Nat} {e : TypeId} {size : Nat} {v : Value} {n : Nat} {xs : List Value} (h : w.ownsRow base e size v n xs) (hb : base' ≤ base) : w.ownsRow base' e size v n xs :=
 ⟨h.1, h.2.imp id fun ⟨g, cap, cur, e0, e1, r⟩ => ⟨g, cap, cur, e0, Nat.le_trans hb e1, r⟩⟩
theorem below_of_none {a w : World} (h : a.grownBy w none) : Below a.heap.size a w := ⟨h.os, h.tape, h.output, h.size, fun i hi => h.block i hi (by simp)⟩
theorem carry {a w : World} {p : Addr} {v : Value} (h : a.grownBy w none) (hp : a.cell? p = some v) (hlt : p.block < a.heap.size) : w.cell? p = some v := ((below_of_none h).cell hlt).trans hp
theorem own_nil' {w : World} {base : Nat} {e : TypeId} {size : Nat} {l : List Trn} (h : l = []) : w.ownsRow base e size (.slice none 0 0) l.length (l.flatMap Trn.cells) := by
 subst h
 exact World.ownsRow_nil _ _ _ _
theorem add_plain' (b off j : Nat) : (⟨b, off, none⟩ : Addr).add j = ⟨b, off + j, none⟩ := by
 unfold Addr.add
 by_cases h : j = 0 <;> simp [h]
set_option maxRecDepth 100000 in
set_option maxHeartbeats 4000000 in
theorem transitions_any (z : Zn) (vT vR : Value) (a b : Int) (w : World) (hm : HasMax w) (hT : Rd Trn.cells 4 w vT z.table) (hR : Rd Rule.cells 11 w vR z.tail) (hfs : z.form.size < 4294967281) (hll : z.tail.length ≤ 12) (hM : Mild z a b) :
  Calls Tryz.prog 156 #[z.v vT vR, .agg #[.int .i64 a, .int .i64 b]] w (TrsEnd z a b w) := by
 have ha1 := hM.a1
 have hb1 := hM.b1
 have hc := hM.c
 have hl := hM.l
 have HBT := Lib.hid (fun W (hb : Below w.heap.size w W) => Between_any z vT vR a b W (hm.on hb) (hT.on hb) (hR.on hb) hfs (.inl hll))
 obtain ⟨AT, cT, rfl⟩ := rd_vf hT
 obtain ⟨AR, cR, rfl⟩ := rd_vf hR
 have hzc := alloc_cells w [.string z.nm, .int .i64 z.first.off, .int .i64 z.first.sv, .string z.first.nm, .slice AT z.table.length cT, .slice AR z.tail.length cR, .int .i64 z.off, .string z.form, .int .i64 z.year] 65
 have hbz : Below w.heap.size w (w.alloc (.cells #[.string z.nm, .int .i64 z.first.off, .int .i64 z.first.sv, .string z.first.nm, .slice AT z.table.length cT, .slice AR z.tail.length cR, .int .i64 z.off, .string z.form, .int .i64 z.year] 65)) := (Below.refl _ _).alloc (Nat.le_refl _) _
 have hbW : Below w.heap.size w ((w.alloc (.cells #[.string z.nm, .int .i64 z.first.off, .int .i64 z.first.sv, .string z.first.nm, .slice AT z.table.length cT, .slice AR z.tail.length cR, .int .i64 z.off, .string z.form, .int .i64 z.year] 65)).alloc (.cells #[.int .i64 a, .int .i64 b] 189)) := hbz.alloc hbz.size _
 have hszW : w.heap.size + 1 < ((w.alloc (.cells #[.string z.nm, .int .i64 z.first.off, .int .i64 z.first.sv, .string z.first.nm, .slice AT z.table.length cT, .slice AR z.tail.length cR, .int .i64 z.off, .string z.form, .int .i64 z.year] 65)).alloc (.cells #[.int .i64 a, .int .i64 b] 189)).heap.size := by simp
 have hzW : ∀ i u, [Value.string z.nm, .int .i64 z.first.off, .int .i64 z.first.sv, .string z.first.nm, .slice AT z.table.length cT, .slice AR z.tail.length cR, .int .i64 z.off, .string z.form, .int .i64 z.year][i]? = some u → ((w.alloc (.cells #[.string z.nm, .int .i64 z.first.off, .int .i64 z.first.sv, .string z.first.nm, .slice AT z.table.length cT, .slice AR z.tail.length cR, .int .i64 z.off, .string z.form, .int .i64 z.year] 65)).alloc (.cells #[.int .i64 a, .int .i64 b] 189)).cell? ⟨w.heap.size, i, none⟩ = some u := fun i u h => Lib.cell?_alloc_some _ (hzc i u h)
 have hsW := alloc_cells (w.alloc (.cells #[.string z.nm, .int .i64 z.first.off, .int .i64 z.first.sv, .string z.first.nm, .slice AT z.table.length cT, .slice AR z.tail.length cR, .int .i64 z.off, .string z.form, .int .i64 z.year] 65)) [.int .i64 a, .int .i64 b] 189
 rw [World.size_alloc] at hsW
 have HSW := Lib.hid hsW
 have HZW := Lib.hid hzW
 have HBW := Lib.hid hbW
 have HM := Lib.hid hM
 clear hT hR hm hzc hbz hbW hzW hsW hM
 unfold Zn.v at HBT ⊢
 unfold TrsEnd
 obtain ⟨i0, hi0, hz0, hz1, hz2⟩ := info_parts infoT
 go_enter Tryz.func156, Tryz.ntmps156
 go_wp2
 have hszZ : w.heap.size < ((w.alloc (.cells #[.string z.nm, .int .i64 z.first.off, .int .i64 z.first.sv, .string z.first.nm, .slice AT z.table.length cT, .slice AR z.tail.length cR, .int .i64 z.off, .string z.form, .int .i64 z.year] 65)).alloc (.cells #[.int .i64 a, .int .i64 b] 189)).heap.size := by simp; omega
 have hw0 : w.heap.size ≤ ((w.alloc (.cells #[.string z.nm, .int .i64 z.first.off, .int .i64 z.first.sv, .string z.first.nm, .slice AT z.table.length cT, .slice AR z.tail.length cR, .int .i64 z.off, .string z.form, .int .i64 z.year] 65)).alloc (.cells #[.int .i64 a, .int .i64 b] 189)).heap.size := by simp; omega
 generalize ((w.alloc (.cells #[.string z.nm, .int .i64 z.first.off, .int .i64 z.first.sv, .string z.first.nm, .slice AT z.table.length cT, .slice AR z.tail.length cR, .int .i64 z.off, .string z.form, .int .i64 z.year] 65)).alloc (.cells #[.int .i64 a, .int .i64 b] 189)) = W0 at *
 go_loopw [5, 6] (fun v5 v6 wr => TrRel (z.betF a b) a b W0 68 v5 v6 wr) (fun _ v _ => (b - intOf v).toNat)
 case atStart => exact ⟨Below.refl _ _, .inl ⟨rfl, rfl⟩⟩
 case round =>
  obtain ⟨hbr, hcase⟩ := hrel
  have hbr0 : Below w.heap.size w wr := HBW.out.trans (hbr.mono hw0)
  have s0 := (hbr.cell (p := ⟨w.heap.size + 1, 0, none⟩) hszW).trans (HSW.out 0 _ rfl)
  have s1 := (hbr.cell (p := ⟨w.heap.size + 1, 1, none⟩) hszW).trans (HSW.out 1 _ rfl)
  have hszr : w.heap.size + 1 < wr.heap.size := Nat.lt_of_lt_of_le hszW hbr.size
  have hszr' : w.heap.size < wr.heap.size := Nat.lt_of_succ_lt hszr
  rcases hcase with ⟨rfl, rfl⟩ | ⟨rfl, hab, hown⟩
  ·by_cases hab : a < b
   ·have dab : decide (a < b) = true := decide_eq_true hab
    have HMIN := Lib.hid (show min b (a + 3155760000) = b by omega)
    have HV := Lib.hid (mild_bet HM.out hab)
    have z0 := (hbr.cell (p := ⟨w.heap.size, 0, none⟩) hszZ).trans (HZW.out 0 _ rfl)
    have z1 := (hbr.cell (p := ⟨w.heap.size, 1, none⟩) hszZ).trans (HZW.out 1 _ rfl)
    have z2 := (hbr.cell (p := ⟨w.heap.size, 2, none⟩) hszZ).trans (HZW.out 2 _ rfl)
    have z3 := (hbr.cell (p := ⟨w.heap.size, 3, none⟩) hszZ).trans (HZW.out 3 _ rfl)
    have z4 := (hbr.cell (p := ⟨w.heap.size, 4, none⟩) hszZ).trans (HZW.out 4 _ rfl)
    have z5 := (hbr.cell (p := ⟨w.heap.size, 5, none⟩) hszZ).trans (HZW.out 5 _ rfl)
    have z6 := (hbr.cell (p := ⟨w.heap.size, 6, none⟩) hszZ).trans (HZW.out 6 _ rfl)
    have z7 := (hbr.cell (p := ⟨w.heap.size, 7, none⟩) hszZ).trans (HZW.out 7 _ rfl)
    have z8 := (hbr.cell (p := ⟨w.heap.size, 8, none⟩) hszZ).trans (HZW.out 8 _ rfl)
    go_wp2_with fail
    rw [HMIN.out]
    have hpc := alloc_cells wr [.int .i64 a, .int .i64 b] 189
    have hpb : Below wr.heap.size wr (wr.alloc (.cells #[.int .i64 a, .int .i64 b] 189)) := alloc_below' _ _
    have hpz : wr.heap.size < (wr.alloc (.cells #[.int .i64 a, .int .i64 b] 189)).heap.size := by simp
    generalize (wr.alloc (.cells #[.int .i64 a, .int .i64 b] 189)) = wp at *
    have HC4 := Lib.hid (HBT.out wp (hbr0.trans (hpb.mono (Nat.le_of_lt hszr'))))
    unfold BetEnd at HC4
    rw [HV.out] at HC4
    refine HC4.out.mono ?_
    rintro e w4 ⟨v4, rfl, hr4, hb4, hn4⟩
    obtain ⟨A4, c4, rfl⟩ := rd_vf hr4
    have p0 := (hb4.cell (p := ⟨wr.heap.size, 0, none⟩) hpz).trans (hpc 0 _ rfl)
    have p1 := (hb4.cell (p := ⟨wr.heap.size, 1, none⟩) hpz).trans (hpc 1 _ rfl)
    have hsz4 : wr.heap.size < w4.heap.size := Nat.lt_of_lt_of_le hpz hb4.size
    have HB4 := Lib.hid (hbr.trans ((hpb.trans (hb4.mono hpb.size)).mono hbr.size))
    have NS4 := Lib.hid hn4
    have R4 := Lib.hid hr4
    have hbase : W0.heap.size ≤ w4.heap.size := HB4.out.size
    have hwl : w.heap.size ≤ W0.heap.size := hw0
    clear hpc hpb hb4 hn4 hr4 HC4 z0 z1 z2 z3 z4 z5 z6 z7 z8 s0 s1 HBT HV HMIN
    generalize hq : (z.betF a b) = LB at *
    go_wp2
    go_loopw [8, 9] (fun v8 v9 wv => v8 = .slice A4 LB.length c4 ∧ v9 = .int .i64 0 ∧ wv = w4) (fun _ _ _ => 0)
    case atStart => exact ⟨rfl, rfl, rfl⟩
    case round =>
     obtain ⟨rfl, rfl, rfl⟩ := hrel
     rcases NS4.out with h5 | ⟨b5, off5, n5, c5', h5⟩
     ·injection h5 with h1 h2 h3
      have hLB : LB = [] := List.eq_nil_of_length_eq_zero h2
      subst h1 h3
      rw [h2]
      clear h2
      go_wp2_with (at_builtin; go_loud (refine wpList_append_own_none rfl (.tmp 55) (.tmp 56) _ rfl W0.heap.size 68 i0 4 Tryz.underlying62 hi0 _ _ _ rfl (World.ownsRow_nil _ _ _ _) rfl ?_))
      exact ⟨⟨HB4.out, .inr ⟨rfl, hab, own_nil' (hq.trans hLB)⟩⟩, by simp [intOf]; omega⟩
     ·injection h5 with h1 h2 h3
      subst h1
      have HNEWS := Lib.hid (rd_cells' R4.out)
      clear h2 h3
      go_wp2_with (at_builtin; go_loud (refine wpList_append_own _ rfl (.tmp 55) (.tmp 56) _ rfl W0.heap.size 68 i0 _ 4 40 Tryz.underlying62 hi0 hz0 hz1 hz2 rfl (by decide) _ _ _ rfl (World.ownsRow_nil _ _ _ _) ⟨b5, off5, none⟩ LB.length c4 (LB.flatMap Trn.cells) rfl (flat_len trn_len LB) (fun j u hu => (by rw [add_plain']; exact HNEWS.out j u hu)) (flat_oneT' LB) (by simp only [maxLen]; omega) (by omega) hbase ?_); intro v7 w7 hown7 hg7 _; have hgN : World.grownBy _ w7 none := hg7; have q1 := carry hgN p1 hsz4; have hsz7 := Nat.lt_of_lt_of_le hsz4 hgN.size; have HB7 := Lib.hid (HB4.out.trans ((below_of_none hgN).mono HB4.out.size)); have HO7 := Lib.hid hown7; clear hown7 hg7 hgN)
      have hown7 := HO7.out
      rw [Nat.zero_add, List.nil_append, ← hq] at hown7
      exact ⟨⟨HB7.out, .inr ⟨rfl, hab, hown7⟩⟩, by simp [intOf]; omega⟩
   ·have dab : decide (a < b) = false := decide_eq_false hab
    have HN := Lib.hid (betF_none' (z := z) hab)
    go_wp2
    go_ret
    rw [HN.out]
    exact ⟨_, rfl, ⟨by simp, .inl ⟨rfl, rfl⟩⟩, hbr0⟩
  ·have dbb : decide (b < b) = false := decide_eq_false (by omega)
   have HOWN := Lib.hid (own_base hown hw0)
   clear hown
   go_wp2
   go_ret
   exact ⟨_, rfl, HOWN.out, hbr0⟩
end Go.Proofs.YtdpbhjaicgkblaaGreatDoor
/- A range over a function whose iterator keeps a struct of its own in cells: the caller's invariant abides a turn of blocks of that struct's type. Turned from the kit's law for a loop whose body is told of its own record. -/
namespace Go.Proofs.YtdpbhjaicgkblaaGreatDoor
set_option linter.unusedSimpArgs false
set_option linter.unusedVariables false
open Go.RowKit
def ofT (T : TypeId) (o : Obj) : Prop := ∃ cs cur, o = .cells cs T cur
def TurnsT (T : TypeId) (W : World) (r : Nat) : Prop := ∃ o : Obj, W.heap[r]? = some o ∧ (o.isWalk = true ∨ ofT T o)
def AbidesT {β : Type} (T : TypeId) (B : Nat) (J : β → World → Prop) : Prop := ∀ s W W' row, J s W → W.grownBy W' row → (∀ r, row = some r → B ≤ r ∧ TurnsT T W r) → J s W'
def OwnT {β : Type} (T : TypeId) (B : Nat) (I : β → World → Prop) : Prop := ∀ s W W' row, I s W → W.grownBy W' row → (∀ r, row = some r → B ≤ r ∧ ∃ o : Obj, W.heap[r]? = some o ∧ (o.isCells = false ∨ ofT T o)) → I s W'
def StopsT {α : Type} (T : TypeId) (F : Fence) (n : Nat) (P : Program) (g : Nat) (lb : Array Value) (encs : α → Array Value) (Kp : World → World → Prop) (S Sp : List α → Prop) (N : Nat) (w : World) : Prop :=
 ∀ (l : Nat) (J Jx : List α → World → Prop) (W : World), Below w.heap.size w W → AbidesT T W.heap.size J → AbidesT T W.heap.size Jx →
  (∀ pre x W1, J pre W1 → pre.length < N → YieldAt F (n - 1) P l (encs x) W1 fun e W' =>
   (e = .returned (.bool true) ∧ J (pre ++ [x]) W' ∧ Kp W1 W') ∨ (e = .returned (.bool false) ∧ Jx (pre ++ [x]) W')) →
  J [] W →
  CallsIn F n P g (#[.func (.yield l) #[] #[]] ++ lb) W fun e W' => (∃ v, e = .returned v) ∧ ((∃ xs, S xs ∧ J xs W') ∨ (∃ pre, Sp pre ∧ Jx pre W'))
theorem OwnT.putObj {β : Type} {T : TypeId} {B : Nat} {I : β → World → Prop} (h : OwnT T B I) {s : β} {W : World} {l : Nat} {o : Obj} (o' : Obj) (hs : I s W) (hB : B ≤ l) (hl : W.heap[l]? = some o) (ho : o.isCells = false) : I s (W.putObj l o') :=
 h s W _ (some l) hs (grownBy_putObj' W l o') (fun r e => by cases e; exact ⟨hB, o, hl, .inl ho⟩)
theorem OwnT.alloc {β : Type} {T : TypeId} {B : Nat} {I : β → World → Prop} (h : OwnT T B I) {s : β} {W : World} (o : Obj) (hs : I s W) : I s (W.alloc o) :=
 h s W _ none hs (World.grownBy_alloc W o none) (fun r e => by cases e)
theorem OwnT.and {β : Type} {T : TypeId} {B : Nat} {I I' : β → World → Prop} (h : OwnT T B I) (h' : OwnT T B I') : OwnT T B (fun s W => I s W ∧ I' s W) := fun s W W' row hs hg hr => ⟨h s W W' row hs.1 hg hr, h' s W W' row hs.2 hg hr⟩
theorem ownT_below {β : Type} {T : TypeId} {n₀ B : Nat} {w₀ : World} (hn : n₀ ≤ w₀.heap.size) (hB : n₀ ≤ B) : OwnT T B (fun (_ : β) W => Below n₀ w₀ W) :=
 fun _ _ _ _ hs hg hr => hs.grown hg (Nat.le_trans hn hs.size) (fun k e => Nat.le_trans hB (hr k e).1)
theorem ownT_pure {β : Type} (T : TypeId) (B : Nat) (p : β → Prop) : OwnT T B (fun s (_ : World) => p s) := fun _ _ _ _ hs _ _ => hs
theorem turn_keeps {T : TypeId} {W W' : World} {row : Option Nat} (hg : W.grownBy W' row) (hrow : ∀ r, row = some r → TurnsT T W r) {k : Nat} {o : Obj} (hk : W.heap[k]? = some o) (hw : o.isWalk = false) (hc : o.isCells = false) : W'.heap[k]? = some o := by
 refine (hg.block k (Array.getElem?_eq_some_iff.1 hk).1 fun e => ?_).trans hk
 obtain ⟨o', ho', h⟩ := hrow k e.symm
 rw [hk] at ho'
 cases ho'
 rcases h with h | ⟨cs, cur, rfl⟩
 ·rw [hw] at h; cases h
 ·cases hc
variable {F : Fence} {n : Nat} {P : Program}
theorem wpIn_range_T {α : Type} {T : TypeId} {g : Operand} {ps : Array Tmp} {assign body : Code} {Q : Exit → Act → World → Prop} {a : Act} {w : World}
  (hro : F.round = none) (h1 : 1 ≤ n) {gf : Nat} {lb : Array Value} (hg : a.eval g = .func (.func gf) #[] lb) (hFg : F.fn gf) (eg : ∀ args w, (callFunc gf args).run P w = .ok (.enter gf args) w)
  {encs : α → Array Value} {Kp : World → World → Prop} {S Sp : List α → Prop} {N : Nat} {w0 : World} (hseq : StopsT T F (n - 1) P gf lb encs Kp S Sp N w0)
  (hKt : ∀ {A B C : World}, Kp A B → Kp B C → Kp A C) (hKb : ∀ (W : World) (l : Nat) (o o' : Obj), w.heap.size ≤ l → W.heap[l]? = some o → o.isCells = false → Kp W (W.putObj l o')) (hb0 : Below w0.heap.size w0 w) (hps : ∀ x, (encs x).size = ps.size)
  (I : List α → World → Prop) (Ix : Code → List α → World → Prop) (hI : OwnT T w.heap.size I) (hIx : ∀ c, OwnT T w.heap.size (Ix c)) (h0 : I [] w) (Ax : α → Act → World → Prop) (hAx : ∀ x a', OwnT T w.heap.size (fun (_ : Unit) W => Ax x a' W))
  (hassign : ∀ (l : Nat) (pre : List α) (x : α) (W : World) (K : Act → World → Prop), I pre W → (∀ a' W', KeepsFrom w.heap.size W W' → Kp W W' → I pre W' → Ax x a' W' → K a' W') →
   assign.wpIn (F.inRound l) (n - 1 - 1) P (Exit.then K (fun _ _ _ => False)) { tmps := (ps.zip (encs x)).foldl (fun t (p, v) => t.setIfInBounds p v) a.tmps, defers := [] } W)
  (hbody : ∀ (l : Nat) (pre : List α) (x : α) (a' : Act) (W : World), I pre W → Ax x a' W → pre.length < N → body.wpIn (F.inRound l) (n - 1 - 1) P (ownPostG w.heap.size Kp I Ix (pre ++ [x]) W) a' W)
  (hdone : ∀ (D : Nat) (xs : List α) (W : World), w.heap.size ≤ D → S xs → I xs W → W.heap[D]? = some (.deferred (some [])) → Q .normal { a with defers := { target := .collected D, args := #[] } :: a.defers } W)
  (hstop : ∀ (D : Nat) (c : Code) (pre : List α) (W : World), w.heap.size ≤ D → Sp pre → Ix c pre W → W.heap[D]? = some (.deferred (some [])) → c.wpIn F n P Q { a with defers := { target := .collected D, args := #[] } :: a.defers } W) :
  (Code.rangeFunc g ps assign body).wpIn F n P Q a w := by
 refine wpIn_rangeFunc fun fn hfn => ?_
 rw [hro]
 -- the loop's record lies in block L, the rounds' deferred calls in block D
 obtain ⟨D, hD⟩ : ∃ D, D = w.heap.size := ⟨_, rfl⟩
 obtain ⟨rec, hrec⟩ : ∃ rec : LoopState → Option Code → Loop, rec = fun st pe => { state := st, pending := pe, fn, tmps := a.tmps, params := ps, assign, body, defers := w.heap.size } := ⟨_, rfl⟩
 obtain ⟨W1, hW1⟩ : ∃ W1, (w.alloc (.deferred (some []))).alloc (.loop (rec .ready none)) = W1 := ⟨_, rfl⟩
 have hs1 : W1.heap.size = D + 1 + 1 := by rw [← hW1, hD]; simp
 have hL1 : W1.heap[D + 1]? = some (.loop (rec .ready none)) := by
  rw [← hW1, hD]; have := World.alloc_heap_new (w.alloc (.deferred (some []))) (.loop (rec .ready none)); rwa [World.size_alloc] at this
 have hD1 : W1.heap[D]? = some (.deferred (some [])) := by
  rw [← hW1, hD]; exact (Below.heap_alloc _ _ _ (by simp)).trans (World.alloc_heap_new w _)
 have hI1 : I [] W1 := by rw [← hW1]; exact hI.alloc _ (hI.alloc _ h0)
 have hb1 : Below w0.heap.size w0 W1 := by
  rw [← hW1]; exact hb0.trans ((((Below.refl _ w).alloc (Nat.le_refl _) _).alloc (by simp) _).mono hb0.size)
 rw [← hD] at hI hIx hAx hKb hbody hassign
 refine ⟨D + 1, [{ target := .collected D, args := #[] }], W1, { target := .fn (.func gf) lb, args := #[.func (.yield (D + 1)) #[] #[]] }, W1, gf, #[.func (.yield (D + 1)) #[] #[]] ++ lb, W1, ?_, ?_, ?_, ?_, fun _ => h1, ?_⟩
 ·rw [← hW1, hrec, hD]; exact run_enterLoop_outer _ _ _ _ _
 ·simp only [resolve, hg]
  simp [go_sem]
 ·intro f' hf'
  simp [Target.leads] at hf'
  subst hf'
  exact hFg
 ·simp [invoke, go_sem, eg]
 ·have hrow : ∀ {A : World} {row : Option Nat}, (∀ r, row = some r → W1.heap.size ≤ r ∧ TurnsT T A r) → (∀ r, row = some r → D ≤ r ∧ ∃ o : Obj, A.heap[r]? = some o ∧ (o.isCells = false ∨ ofT T o)) := fun hr r e => by
   obtain ⟨hB, o, ho, hw⟩ := hr r e
   exact ⟨by omega, o, ho, hw.imp (fun h => Obj.not_cells_of_walk h) id⟩
  refine (hseq (D + 1) (fun pre W => I pre W ∧ W.heap[D + 1]? = some (.loop (rec .ready none)) ∧ W.heap[D]? = some (.deferred (some [])))
   (fun pre W => ∃ c, Ix c pre W ∧ W.heap[D + 1]? = some (.loop (rec .done (some c))) ∧ W.heap[D]? = some (.deferred (some []))) W1 hb1 ?_ ?_ ?_ ⟨hI1, hL1, hD1⟩).mono ?_
  ·rintro s A B row ⟨g1, g2, g3⟩ hg' hr
   exact ⟨hI s A B row g1 hg' (hrow hr), turn_keeps hg' (fun r e => (hr r e).2) g2 rfl rfl, turn_keeps hg' (fun r e => (hr r e).2) g3 rfl rfl⟩
  ·rintro s A B row ⟨c, g1, g2, g3⟩ hg' hr
   exact ⟨c, hIx c s A B row g1 hg' (hrow hr), turn_keeps hg' (fun r e => (hr r e).2) g2 rfl rfl, turn_keeps hg' (fun r e => (hr r e).2) g3 rfl rfl⟩
  ·rintro pre x Wa ⟨hi, hl, hk⟩ hlen
   have hy := run_yield (P := P) (args := encs x) hl (by rw [hrec]; exact hps x)
   rw [hrec] at hy
   refine ⟨fn, _, assign, body, hy, roundIn_of_wpIn hfn (hassign _ pre x Wa _ hi fun a' W hka hpa hi hax => ?_)⟩
   clear hy
   have hl := hka.same _ _ (by omega) hl rfl
   have hk := hka.same _ _ (Nat.le_refl _) hk rfl
   have hlt : D + 1 < W.heap.size := (Array.getElem?_eq_some_iff.1 hl).1
   refine ⟨_, run_beginRound hl (by rw [hrec]), ?_⟩
   obtain ⟨V, hV⟩ : ∃ V, V = W.putObj (D + 1) (.loop { rec .ready none with state := .busy }) := ⟨_, rfl⟩
   rw [← hV]
   have hl2 : V.heap[D + 1]? = some (.loop { rec .ready none with state := .busy }) := by rw [hV]; exact World.putObj_heap_same hlt
   have hk2 : V.heap[D]? = some (.deferred (some [])) := by rw [hV]; exact (World.putObj_heap_other (by omega)).trans hk
   have hp2 : Kp W V := by rw [hV]; exact hKb _ _ _ _ (by omega) hl rfl
   have hi2 : I pre V := by rw [hV]; exact hI.putObj _ hi (by omega) hl rfl
   have ha2 : Ax x a' V := by rw [hV]; exact (hAx x a').putObj (s := ()) _ hax (by omega) hl rfl
   have out : ∀ (jump : Option Code) (W3 : World), KeepsFrom D V W3 → ∃ W4, W4 = W3.putObj (D + 1) (.loop (rec (if jump.isNone then .ready else .done) jump)) ∧
     (Instr.endRound (D + 1) jump).run P W3 = .ok (.bool jump.isNone) W4 ∧ W3.heap[D + 1]? = some (.loop { rec .ready none with state := .busy }) ∧
     W4.heap[D + 1]? = some (.loop (rec (if jump.isNone then .ready else .done) jump)) ∧ W4.heap[D]? = some (.deferred (some [])) := fun jump W3 hk3 => by
    have hl3 := hk3.same _ _ (by omega) hl2 rfl
    have hr3 := run_endRound (P := P) jump hl3
    have hl3' := hl3
    rw [hrec] at hr3 hl3' ⊢
    exact ⟨_, rfl, hr3, hl3', World.putObj_heap_same (Array.getElem?_eq_some_iff.1 hl3).1, (World.putObj_heap_other (by omega)).trans (hk3.same _ _ (Nat.le_refl _) hk2 rfl)⟩
   refine wpIn_mono (hbody _ pre x a' _ hi2 ha2 hlen) ?_
   rintro e a3 W3 hp
   cases e with
   | normal =>
    obtain ⟨g1, g2, g3⟩ := hp
    obtain ⟨W4, rfl, hr, hl3, hl4, hk4⟩ := out none W3 g1
    exact ⟨_, _, hr, .inl ⟨rfl, ⟨hI.putObj _ g3 (by omega) hl3 rfl, hl4, hk4⟩, hKt hpa (hKt (hKt hp2 g2) (hKb _ _ _ _ (by omega) hl3 rfl))⟩⟩
   | ret =>
    obtain ⟨g1, g3⟩ := hp
    obtain ⟨W4, rfl, hr, hl3, hl4, hk4⟩ := out (some .ret) W3 g1
    exact ⟨_, _, hr, .inr ⟨rfl, .ret, (hIx _).putObj _ g3 (by omega) hl3 rfl, hl4, hk4⟩⟩
   | exit id =>
    obtain ⟨g1, g3⟩ := hp
    obtain ⟨W4, rfl, hr, hl3, hl4, hk4⟩ := out (some (.exit id)) W3 g1
    exact ⟨_, _, hr, .inr ⟨rfl, .exit id, (hIx _).putObj _ g3 (by omega) hl3 rfl, hl4, hk4⟩⟩
   | goto t =>
    obtain ⟨g1, g3⟩ := hp
    obtain ⟨W4, rfl, hr, hl3, hl4, hk4⟩ := out (some (.goto t)) W3 g1
    exact ⟨_, _, hr, .inr ⟨rfl, .goto t, (hIx _).putObj _ g3 (by omega) hl3 rfl, hl4, hk4⟩⟩
   | panic ch => exact hp.elim
   | outgrown => exact hp.elim
  ·have hend : ∀ {W2 : World} {st : LoopState} {pe : Option Code}, W2.heap[D + 1]? = some (.loop (rec st pe)) → st ≠ .busy → (Instr.endLoop (D + 1)).run P W2 = .ok pe (W2.putObj (D + 1) (.loop { rec st pe with state := .exhausted })) := fun hl hb => by
    have := run_endLoop (P := P) hl (by rw [hrec]; exact hb)
    rw [hrec] at this ⊢
    exact this
   rintro e W2 ⟨⟨v, rfl⟩, (⟨xs, hS, hi, hl, hk⟩ | ⟨pre, hSp, c, hi, hl, hk⟩)⟩
   ·rw [← hD] at hdone
    exact ⟨none, _, hend hl (by simp), hdone _ xs _ (Nat.le_refl _) hS (hI.putObj _ hi (by omega) hl rfl) ((World.putObj_heap_other (by omega)).trans hk)⟩
   ·rw [← hD] at hstop
    exact ⟨some c, _, hend hl (by simp), hstop _ c pre _ (Nat.le_refl _) hSp ((hIx c).putObj _ hi (by omega) hl rfl) ((World.putObj_heap_other (by omega)).trans hk)⟩
end Go.Proofs.YtdpbhjaicgkblaaGreatDoor
/- local.pieces: the iterator's contract. -/
namespace Go.Proofs.YtdpbhjaicgkblaaGreatDoor
set_option linter.unusedSimpArgs false
set_option linter.unusedVariables false
open Go.RowKit Go.Shelf Go.ChangeShapes Go.WideShapes Go.ChangeAt
attribute [local go_sem] Oper.semAt_some
def encP (x : Piece) : Array Value := #[.agg #[.int .i64 x.fr, .int .i64 x.to], .int .i64 x.off]
def KeepC (W W' : World) : Prop := ∀ (k : Nat) (cs : Array Value) (T : TypeId) cur, (T = 61 ∨ T = 68) → W.heap[k]? = some (.cells cs T cur) → W'.heap[k]? = some (.cells cs T cur)
def KpP (Bi : Nat) (W W' : World) : Prop := KeepC W W' ∧ ∀ cs T cur, W.heap[Bi]? = some (.cells cs T cur) → W'.heap[Bi]? = some (.cells cs T cur)
theorem KeepC.refl (W : World) : KeepC W W := fun _ _ _ _ _ h => h
theorem KeepC.trans {A B C : World} (h : KeepC A B) (k : KeepC B C) : KeepC A C := fun i cs T cur hT hi => k i cs T cur hT (h i cs T cur hT hi)
theorem KpP.trans {Bi : Nat} {A B C : World} (h : KpP Bi A B) (k : KpP Bi B C) : KpP Bi A C := ⟨h.1.trans k.1, fun cs T cur e => k.2 cs T cur (h.2 cs T cur e)⟩
theorem put_keeps {W : World} {l : Nat} {o : Obj} (o' : Obj) (h : W.heap[l]? = some o) (hc : o.isCells = false) {k : Nat} {cs : Array Value} {T : TypeId} {cur : Nat × Nat} (hk : W.heap[k]? = some (.cells cs T cur)) : (W.putObj l o').heap[k]? = some (.cells cs T cur) := by
 by_cases e : k = l
 ·subst e
  rw [h] at hk
  cases hk
  cases hc
 ·exact (World.putObj_heap_other (by omega)).trans hk
theorem kpP_b {Bi : Nat} (W : World) (l : Nat) (o o' : Obj) (h : W.heap[l]? = some o) (hc : o.isCells = false) : KpP Bi W (W.putObj l o') := ⟨fun _ _ _ _ _ hk => put_keeps o' h hc hk, fun _ _ _ hk => put_keeps o' h hc hk⟩
theorem KpP.refl (Bi : Nat) (W : World) : KpP Bi W W := ⟨KeepC.refl W, fun _ _ _ h => h⟩
theorem KpP.grown {Bi : Nat} {A W W' : World} {row : Option Nat} (h : KpP Bi A W) (hg : W.grownBy W' row) (hr : ∀ r, row = some r → r ≠ Bi ∧ ∃ cs T cur, W.heap[r]? = some (.cells cs T cur) ∧ T ≠ 61 ∧ T ≠ 68) : KpP Bi A W' := by
 refine ⟨fun k cs T cur hT hk => ?_, fun cs T cur hk => ?_⟩
 ·have h1 := h.1 k cs T cur hT hk
  refine (hg.block k (Array.getElem?_eq_some_iff.1 h1).1 fun e => ?_).trans h1
  obtain ⟨_, cs', T', cur', h2, h3, h4⟩ := hr k e.symm
  rw [h1] at h2
  injection h2 with h2
  injection h2 with _ h2 _
  subst h2
  exact hT.elim h3 h4
 ·have h1 := h.2 cs T cur hk
  refine (hg.block Bi (Array.getElem?_eq_some_iff.1 h1).1 fun e => ?_).trans h1
  exact (hr Bi e.symm).1 rfl
theorem KpP.alloc {Bi : Nat} {A W : World} (h : KpP Bi A W) (o : Obj) : KpP Bi A (W.alloc o) := h.grown (World.grownBy_alloc W o none) (fun r e => by cases e)
theorem KpP.below {Bi : Nat} {A W W' : World} (h : KpP Bi A W) (hb : Below W.heap.size W W') : KpP Bi A W' := h.grown (only_of_below hb none) (fun r e => by cases e)
theorem KpP.set {Bi : Nat} {A W : World} (h : KpP Bi A W) {q : Nat} {cs : Array Value} {T : TypeId} (hq : Blk W q cs T) (hne : q ≠ Bi) (h1 : T ≠ 61) (h2 : T ≠ 68) (i : Nat) (v : Value) : KpP Bi A (W.setCell ⟨q, i, none⟩ v) :=
 h.grown (row := some q) ⟨rfl, rfl, rfl, (KeepsWalks.setCell W _ v).size, fun k _ hk => Below.heap_setCell _ _ _ k (fun e => hk (by rw [e]))⟩ (fun r e => by cases e; exact ⟨hne, _, _, _, hq, h1, h2⟩)
theorem KeepC.alloc {A W : World} (h : KeepC A W) (o : Obj) : KeepC A (W.alloc o) := fun k cs T cur hT hk => by
 have := h k cs T cur hT hk
 exact (Below.heap_alloc _ _ _ (Array.getElem?_eq_some_iff.1 this).1).trans this
theorem KeepC.below {A W W' : World} (h : KeepC A W) (hb : Below W.heap.size W W') : KeepC A W' := fun k cs T cur hT hk => by
 have := h k cs T cur hT hk
 exact (hb.block k (Array.getElem?_eq_some_iff.1 this).1).trans this
theorem KeepC.blk {W W' : World} (h : KeepC W W') {B : Nat} {cs : Array Value} {T : TypeId} (hT : T = 61 ∨ T = 68) (hb : Blk W B cs T) : Blk W' B cs T := h B cs T _ hT hb
theorem Blk.cl {W : World} {B : Nat} {l : List Value} {T : TypeId} (h : Blk W B l.toArray T) (i : Nat) (u : Value) (hu : l[i]? = some u) : W.cell? ⟨B, i, none⟩ = some u := h.cell i (by simpa using hu)
theorem Blk.set3 {W : World} {B : Nat} {a b c : Value} {T : TypeId} (h : Blk W B #[a, b, c] T) (x y u : Value) : Blk (((W.setCell ⟨B, 0, none⟩ x).setCell ⟨B, 1, none⟩ y).setCell ⟨B, 2, none⟩ u) B #[x, y, u] T := by
 have hlt := h.lt
 unfold Blk at h ⊢
 have hg := (Array.getElem?_eq_some_iff.1 h).2
 simp [World.setCell, Array.getElem_modify, hg, hlt]
def RowT (W : World) (v : Value) (L : List Trn) : Prop := (L = [] ∧ ∃ A c, v = .slice A 0 c) ∨ ∃ (g off c : Nat) (cs : Array Value) (cur : Nat × Nat), v = .slice (some ⟨g, off, none⟩) L.length c ∧ W.heap[g]? = some (.cells cs 68 cur) ∧ ∀ j, j < L.length → ∀ i u, (Trn.cells L[j]!)[i]? = some u → W.cell? ⟨g, off + j * 4 + i, none⟩ = some u
theorem rowT_own {W : World} {base : Nat} {v : Value} {L : List Trn} (h : W.ownsRow base 68 4 v L.length (L.flatMap Trn.cells)) : RowT W v L := by
 rcases rd_of_own trn_len h rfl with h1 | ⟨g, off, c, hv, hg, hc⟩
 ·exact .inl h1
 ·rcases h.2 with ⟨e0, e1⟩ | ⟨g', cap, cur, e0, h1, h2, _⟩
  ·rw [e0] at hv; cases hv
  ·rw [e0] at hv
   injection hv with e1 _ e2
   injection e1 with e1
   injection e1 with e1 e3 _
   subst e1 e3 e2
   exact .inr ⟨_, _, _, _, _, e0, h2, hc⟩
theorem RowT.keep {W W' : World} {v : Value} {L : List Trn} (h : RowT W v L) (hk : KeepC W W') : RowT W' v L := by
 rcases h with h | ⟨g, off, c, cs, cur, h1, h2, h3⟩
 ·exact .inl h
 ·have h4 := hk g cs _ cur (.inr rfl) h2
  refine .inr ⟨g, off, c, cs, cur, h1, h4, fun j hj i u hu => ?_⟩
  rw [← h3 j hj i u hu]
  simp only [World.cell?, h2, h4]
theorem RowT.grown {W W' : World} {row : Option Nat} {v : Value} {L : List Trn} (h : RowT W v L) (hg : W.grownBy W' row) (hr : ∀ r, row = some r → ∃ cs cur, W.heap[r]? = some (.cells cs 61 cur)) : RowT W' v L := by
 rcases h with h | ⟨g, off, c, cs, cur, h1, h2, h3⟩
 ·exact .inl h
 ·have h4 : W'.heap[g]? = W.heap[g]? := hg.block g (Array.getElem?_eq_some_iff.1 h2).1 fun e => by
   obtain ⟨cs', cur', h5⟩ := hr g e.symm
   rw [h2] at h5
   injection h5 with h5
   injection h5 with _ h5 _
   revert h5
   decide
  exact .inr ⟨g, off, c, cs, cur, h1, h4.trans h2, fun j hj i u hu => by
   rw [← h3 j hj i u hu]
   exact World.cell?_of_block h4⟩
theorem RowT.form {W : World} {v : Value} {L : List Trn} (h : RowT W v L) : ∃ A c, v = .slice A L.length c := by
 rcases h with ⟨rfl, A, c, rfl⟩ | ⟨g, off, c, _, _, rfl, _⟩
 ·exact ⟨A, c, rfl⟩
 ·exact ⟨_, c, rfl⟩
theorem RowT.at {W : World} {A : Option Addr} {c k : Nat} {L : List Trn} (h : RowT W (.slice A L.length c) L) (hk : k < L.length) : ∃ g off, A = some ⟨g, off, none⟩ ∧ g < W.heap.size ∧ ∀ i u, (Trn.cells L[k]!)[i]? = some u → W.cell? ⟨g, off + k * 4 + i, none⟩ = some u := by
 rcases h with ⟨rfl, _⟩ | ⟨g, off, c, cs, cur, h1, h2, h3⟩
 ·simp at hk
 ·injection h1 with h1 _ _
  exact ⟨g, off, h1, (Array.getElem?_eq_some_iff.1 h2).1, h3 k hk⟩
theorem grown3 (W : World) (B : Nat) (x y u : Value) : W.grownBy (((W.setCell ⟨B, 0, none⟩ x).setCell ⟨B, 1, none⟩ y).setCell ⟨B, 2, none⟩ u) (some B) := by
 have one : ∀ (W : World) (i : Nat) (v : Value), W.grownBy (W.setCell ⟨B, i, none⟩ v) (some B) := fun W i v => ⟨rfl, rfl, rfl, (KeepsWalks.setCell W _ v).size, fun k _ hk => Below.heap_setCell _ _ _ k (fun e => hk (by rw [e]))⟩
 exact ((one _ _ _).trans (one _ _ _)).trans (one _ _ _)
theorem drop_get {α : Type} [Inhabited α] {L : List α} {k : Nat} (h : k < L.length) : L.drop k = L[k]! :: L.drop (k + 1) := by
 rw [getElem!_pos L k h, List.drop_eq_getElem_cons h]
theorem pre_len {α : Type} {pre q P : List α} {x : α} (h : pre ++ x :: q = P) : pre.length < P.length := by
 rw [← h]; simp
def PcPost (z : Zn) (a b : Int) (J Jx : List Piece → World → Prop) (e : Ending) (W' : World) : Prop := (∃ v, e = .returned v) ∧ ((∃ ys, ys = z.pieces a b ∧ J ys W') ∨ (∃ pre, pre <+: z.pieces a b ∧ Jx pre W'))
set_option maxRecDepth 100000 in
set_option maxHeartbeats 4000000 in
theorem pieces1_in (n : Nat) (hn : 1 ≤ n) (l Bi Bz : Nat) (z : Zn) (vT vR : Value) (a b : Int) (W : World) (hM : Mild z a b) (hll : z.tail.length ≤ 12) (hfs : z.form.size < 4294967281) (hm : HasMax W) (hT : Rd Trn.cells 4 W vT z.table) (hR : Rd Rule.cells 11 W vR z.tail)
  (hz : Blk W Bz #[.string z.nm, .int .i64 z.first.off, .int .i64 z.first.sv, .string z.first.nm, vT, vR, .int .i64 z.off, .string z.form, .int .i64 z.year] 65)
  (hi : Blk W Bi #[.int .i64 a, .int .i64 b] 189) (J Jx : List Piece → World → Prop) (hJ : AbidesT 61 W.heap.size J)
  (hY : ∀ pre x W1, J pre W1 → pre.length < (z.pieces a b).length → YieldAt Fence.wide (n - 1) Tryz.prog l (encP x) W1 fun e W' =>
   (e = .returned (.bool true) ∧ J (pre ++ [x]) W' ∧ KpP Bi W1 W') ∨ (e = .returned (.bool false) ∧ Jx (pre ++ [x]) W'))
  (h0 : J [] W) :
  CallsIn Fence.wide n Tryz.prog 154 #[.func (.yield l) #[] #[], .pointer (some ⟨Bi, 0, none⟩), .pointer (some ⟨Bz, 0, none⟩)] W (PcPost z a b J Jx) := by
 have i0 := hi.cl 0 _ rfl
 have i1 := hi.cl 1 _ rfl
 have HAT := Lib.hid (fun W1 (hb : Below W.heap.size W W1) => zAt_any z vT vR a W1 (hm.on hb) (hT.on hb) (hR.on hb) hfs (.inl hll))
 have HTR := Lib.hid (fun W1 (hb : Below W.heap.size W W1) => transitions_any z vT vR a b W1 (hm.on hb) (hT.on hb) (hR.on hb) hfs hll hM)
 have hasc := bet_asc hM.v a b
 have hmem := bet_mem (z := z) (a := a) (b := b)
 obtain ⟨AT, cT, rfl⟩ := rd_vf hT
 obtain ⟨AR, cR, rfl⟩ := rd_vf hR
 refine callsIn_of_wp Tryz.func154 rfl trivial ?_ rfl
 simp only [Tryz.ntmps154, List.size_toArray, List.length_cons, List.length_nil, Nat.reduceAdd, Nat.reduceSub, Array.replicate_succ, Array.replicate_zero, List.push_toArray, List.append_toArray, List.nil_append, List.cons_append]
 by_cases hab : a < b
 ·have dab : decide (b ≤ a) = false := decide_eq_false (by omega)
  have HP := Lib.hid (show z.pieces a b = piecesF b a (z.typF a).off (z.betF a b) from if_pos hab)
  have hia : inT a = true := by
   have a1 := hM.a1
   have b1 := hM.b1
   unfold inT
   rw [decide_eq_true a1, decide_eq_true (show a < 253402300800 by omega)]; rfl
  have HA := Lib.hid (show z.atV a = (z.typF a, 0) by unfold Zn.atV; rw [if_neg (by rw [hM.v]; decide), if_neg (by rw [hia]; decide)])
  rw [HA.out] at HAT
  unfold atR Typ.val at HAT
  unfold TrsEnd at HTR
  dsimp only at HAT
  unfold Zn.v at HAT HTR
  have hLL := hM.l
  clear HA hia hm hT hR hM
  obtain ⟨P, hP⟩ : ∃ P, z.pieces a b = P := ⟨_, rfl⟩
  rw [hP] at HP hY
  generalize z.typF a = ty0 at *
  generalize hq : z.betF a b = L at *
  have z0 := hz.cl 0 _ rfl
  have z1 := hz.cl 1 _ rfl
  have z2 := hz.cl 2 _ rfl
  have z3 := hz.cl 3 _ rfl
  have z4 := hz.cl 4 _ rfl
  have z5 := hz.cl 5 _ rfl
  have z6 := hz.cl 6 _ rfl
  have z7 := hz.cl 7 _ rfl
  have z8 := hz.cl 8 _ rfl
  gi_wp2_with (first
   | (refine ⟨trivial, ?_⟩; gi_at_call 155; refine (callsIn_wide.2 (HAT.out W (Below.refl _ _))).mono ?_; rintro e w1 ⟨rfl, hb1⟩; clear HAT; have hiA := hi.below hb1 hi.lt; have hzA := hz.below hb1 hz.lt; have q1 := hiA.lt; have q2 := hzA.lt; have hbt := hb1.alloc hb1.size (.cells #[.int .i64 ty0.off, .int .i64 ty0.sv, .string ty0.nm] 61); have bt := Blk.new w1 #[.int .i64 ty0.off, .int .i64 ty0.sv, .string ty0.nm] 61; have i0 := hiA.cl 0 _ rfl; have i1 := hiA.cl 1 _ rfl; have z0 := hzA.cl 0 _ rfl; have z1 := hzA.cl 1 _ rfl; have z2 := hzA.cl 2 _ rfl; have z3 := hzA.cl 3 _ rfl; have z4 := hzA.cl 4 _ rfl; have z5 := hzA.cl 5 _ rfl; have z6 := hzA.cl 6 _ rfl; have z7 := hzA.cl 7 _ rfl; have z8 := hzA.cl 8 _ rfl)
   | (refine ⟨trivial, ?_⟩; gi_at_call 156; refine (callsIn_wide.2 (HTR.out _ hbt)).mono ?_; rintro e w3 ⟨v, rfl, hown, hb3⟩; clear HTR; have hRw := rowT_own hown; obtain ⟨AL, cL, rfl⟩ := hRw.form))
  have hb03 : Below W.heap.size W w3 := hbt.trans (hb3.mono hbt.size)
  have hB3 := bt.below hb3 bt.lt
  have hI3 := hi.below hb03 hi.lt
  have hsz1 : W.heap.size ≤ w1.heap.size := hb1.size
  have hJ3 : J [] w3 := hJ [] W w3 none h0 (only_of_below hb03 none) (fun r e => by cases e)
  have hs3 := hb03.size
  have hBiW : Bi < W.heap.size := hi.lt
  clear hbt bt hiA hzA q1 q2 i0 i1 z0 z1 z2 z3 z4 z5 z6 z7 z8 hb1 hb3 hown hz hi h0
  generalize w1.heap.size = Bt at *
  gi_loopw [6, 27] (fun v6 v27 wr => ∃ (k : Nat) (f : Int) (ty : Typ) (pre : List Piece), k ≤ L.length ∧ v27 = .int .i64 k ∧ v6 = .int .i64 f ∧ J pre wr ∧ Blk wr Bt #[.int .i64 ty.off, .int .i64 ty.sv, .string ty.nm] 61 ∧ Blk wr Bi #[.int .i64 a, .int .i64 b] 189 ∧ RowT wr (.slice AL L.length cL) L ∧ Hid (pre ++ piecesF b f ty.off (L.drop k) = P) ∧ W.heap.size ≤ wr.heap.size) (fun _ v _ => L.length - (intOf v).toNat)
  case atStart => exact ⟨0, a, ty0, [], Nat.zero_le _, rfl, rfl, hJ3, hB3, hI3, hRw, Lib.hid (by rw [List.nil_append, List.drop_zero]; exact HP.out.symm), hs3⟩
  case round =>
   obtain ⟨k, f, ty, pre, hk, rfl, rfl, hJr, hBt, hBi, hRr, HPr, hsz⟩ := hrel
   obtain ⟨to, ts, tn⟩ := ty
   dsimp only at hBt HPr
   have t0 := hBt.cl 0 _ rfl
   have t1 := hBt.cl 1 _ rfl
   have t2 := hBt.cl 2 _ rfl
   have tf := hBt.frozen
   have hBl := hBt.lt
   have hBl2 := hBi.lt
   by_cases hlt : k < L.length
   ·have hdr := drop_get hlt
    obtain ⟨g, off, rfl, hg, hc⟩ := hRr.at hlt
    have e0 := hc 0 _ rfl
    have e1 := hc 1 _ rfl
    have e2 := hc 2 _ rfl
    have e3 := hc 3 _ rfl
    rw [Nat.add_zero] at e0
    generalize L[k]! = x at *
    obtain ⟨xa, xo, xs, xn⟩ := x
    dsimp only at *
    rw [hdr] at HPr
    have hJx0 : J pre (wr.alloc (.cells #[.int .i64 xa, .int .i64 xo, .int .i64 xs, .string xn] 68)) := hJ _ _ _ none hJr (World.grownBy_alloc wr _ none) (fun r e => by cases e)
    have bx := Blk.new wr #[.int .i64 xa, .int .i64 xo, .int .i64 xs, .string xn] 68
    have hRx := hRr.grown (World.grownBy_alloc wr (.cells #[.int .i64 xa, .int .i64 xo, .int .i64 xs, .string xn] 68) none) (fun r e => by cases e)
    have hBtx := hBt.alloc (.cells #[.int .i64 xa, .int .i64 xo, .int .i64 xs, .string xn] 68)
    have hBix := hBi.alloc (.cells #[.int .i64 xa, .int .i64 xo, .int .i64 xs, .string xn] 68)
    have hsx : W.heap.size ≤ (wr.alloc (.cells #[.int .i64 xa, .int .i64 xo, .int .i64 xs, .string xn] 68)).heap.size := by simp; omega
    have HS := Lib.hid hJx0
    by_cases hfx : f < xa
    ·have dfx : decide (f < xa) = true := decide_eq_true hfx
     have HPS : Hid (pre ++ [⟨f, xa, to⟩] ++ piecesF b xa xo (L.drop (k + 1)) = P) := Lib.hid (by have := HPr.out; rw [piecesF, if_pos hfx] at this; rw [List.append_assoc]; exact this)
     obtain ⟨fn, tmps, assign, body, hy, hR⟩ := hY pre ⟨f, xa, to⟩ _ hJx0 (by have := HPS.out; rw [List.append_assoc] at this; exact pre_len this)
     unfold encP at hy
     dsimp only at hy
     clear hJx0 hc hRr hdr
     gi_wp2
     refine hR.mono ?_
     rintro e W3 (⟨rfl, hJ3', hk3⟩ | ⟨rfl, hJx3⟩)
     ·have bx3 := hk3.1.blk (.inr rfl) bx
      have hBt3 := hk3.1.blk (.inl rfl) hBtx
      have hBi3 : Blk W3 Bi #[.int .i64 a, .int .i64 b] 189 := hk3.2 _ _ _ hBix
      have hR3 := hRx.keep hk3.1
      have y0 := bx3.cl 0 _ rfl
      have y1 := bx3.cl 1 _ rfl
      have y2 := bx3.cl 2 _ rfl
      have y3 := bx3.cl 3 _ rfl
      have t0' := hBt3.cl 0 _ rfl
      have t1' := hBt3.cl 1 _ rfl
      have t2' := hBt3.cl 2 _ rfl
      have tf' := hBt3.frozen
      have hBl' := hBt3.lt
      have hXl' := bx3.lt
      clear t0 t1 t2 tf bx hk3 hRx hBtx hBix hR hy
      gi_wp2
      go_roundw
      case rel =>
       have hg3 := grown3 W3 Bt (.int .i64 xo) (.int .i64 xs) (.string xn)
       have hs3 := hBt3.set3 (.int .i64 xo) (.int .i64 xs) (.string xn)
       have hT3 : ∀ r, some Bt = some r → ∃ cs cur, W3.heap[r]? = some (.cells cs 61 cur) := fun r e => by cases e; exact ⟨_, _, hBt3⟩
       refine ⟨k + 1, xa, ⟨xo, xs, xn⟩, pre ++ [⟨f, xa, to⟩], by omega, by go_num, rfl, hJ _ _ _ _ hJ3' hg3 (fun r e => by cases e; exact ⟨hsz1, _, hBt3, .inr ⟨_, _, rfl⟩⟩), hs3, (hBi3.kept hg3 (fun e => by cases e; omega)), hR3.grown hg3 hT3, HPS, ?_⟩
       have := hg3.size
       omega
      case measure => simp [intOf]; omega
     ·gi_wp2
      refine bodyPost_ret (results_none rfl _ _ _) rfl ?_
      exact ⟨⟨_, rfl⟩, .inr ⟨pre ++ [⟨f, xa, to⟩], by rw [hP]; exact ⟨_, HPS.out⟩, hJx3⟩⟩
    ·have dfx : decide (f < xa) = false := decide_eq_false hfx
     have HPS : Hid (pre ++ piecesF b f xo (L.drop (k + 1)) = P) := Lib.hid (by have := HPr.out; rw [piecesF, if_neg hfx] at this; exact this)
     clear hJx0 hc hdr
     gi_wp2
     go_roundw
     case rel =>
      have hg3 := (grown3 wr Bt (.int .i64 xo) (.int .i64 xs) (.string xn)).trans (World.grownBy_alloc _ (.cells #[.int .i64 xa, .int .i64 xo, .int .i64 xs, .string xn] 68) (some Bt))
      have hT3 : ∀ r, some Bt = some r → ∃ cs cur, wr.heap[r]? = some (.cells cs 61 cur) := fun r e => by cases e; exact ⟨_, _, hBt⟩
      refine ⟨k + 1, f, ⟨xo, xs, xn⟩, pre, by omega, by go_num, rfl, hJ _ _ _ _ hJr hg3 (fun r e => by cases e; exact ⟨hsz1, _, hBt, .inr ⟨_, _, rfl⟩⟩), (hBt.set3 (.int .i64 xo) (.int .i64 xs) (.string xn)).alloc _, (hBi.kept hg3 (fun e => by cases e; omega)), hRr.grown hg3 hT3, HPS, ?_⟩
      have := hg3.size
      omega
     case measure => simp [intOf]; omega
   ·have hke : k = L.length := by omega
    subst hke
    have HPE : Hid (pre ++ [⟨f, b, to⟩] = P) := Lib.hid (by have := HPr.out; rw [List.drop_length, piecesF] at this; exact this)
    obtain ⟨fn, tmps, assign, body, hy, hR⟩ := hY pre ⟨f, b, to⟩ wr hJr (pre_len HPE.out)
    unfold encP at hy
    dsimp only at hy
    have i0' := hBi.cl 0 _ rfl
    have i1' := hBi.cl 1 _ rfl
    gi_wp2
    refine hR.mono ?_
    rintro e W3 (⟨rfl, hJ3', hk3⟩ | ⟨rfl, hJx3⟩)
    ·gi_wp2
     go_end0
     exact ⟨⟨_, rfl⟩, .inl ⟨_, hP.symm, by rw [← HPE.out]; exact hJ3'⟩⟩
    ·gi_wp2
     go_end0
     exact ⟨⟨_, rfl⟩, .inr ⟨pre ++ [⟨f, b, to⟩], by rw [hP, HPE.out]; exact List.prefix_refl _, hJx3⟩⟩
 ·have dab : decide (b ≤ a) = true := decide_eq_true (by omega)
  have HP := Lib.hid (show z.pieces a b = [] from if_neg hab)
  gi_wp2
  refine bodyPost_ret (results_none rfl _ _ _) rfl ?_
  exact ⟨⟨_, rfl⟩, .inl ⟨_, HP.out.symm, h0⟩⟩
end Go.Proofs.YtdpbhjaicgkblaaGreatDoor
/- local.pieces, as its callers see it; what a caller that collects keeps. -/
namespace Go.Proofs.YtdpbhjaicgkblaaGreatDoor
set_option linter.unusedSimpArgs false
set_option linter.unusedVariables false
open Go.RowKit Go.Shelf Go.ChangeShapes Go.WideShapes Go.ChangeAt
attribute [local go_sem] Oper.semAt_some
def PcEnd (z : Zn) (vT vR : Value) (a b : Int) (w : World) (e : Ending) (w' : World) : Prop := ∃ Bi Bz : Nat, e = .returned (.func (.func 154) #[] #[.pointer (some ⟨Bi, 0, none⟩), .pointer (some ⟨Bz, 0, none⟩)]) ∧
 Blk w' Bz #[.string z.nm, .int .i64 z.first.off, .int .i64 z.first.sv, .string z.first.nm, vT, vR, .int .i64 z.off, .string z.form, .int .i64 z.year] 65 ∧ Blk w' Bi #[.int .i64 a, .int .i64 b] 189 ∧ w.heap.size ≤ Bi ∧ Below w.heap.size w w'
theorem pieces_any (z : Zn) (AT AR : Option Addr) (nT nR cT cR : Nat) (a b : Int) (w : World) : Calls Tryz.prog 138 #[z.v (.slice AT nT cT) (.slice AR nR cR), .agg #[.int .i64 a, .int .i64 b]] w (PcEnd z (.slice AT nT cT) (.slice AR nR cR) a b w) := by
 have b1 := Blk.new w #[.string z.nm, .int .i64 z.first.off, .int .i64 z.first.sv, .string z.first.nm, .slice AT nT cT, .slice AR nR cR, .int .i64 z.off, .string z.form, .int .i64 z.year] 65
 have b2 := Blk.new (w.alloc (.cells #[.string z.nm, .int .i64 z.first.off, .int .i64 z.first.sv, .string z.first.nm, .slice AT nT cT, .slice AR nR cR, .int .i64 z.off, .string z.form, .int .i64 z.year] 65)) #[.int .i64 a, .int .i64 b] 189
 have hb := ((Below.refl w.heap.size w).alloc (Nat.le_refl _) (.cells #[.string z.nm, .int .i64 z.first.off, .int .i64 z.first.sv, .string z.first.nm, .slice AT nT cT, .slice AR nR cR, .int .i64 z.off, .string z.form, .int .i64 z.year] 65)).alloc (by simp) (.cells #[.int .i64 a, .int .i64 b] 189)
 rw [World.size_alloc] at b2
 unfold Zn.v
 go_enter Tryz.func138, Tryz.ntmps138
 go_wp2
 go_ret
 exact ⟨_, _, rfl, b1.alloc _, b2, by omega, hb⟩
theorem pieces_stops (n : Nat) (hn : 1 ≤ n) (Bi Bz : Nat) (z : Zn) (vT vR : Value) (a b : Int) (w : World) (hM : Mild z a b) (hll : z.tail.length ≤ 12) (hfs : z.form.size < 4294967281) (hm : HasMax w) (hT : Rd Trn.cells 4 w vT z.table) (hR : Rd Rule.cells 11 w vR z.tail)
  (hz : Blk w Bz #[.string z.nm, .int .i64 z.first.off, .int .i64 z.first.sv, .string z.first.nm, vT, vR, .int .i64 z.off, .string z.form, .int .i64 z.year] 65)
  (hi : Blk w Bi #[.int .i64 a, .int .i64 b] 189) :
  StopsT 61 Fence.wide n Tryz.prog 154 #[.pointer (some ⟨Bi, 0, none⟩), .pointer (some ⟨Bz, 0, none⟩)] encP (KpP Bi) (fun ys => ys = z.pieces a b) (fun pre => pre <+: z.pieces a b) (z.pieces a b).length w :=
 fun l J Jx W hW hJ _ hY h0 => pieces1_in n hn l Bi Bz z vT vR a b W hM hll hfs (hm.on hW) (hT.on hW) (hR.on hW) (hz.below hW hz.lt) (hi.below hW hi.lt) J Jx hJ hY h0
theorem own_kept_T {W W' : World} {row : Option Nat} {T : TypeId} {base : Nat} {e : TypeId} {size n : Nat} {v : Value} {xs : List Value} (h : W.ownsRow base e size v n xs) (hg : W.grownBy W' row) (hr : ∀ r, row = some r → ∃ o : Obj, W.heap[r]? = some o ∧ (o.isCells = false ∨ ofT T o)) (he : e ≠ T) : W'.ownsRow base e size v n xs := by
 refine h.kept hg ?_
 rcases h.2 with ⟨rfl, _⟩ | ⟨g, cap, cur, rfl, _, hgb, _⟩
 ·exact .inl rfl
 ·refine .inr fun e' => ?_
  obtain ⟨o, ho, hc⟩ := hr g (by simpa [Value.ownBlock] using e'.symm)
  rw [hgb] at ho
  cases ho
  rcases hc with hc | ⟨cs, cur', hc⟩
  ·cases hc
  ·injection hc with _ hc _; exact he hc
theorem blk_kept_T {W W' : World} {row : Option Nat} {T : TypeId} {B : Nat} {cs : Array Value} {t : TypeId} (h : Blk W B cs t) (hg : W.grownBy W' row) (hr : ∀ r, row = some r → ∃ o : Obj, W.heap[r]? = some o ∧ (o.isCells = false ∨ ofT T o)) (ht : t ≠ T) : Blk W' B cs t := by
 refine h.kept hg fun e => ?_
 obtain ⟨o, ho, hc⟩ := hr B e.symm
 rw [show W.heap[B]? = _ from h] at ho
 cases ho
 rcases hc with hc | ⟨cs, cur', hc⟩
 ·cases hc
 ·injection hc with _ hc _; exact ht hc
def BoxRow (W : World) (B : Nat) (t e : TypeId) (size base : Nat) (n : Nat) (xs : List Value) : Prop := ∃ v, Blk W B #[v] t ∧ W.ownsRow base e size v n xs
theorem boxRow_ownT {β : Type} {T : TypeId} {D B : Nat} {t e : TypeId} {size base : Nat} (k : β → Nat) (f : β → List Value) (ht : t ≠ T) (he : e ≠ T) : OwnT T D (fun s W => BoxRow W B t e size base (k s) (f s)) := by
 rintro s W W' row ⟨v, hv, hr⟩ hg hrow
 exact ⟨v, blk_kept_T hv hg (fun r e => (hrow r e).2) ht, own_kept_T hr hg (fun r e => (hrow r e).2) he⟩
theorem blk_ownT {β : Type} {T : TypeId} {D B : Nat} {t : TypeId} (f : β → Array Value) (ht : t ≠ T) : OwnT T D (fun s W => Blk W B (f s) t) := fun s W W' row hv hg hrow => blk_kept_T hv hg (fun r e => (hrow r e).2) ht
theorem ownT_ex {β γ : Type} {T : TypeId} {D : Nat} {I : γ → β → World → Prop} (h : ∀ c, OwnT T D (I c)) : OwnT T D (fun s W => ∃ c, I c s W) := fun s W W' row ⟨c, hs⟩ hg hr => ⟨c, h c s W W' row hs hg hr⟩
theorem blk_row_ne {W : World} {B : Nat} {t e : TypeId} {cs : Array Value} (h : Blk W B cs t) (hte : t ≠ e) {base size k : Nat} {v : Value} {xs : List Value} (hr : W.ownsRow base e size v k xs) : v.ownBlock ≠ some B := by
 rcases hr.2 with ⟨rfl, _⟩ | ⟨g, cap, cur, rfl, _, hgb, _⟩
 ·simp [Value.ownBlock]
 ·intro e'
  obtain rfl : g = B := by simpa [Value.ownBlock] using e'
  have := (show W.heap[g]? = _ from h).symm.trans hgb
  simp at this
  exact hte this.2
theorem appended {W WA w1 : World} {Bo Bi base n₀ : Nat} {t e : TypeId} {size : Nat} {v v' : Value} {k m : Nat} {xs ys : List Value}
  (hv : Blk W Bo #[v] t) (hrow : W.ownsRow base e size v k xs) (hte : t ≠ e) (ht1 : t ≠ 61) (ht2 : t ≠ 68) (he1 : e ≠ 61) (he2 : e ≠ 68)
  (hbo : Bo ≠ Bi) (hbi : Bi < base) (hn0 : n₀ ≤ Bo) (hnb : n₀ ≤ base) (hnW : n₀ ≤ W.heap.size) (hA : Below W.heap.size W WA)
  (hown' : w1.ownsRow base e size v' m ys) (hgrow : WA.grownBy w1 v.ownBlock) :
  Blk w1 Bo #[v] t ∧ Blk (w1.setCell ⟨Bo, 0, none⟩ v') Bo #[v'] t ∧ (w1.setCell ⟨Bo, 0, none⟩ v').ownsRow base e size v' m ys ∧ KeepsOthers W (w1.setCell ⟨Bo, 0, none⟩ v') ∧ KpP Bi W (w1.setCell ⟨Bo, 0, none⟩ v') ∧ Below n₀ W (w1.setCell ⟨Bo, 0, none⟩ v') := by
 have hrA : WA.ownsRow base e size v k xs := own_on hrow hA
 have hv1 : Blk w1 Bo #[v] t := (hv.below hA hv.lt).kept hgrow (blk_row_ne hv hte hrow).symm
 have hrb : ∀ r, v.ownBlock = some r → base ≤ r ∧ ∃ cs cur, WA.heap[r]? = some (.cells cs e cur) := fun r er => by
  rcases hrA.2 with ⟨rfl, _⟩ | ⟨g, cap, cur, rfl, hb, hgb, _⟩
  ·simp [Value.ownBlock] at er
  ·obtain rfl : g = r := by simpa [Value.ownBlock] using er
   exact ⟨hb, _, _, hgb⟩
 have hsz : W.heap.size ≤ WA.heap.size := hA.size
 refine ⟨hv1, Boxed.set v' hv1, hown'.kept (grownBy_setCell' w1 Bo v') (.inr (blk_row_ne hv1 hte hown')), ?_, ?_, ?_⟩
 ·refine ((KeepsOthers.of_grownBy (only_of_below hA none) (fun j o e => by cases e)).trans (KeepsOthers.of_grownBy hgrow fun j o ej hj => ?_)).trans (KeepsOthers.setCell _ _ _)
  obtain ⟨_, cs, cur, h1⟩ := hrb j ej
  rw [h1] at hj; cases hj; rfl
 ·refine (((KpP.refl Bi W).below hA).grown hgrow fun r er => ?_).set hv1 hbo ht1 ht2 0 v'
  obtain ⟨h1, cs, cur, h2⟩ := hrb r er
  exact ⟨by omega, cs, e, cur, h2, he1, he2⟩
 ·refine (((hA.mono hnW).grown hgrow (by omega) fun j ej => Nat.le_trans hnb (hrb j ej).1)).setCell (p := ⟨Bo, 0, none⟩) hn0 v'
end Go.Proofs.YtdpbhjaicgkblaaGreatDoor
/- How many transitions a span can have, by their distance. No program in sight. -/
namespace Go.Proofs.YtdpbhjaicgkblaaGreatDoor
set_option linter.unusedSimpArgs false
set_option linter.unusedVariables false
open Go.Sort
def AscG (a b : Int × Trn) : Prop := a.2.at_ + 468000 ≤ b.2.at_
theorem happ_gap {z : Zn} (ok : TailOk z) : ∀ {s : Int} {xs : List (Int × Int × Int)}, (-10800 ≤ s ∧ s ≤ 10800) → (∀ x ∈ xs, x.2 ∈ yearF z.tail x.1) → xs.Pairwise farT → (z.happ s xs).Pairwise AscG
 | s, [], _, _, _ => List.Pairwise.nil
 | s, x :: xs, hs, hx, hp => by
  rw [Zn.happ]
  have hr := rule_mem (hx x List.mem_cons_self)
  have hxs : ∀ x ∈ xs, x.2 ∈ yearF z.tail x.1 := fun y hy => hx y (List.mem_cons_of_mem _ hy)
  obtain ⟨h1, h2⟩ := List.pairwise_cons.1 hp
  split
  ·exact happ_gap ok hs hxs h2
  ·refine List.pairwise_cons.2 ⟨fun t ht => ?_, happ_gap ok (sv_bd ok hr) hxs h2⟩
   obtain ⟨y, hy, g1, _, g2, _⟩ := mem_happ ok (sv_bd ok hr) hxs t ht
   have h3 := h1 y hy
   have hb := shift_bd ok hs (z.rule x.2.2)
   unfold farT at h3
   unfold AscG Zn.hap1
   dsimp only
   omega
theorem TT_gap {z : Zn} (ok : TailOk z) : z.TT.Pairwise AscG :=
 (happ_gap ok ⟨ok.s1, ok.s2⟩ evT_in (evT_far ok.far _)).sublist (trans_sub _ _ _)
theorem count_gap {d a b : Int} (hd : 0 < d) : ∀ {l : List (Int × Trn)}, l.Pairwise (fun x y => x.2.at_ + d ≤ y.2.at_) → (∀ x ∈ l, a ≤ x.2.at_ ∧ x.2.at_ < b) → l ≠ [] → (l.length - 1 : Int) * d < b - a
 | [], _, _, h => absurd rfl h
 | [x], _, h, _ => by
  have := h x List.mem_cons_self
  simp
  omega
 | x :: y :: l, hp, h, _ => by
  obtain ⟨h1, h2⟩ := List.pairwise_cons.1 hp
  have hx := h x List.mem_cons_self
  have hxy := h1 y List.mem_cons_self
  have ih := count_gap (a := a + d) (b := b) hd h2 (fun u hu => ⟨by have := h1 u hu; omega, (h u (List.mem_cons_of_mem _ hu)).2⟩) (by simp)
  simp only [List.length_cons] at ih ⊢
  have e : (((l.length + 1 + 1 : Nat) : Int) - 1) * d = (((l.length + 1 : Nat) : Int) - 1) * d + d := by
   rw [show (((l.length + 1 + 1 : Nat) : Int) - 1) = (((l.length + 1 : Nat) : Int) - 1) + 1 by omega, Int.add_mul, Int.one_mul]
  omega
theorem tail_count {z : Zn} (ok : TailOk z) {a b : Int} (hab : b - a ≤ 319000000) : (z.TT.filter fun x => decide (inAB a b x)).length ≤ 682 := by
 by_cases h : (z.TT.filter fun x => decide (inAB a b x)) = []
 ·rw [h]; simp
 ·have := count_gap (d := 468000) (by omega) ((TT_gap ok).filter _) (fun x hx => by
   have := (List.mem_filter.1 hx).2
   simp only [decide_eq_true_eq] at this
   exact this) h
  omega
theorem bet_count {z : Zn} (hv : z.valid = true) (ht : z.table.length ≤ 300) {a b : Int} (hab : b - a ≤ 319000000) : (z.betF a b).length ≤ 982 := by
 by_cases hn : z.tail = []
 ·unfold Zn.betF Zn.T
  rw [if_pos hn, List.append_nil]
  have := List.length_filter_le (fun x : Trn => decide (a ≤ x.at_ ∧ x.at_ < b)) z.table
  omega
 ·rw [betF_tail hn, List.length_append, List.length_map]
  have := List.length_filter_le (fun x : Trn => decide (a ≤ x.at_ ∧ x.at_ < b)) z.table
  have := tail_count (valid_tail hv hn) hab
  omega
end Go.Proofs.YtdpbhjaicgkblaaGreatDoor
/- Spans and canonical runs of integers: joining sorted spans. No program in sight. -/
namespace Go.Proofs.YtdpbhjaicgkblaaGreatDoor
set_option linter.unusedSimpArgs false
set_option linter.unusedVariables false
structure Spn where
 fr : Int
 to : Int
instance : Inhabited Spn := ⟨⟨0, 0⟩⟩
def Spn.has (s : Spn) (x : Int) : Prop := s.fr ≤ x ∧ x < s.to
def Spn.ok (s : Spn) : Bool := decide (-4398046511104 ≤ s.fr) && (decide (s.to ≤ 4398046511104) && decide (s.fr < s.to))
theorem Spn.ok_iff {s : Spn} : s.ok = true ↔ -4398046511104 ≤ s.fr ∧ s.to ≤ 4398046511104 ∧ s.fr < s.to := by unfold Spn.ok; simp
def hasL (l : List Spn) (x : Int) : Prop := ∃ s ∈ l, s.has x
theorem hasL_nil (x : Int) : ¬ hasL [] x := fun ⟨_, h, _⟩ => by cases h
theorem hasL_cons {s : Spn} {l : List Spn} {x : Int} : hasL (s :: l) x ↔ s.has x ∨ hasL l x := by unfold hasL; simp
theorem hasL_append {A B : List Spn} {x : Int} : hasL (A ++ B) x ↔ hasL A x ∨ hasL B x := by
 unfold hasL
 constructor
 ·rintro ⟨s, hs, h⟩
  rcases List.mem_append.1 hs with hs | hs
  ·exact .inl ⟨s, hs, h⟩
  ·exact .inr ⟨s, hs, h⟩
 ·rintro (⟨s, hs, h⟩ | ⟨s, hs, h⟩)
  ·exact ⟨s, List.mem_append_left _ hs, h⟩
  ·exact ⟨s, List.mem_append_right _ hs, h⟩
theorem hasL_one {s : Spn} {x : Int} : hasL [s] x ↔ s.has x := by rw [hasL_cons]; exact ⟨fun h => h.resolve_right (hasL_nil x), .inl⟩
/-! ### canonical runs -/
structure Canon (l : List Spn) : Prop where
 asc : l.Pairwise (fun s t => s.to < t.fr)
 ne : ∀ s ∈ l, s.fr < s.to
theorem canon_nil : Canon [] := ⟨List.Pairwise.nil, fun s h => by cases h⟩
theorem canon_one {s : Spn} (h : s.fr < s.to) : Canon [s] := ⟨List.pairwise_singleton _ _, fun t ht => by rw [List.mem_singleton.1 ht]; exact h⟩
theorem Canon.tail {a : Spn} {A : List Spn} (h : Canon (a :: A)) : Canon A := ⟨(List.pairwise_cons.1 h.asc).2, fun s hs => h.ne s (List.mem_cons_of_mem _ hs)⟩
theorem Canon.lo {a : Spn} {A : List Spn} (h : Canon (a :: A)) {x : Int} (hx : hasL A x) : a.to < x := by
 obtain ⟨s, hs, h1, _⟩ := hx
 have := (List.pairwise_cons.1 h.asc).1 s hs
 omega
theorem asc_sub_len : ∀ {A S : List Int}, A.Pairwise (· < ·) → (∀ a ∈ A, a ∈ S) → A.length ≤ S.length
 | [], _, _, _ => Nat.zero_le _
 | a :: A, S, h, hs => by
  obtain ⟨h1, h2⟩ := List.pairwise_cons.1 h
  have hm : a ∈ S := hs a List.mem_cons_self
  have ih := asc_sub_len (A := A) (S := S.erase a) h2 fun b hb => (List.mem_erase_of_ne (by have := h1 b hb; omega)).2 (hs b (List.mem_cons_of_mem _ hb))
  have e := List.length_erase_of_mem hm
  have : 0 < S.length := List.length_pos_of_mem hm
  simp only [List.length_cons]
  omega
theorem Canon.froms {l : List Spn} (h : Canon l) : (l.map Spn.fr).Pairwise (· < ·) := by
 rw [List.pairwise_map]
 refine (List.pairwise_iff_getElem.2 fun i j hi hj hij => ?_)
 have h1 := List.pairwise_iff_getElem.1 h.asc i j hi hj hij
 have h2 := h.ne _ (List.getElem_mem hi)
 omega
theorem Canon.len {l : List Spn} (h : Canon l) {S : List Int} (hs : ∀ r ∈ l, r.fr ∈ S) : l.length ≤ S.length := by
 have := asc_sub_len (A := l.map Spn.fr) (S := S) h.froms fun a ha => by
  obtain ⟨r, hr, rfl⟩ := List.mem_map.1 ha
  exact hs r hr
 rwa [List.length_map] at this
def addRun (out : List Spn) (s : Spn) : List Spn :=
 if 0 < out.length ∧ s.fr ≤ (out[out.length - 1]!).to then out.set (out.length - 1) ⟨(out[out.length - 1]!).fr, max (out[out.length - 1]!).to s.to⟩ else out ++ [s]
theorem addRun_nil (s : Spn) : addRun [] s = [s] := by unfold addRun; rw [if_neg (by simp)]; rfl
theorem addRun_snoc (o : List Spn) (r s : Spn) : addRun (o ++ [r]) s = if s.fr ≤ r.to then o ++ [⟨r.fr, max r.to s.to⟩] else o ++ [r] ++ [s] := by
 have e1 : (o ++ [r]).length - 1 = o.length := by simp
 have e2 : (o ++ [r])[(o ++ [r]).length - 1]! = r := by
  rw [e1, getElem!_pos (o ++ [r]) o.length (by simp)]
  simp
 unfold addRun
 rw [e2, e1]
 by_cases h : s.fr ≤ r.to
 ·rw [if_pos ⟨by simp, h⟩, if_pos h, List.set_append_right _ _ (Nat.le_refl _)]
  simp
 ·rw [if_neg (by simp [h]), if_neg h]
structure Joined (out l : List Spn) : Prop where
 c : Canon out
 m : ∀ x, hasL out x ↔ hasL l x
 f : ∀ r ∈ out, ∃ s ∈ l, r.fr = s.fr
theorem joined_nil : Joined [] [] := ⟨canon_nil, fun _ => Iff.rfl, fun r h => by cases h⟩
theorem snoc_cases {α : Type} (l : List α) : l = [] ∨ ∃ o r, l = o ++ [r] := by
 by_cases h : l = []
 ·exact .inl h
 ·exact .inr ⟨l.dropLast, l.getLast h, (List.dropLast_concat_getLast h).symm⟩
theorem joined_step {out l : List Spn} {s : Spn} (h : Joined out l) (hs : s.fr < s.to) (hle : ∀ t ∈ l, t.fr ≤ s.fr) : Joined (addRun out s) (l ++ [s]) := by
 rcases snoc_cases out with rfl | ⟨o, r, rfl⟩
 ·rw [addRun_nil]
  refine ⟨canon_one hs, fun x => ?_, fun r hr => ⟨s, by simp, by rw [List.mem_singleton.1 hr]⟩⟩
  rw [hasL_append, ← h.m x]
  exact ⟨.inr, fun h => h.resolve_left (hasL_nil x)⟩
 ·obtain ⟨t, ht, hrt⟩ := h.f r (by simp)
  have hfr := hle t ht
  have hr := h.c.ne r (by simp)
  have hasc := List.pairwise_append.1 h.c.asc
  rw [addRun_snoc]
  by_cases hc : s.fr ≤ r.to
  ·rw [if_pos hc]
   refine ⟨⟨List.pairwise_append.2 ⟨hasc.1, List.pairwise_singleton _ _, fun u hu v hv => ?_⟩, fun u hu => ?_⟩, fun x => ?_, fun u hu => ?_⟩
   ·rw [List.mem_singleton.1 hv]
    exact hasc.2.2 u hu r (List.mem_singleton_self _)
   ·rcases List.mem_append.1 hu with hu | hu
    ·exact h.c.ne u (List.mem_append_left _ hu)
    ·rw [List.mem_singleton.1 hu]; dsimp only; omega
   ·rw [hasL_append, hasL_append, ← h.m x, hasL_append, hasL_one, hasL_one, hasL_one, or_assoc]
    refine or_congr Iff.rfl ?_
    unfold Spn.has
    dsimp only
    omega
   ·rcases List.mem_append.1 hu with hu | hu
    ·obtain ⟨v, hv, e⟩ := h.f u (List.mem_append_left _ hu)
     exact ⟨v, List.mem_append_left _ hv, e⟩
    ·rw [List.mem_singleton.1 hu]
     exact ⟨t, List.mem_append_left _ ht, hrt⟩
  ·rw [if_neg hc]
   refine ⟨⟨List.pairwise_append.2 ⟨h.c.asc, List.pairwise_singleton _ _, fun u hu v hv => ?_⟩, fun u hu => ?_⟩, fun x => ?_, fun u hu => ?_⟩
   ·rw [List.mem_singleton.1 hv]
    rcases List.mem_append.1 hu with hu | hu
    ·have := hasc.2.2 u hu r (List.mem_singleton_self _)
     omega
    ·rw [List.mem_singleton.1 hu]; omega
   ·rcases List.mem_append.1 hu with hu | hu
    ·exact h.c.ne u hu
    ·rw [List.mem_singleton.1 hu]; exact hs
   ·rw [hasL_append, h.m x, hasL_append]
   ·rcases List.mem_append.1 hu with hu | hu
    ·obtain ⟨v, hv, e⟩ := h.f u hu
     exact ⟨v, List.mem_append_left _ hv, e⟩
    ·exact ⟨s, List.mem_append_right _ (List.mem_singleton_self _), by rw [List.mem_singleton.1 hu]⟩
def joinF (l : List Spn) : List Spn := l.foldl addRun []
theorem joinF_snoc (l : List Spn) (s : Spn) : joinF (l ++ [s]) = addRun (joinF l) s := by unfold joinF; rw [List.foldl_append]; rfl
theorem joined {l : List Spn} (hA : l.Pairwise (fun s t => s.fr ≤ t.fr)) (hn : ∀ s ∈ l, s.fr < s.to) : Joined (joinF l) l := by
 have : ∀ k, k ≤ l.length → Joined (joinF (l.take k)) (l.take k) := by
  intro k
  induction k with
  | zero => intro _; rw [List.take_zero]; exact joined_nil
  | succ k ih =>
   intro hk
   have hlt : k < l.length := hk
   rw [List.take_succ_eq_append_getElem hlt, joinF_snoc]
   refine joined_step (ih (by omega)) (hn _ (List.getElem_mem hlt)) fun t ht => ?_
   obtain ⟨i, hi, rfl⟩ := List.mem_take_iff_getElem.1 ht
   exact List.pairwise_iff_getElem.1 hA i k (by omega) hlt (by omega)
 have h := this l.length (Nat.le_refl _)
 rwa [List.take_length] at h
structure UnionOk (b : Spn) (l out : List Spn) : Prop where
 c : Canon out
 m : ∀ x, hasL out x ↔ hasL l x ∧ b.has x
 f : ∀ r ∈ out, ∃ s ∈ l, r.fr = max s.fr b.fr
end Go.Proofs.YtdpbhjaicgkblaaGreatDoor
/- Skipped and repeated local times: what the lists of local.Gaps and local.Folds contain. No program in sight. -/
namespace Go.Proofs.YtdpbhjaicgkblaaGreatDoor
set_option linter.unusedSimpArgs false
set_option linter.unusedVariables false
open Go.Sort
/-! ### pieces follow one another -/
def contig : Int → List Piece → Int → Prop
 | f, [], b => f = b
 | f, p :: ps, b => p.fr = f ∧ f < p.to ∧ contig p.to ps b
theorem piecesF_contig {b : Int} : ∀ {f o : Int} {l : List Trn}, f < b → l.Pairwise (fun x y => x.at_ < y.at_) → (∀ x ∈ l, f ≤ x.at_ ∧ x.at_ < b) → contig f (piecesF b f o l) b
 | f, o, [], hf, _, _ => ⟨rfl, hf, rfl⟩
 | f, o, x :: xs, hf, hA, hl => by
  obtain ⟨g1, g2⟩ := List.pairwise_cons.1 hA
  have hx := hl x List.mem_cons_self
  rw [piecesF]
  split
  ·rename_i hlt
   exact ⟨rfl, hlt, piecesF_contig hx.2 g2 fun y hy => ⟨Int.le_of_lt (g1 y hy), (hl y (List.mem_cons_of_mem _ hy)).2⟩⟩
  ·exact piecesF_contig hf g2 fun y hy => hl y (List.mem_cons_of_mem _ hy)
theorem pieces_contig {z : Zn} (hv : z.valid = true) {a b : Int} (hab : a < b) : contig a (z.pieces a b) b := by
 unfold Zn.pieces
 rw [if_pos hab]
 exact piecesF_contig hab (bet_asc hv a b) bet_mem
theorem contig_le {b : Int} : ∀ {ps : List Piece} {f : Int}, contig f ps b → f ≤ b
 | [], _, h => Int.le_of_eq h
 | p :: ps, f, ⟨_, h2, h3⟩ => by have := contig_le h3; omega
theorem mem_skipsF : ∀ {ps : List Piece} {o f b : Int} {x : Skip}, contig f ps b → x ∈ skipsF o false ps → f ≤ x.at_ ∧ x.at_ < b ∧ x.bef < x.aft ∧ (x.bef = o ∨ ∃ p ∈ ps, x.bef = p.off) ∧ ∃ p ∈ ps, x.aft = p.off ∧ x.at_ = p.fr
 | [], _, _, _, _, _, h => by cases h
 | p :: ps, o, f, b, x, ⟨h1, h2, h3⟩, h => by
  have hb : p.to ≤ b := contig_le h3
  rw [skipsF] at h
  have key : x ∈ skipsF p.off false ps → f ≤ x.at_ ∧ x.at_ < b ∧ x.bef < x.aft ∧ (x.bef = o ∨ ∃ p' ∈ p :: ps, x.bef = p'.off) ∧ ∃ p' ∈ p :: ps, x.aft = p'.off ∧ x.at_ = p'.fr := fun h => by
   obtain ⟨g1, g2, g3, g4, q, hq, g5⟩ := mem_skipsF (x := x) h3 h
   refine ⟨by omega, g2, g3, .inr ?_, q, List.mem_cons_of_mem _ hq, g5⟩
   rcases g4 with g4 | ⟨q, hq, g4⟩
   ·exact ⟨p, List.mem_cons_self, g4⟩
   ·exact ⟨q, List.mem_cons_of_mem _ hq, g4⟩
  split at h
  ·rename_i hc
   rcases List.mem_cons.1 h with rfl | h
   ·exact ⟨by dsimp only; omega, by dsimp only; omega, hc.2, .inl rfl, p, List.mem_cons_self, rfl, rfl⟩
   ·exact key h
  ·exact key h
theorem mem_skips {z : Zn} (hv : z.valid = true) {a b : Int} (hab : a < b) {x : Skip} (h : x ∈ z.skips a b) : a ≤ x.at_ ∧ x.at_ < b ∧ x.bef < x.aft ∧ (-93600 < x.bef ∧ x.bef < 93600) ∧ (-93600 < x.aft ∧ x.aft < 93600) := by
 have hc := pieces_contig hv hab
 have hk := pieces_ok hv a b
 have ho : ∀ p ∈ z.pieces a b, -93600 < p.off ∧ p.off < 93600 := fun p hp => by
  have h1 := hk.bd p hp
  rw [← hk.off p hp p.fr (Int.le_refl _) h1.2.1]
  exact off_bd hv _
 unfold Zn.skips at h
 generalize z.pieces a b = ps at *
 cases ps with
 | nil => cases h
 | cons p ps =>
  rw [skipsF, if_neg (by simp)] at h
  obtain ⟨g1, g2, g3, g4, q, hq, g5, _⟩ := mem_skipsF hc.2.2 h
  have h1 := hc.1
  have h2 := hc.2.1
  refine ⟨by omega, g2, g3, ?_, by rw [g5]; exact ho q (List.mem_cons_of_mem _ hq)⟩
  rcases g4 with g4 | ⟨q, hq, g4⟩
  ·rw [g4]; exact ho p List.mem_cons_self
  ·rw [g4]; exact ho q (List.mem_cons_of_mem _ hq)
/-! ### instants by the pieces of a longer span -/
theorem off_of {z : Zn} (hv : z.valid = true) {a b : Int} {p : Piece} (hp : p ∈ z.pieces a b) : (-93600 < p.off ∧ p.off < 93600) ∧ a ≤ p.fr ∧ p.fr < p.to ∧ p.to ≤ b := by
 have hk := pieces_ok hv a b
 have h1 := hk.bd p hp
 refine ⟨?_, h1⟩
 rw [← hk.off p hp p.fr (Int.le_refl _) h1.2.1]
 exact off_bd hv _
end Go.Proofs.YtdpbhjaicgkblaaGreatDoor
/- local.instants. -/
namespace Go.Proofs.YtdpbhjaicgkblaaGreatDoor
set_option linter.unusedSimpArgs false
set_option linter.unusedVariables false
open Go.RowKit Go.Shelf Go.ChangeShapes Go.WideShapes Go.ChangeAt
attribute [local go_sem] Oper.semAt_some
theorem mild_wide {z : Zn} (hv : z.valid = true) (ht : z.table.length ≤ 300) {a b : Int} (hb : b - a ≤ 318000000) : Mild z (wideA a) (wideB b) := by
 refine ⟨hv, by unfold wideA; omega, by unfold wideB; omega, by unfold wideA wideB; omega, ?_⟩
 have := bet_count hv ht (a := wideA a) (b := wideB b) (by unfold wideA wideB; omega)
 omega
theorem piecesF_len {b : Int} : ∀ (f o : Int) (l : List Trn), (piecesF b f o l).length ≤ l.length + 1
 | f, o, [] => by simp [piecesF]
 | f, o, x :: xs => by
  rw [piecesF]
  split
  ·have := piecesF_len (b := b) x.at_ x.ty.off xs
   simp
   omega
  ·have := piecesF_len (b := b) f x.ty.off xs
   simp
   omega
theorem pieces_len {z : Zn} {a b : Int} (h : Mild z a b) : (z.pieces a b).length ≤ 1001 := by
 unfold Zn.pieces
 split
 ·have := piecesF_len (b := b) a (z.offF a) (z.betF a b)
  have := h.l
  omega
 ·simp
def instW (l : Int) (ps : List Piece) : List Int := ps.filterMap fun p => if p.fr ≤ wrap64 (l - p.off) ∧ wrap64 (l - p.off) < p.to then some (wrap64 (l - p.off)) else none
theorem instW_snoc (l : Int) (ps : List Piece) (p : Piece) : instW l (ps ++ [p]) = instW l ps ++ (if p.fr ≤ wrap64 (l - p.off) ∧ wrap64 (l - p.off) < p.to then [wrap64 (l - p.off)] else []) := by
 unfold instW
 rw [List.filterMap_append]
 congr 1
 by_cases h : p.fr ≤ wrap64 (l - p.off) ∧ wrap64 (l - p.off) < p.to
 ·rw [if_pos h, List.filterMap_cons, if_pos h]; rfl
 ·rw [if_neg h, List.filterMap_cons, if_neg h]; rfl
theorem instW_F {l : Int} {ps : List Piece} (hl : -62135596800 ≤ l ∧ l < 253402300800) (h : ∀ p ∈ ps, -93600 < p.off ∧ p.off < 93600) : instW l ps = instF l ps := by
 unfold instW instF
 induction ps with
 | nil => rfl
 | cons p ps ih =>
  have := h p List.mem_cons_self
  rw [List.filterMap_cons, List.filterMap_cons, show wrap64 (l - p.off) = l - p.off by unfold wrap64; omega, ih fun q hq => h q (List.mem_cons_of_mem _ hq)]
theorem instW_len (l : Int) (ps : List Piece) : (instW l ps).length ≤ ps.length := List.length_filterMap_le _ _
theorem own_formN {W : World} {base : Nat} {e : TypeId} {size n : Nat} {v : Value} {xs : List Value} (h : W.ownsRow base e size v n xs) : ∃ A c, v = .slice A n c := by
 rcases h.2 with ⟨rfl, rfl⟩ | ⟨g, cap, cur, rfl, _⟩
 ·exact ⟨_, _, rfl⟩
 ·exact ⟨_, _, rfl⟩
theorem ownT_size {β : Type} (T : TypeId) (D n : Nat) : OwnT T D (fun (_ : β) W => n ≤ W.heap.size) := fun _ _ _ _ h hg _ => Nat.le_trans h hg.size
def encI (t : Int) : Value := .int .i64 t
def InsI (Bo Bl base : Nat) (l : Int) (pre : List Piece) (W : World) : Prop := BoxRow W Bo 179 3 1 base (instW l pre).length ((instW l pre).map encI) ∧ Blk W Bl #[.int .i64 l] 3
theorem insI_own (D Bo Bl base : Nat) (l : Int) : OwnT 61 D (InsI Bo Bl base l) := OwnT.and (boxRow_ownT _ _ (by decide) (by decide)) (blk_ownT _ (by decide))
theorem info_int : (Tryz.prog.info? 3).map (fun i => (i.zero, i.size, i.bytes)) = some (some (.int .i64 0), 1, 8) := by kernel_rfl
set_option maxRecDepth 100000 in
set_option maxHeartbeats 4000000 in
theorem instants_any (z : Zn) (vT vR : Value) (l : Int) (w : World) (hm : HasMax w) (hT : Rd Trn.cells 4 w vT z.table) (hR : Rd Rule.cells 11 w vR z.tail) (hfs : z.form.size < 4294967281) (hll : z.tail.length ≤ 12) (htl : z.table.length ≤ 300) (hv : z.valid = true) (hl : inT l = true) :
  Calls Tryz.prog 121 #[z.v vT vR, .int .i64 l] w fun e w' => ∃ v, e = .returned v ∧ w'.ownsRow w.heap.size 3 1 v (z.insts l).length ((z.insts l).map encI) ∧ Below w.heap.size w w' := by
 obtain ⟨l1, l2⟩ : -62135596800 ≤ l ∧ l < 253402300800 := by unfold inT at hl; simpa using hl
 have hM := mild_wide hv htl (a := l) (b := l + 1) (by omega)
 have HST := Lib.hid (fun Bi Bz W (hb : Below w.heap.size w W) hz hi => pieces_stops 4 (by omega) Bi Bz z vT vR (wideA l) (wideB (l + 1)) W hM hll hfs (hm.on hb) (hT.on hb) (hR.on hb) hz hi)
 have HOK := Lib.hid (show z.insts l = instF l (z.pieces (wideA l) (wideB (l + 1))) from rfl)
 have HBD := Lib.hid (instW_F (l := l) ⟨l1, l2⟩ fun p hp => (off_of hv hp (a := wideA l) (b := wideB (l + 1))).1)
 have HLN := Lib.hid (pieces_len hM)
 have HWD := Lib.hid (fun W => wide_any l (l + 1) W ⟨by omega, by omega⟩ ⟨by omega, by omega⟩)
 obtain ⟨AT, cT, rfl⟩ := rd_vf hT
 obtain ⟨AR, cR, rfl⟩ := rd_vf hR
 have HPC := Lib.hid (fun W => pieces_any z AT AR z.table.length z.tail.length cT cR (wideA l) (wideB (l + 1)) W)
 unfold PcEnd at HPC
 clear hT hR hm hM hv
 generalize z.insts l = IL at *
 generalize hPP : z.pieces (wideA l) (wideB (l + 1)) = PL at *
 unfold Zn.v at HPC ⊢
 refine (callsIn_wide (n := 5)).1 ?_
 refine callsIn_of_wp_marks Tryz.func121 rfl trivial ?_ rfl
 simp only [Tryz.ntmps121, List.size_toArray, List.length_cons, List.length_nil, Nat.reduceAdd, Nat.reduceSub, Array.replicate_succ, Array.replicate_zero, List.push_toArray, List.append_toArray, List.nil_append, List.cons_append]
 have b1 := Blk.new w #[.string z.nm, .int .i64 z.first.off, .int .i64 z.first.sv, .string z.first.nm, .slice AT z.table.length cT, .slice AR z.tail.length cR, .int .i64 z.off, .string z.form, .int .i64 z.year] 65
 have b2 := Blk.new (w.alloc (.cells #[.string z.nm, .int .i64 z.first.off, .int .i64 z.first.sv, .string z.first.nm, .slice AT z.table.length cT, .slice AR z.tail.length cR, .int .i64 z.off, .string z.form, .int .i64 z.year] 65)) #[.int .i64 l] 3
 have b3 := Blk.new ((w.alloc (.cells #[.string z.nm, .int .i64 z.first.off, .int .i64 z.first.sv, .string z.first.nm, .slice AT z.table.length cT, .slice AR z.tail.length cR, .int .i64 z.off, .string z.form, .int .i64 z.year] 65)).alloc (.cells #[.int .i64 l] 3)) #[.slice none 0 0] 179
 have hB2 : Below w.heap.size w (((w.alloc (.cells #[.string z.nm, .int .i64 z.first.off, .int .i64 z.first.sv, .string z.first.nm, .slice AT z.table.length cT, .slice AR z.tail.length cR, .int .i64 z.off, .string z.form, .int .i64 z.year] 65)).alloc (.cells #[.int .i64 l] 3)).alloc (.cells #[.slice none 0 0] 179)) := (((Below.refl _ _).alloc (Nat.le_refl _) _).alloc (by simp) _).alloc (by simp; omega) _
 have hsz2 : w.heap.size + 1 + 1 < (((w.alloc (.cells #[.string z.nm, .int .i64 z.first.off, .int .i64 z.first.sv, .string z.first.nm, .slice AT z.table.length cT, .slice AR z.tail.length cR, .int .i64 z.off, .string z.form, .int .i64 z.year] 65)).alloc (.cells #[.int .i64 l] 3)).alloc (.cells #[.slice none 0 0] 179)).heap.size := by simp
 simp only [World.size_alloc] at b2 b3
 have b1 := (b1.alloc (.cells #[.int .i64 l] 3)).alloc (.cells #[.slice none 0 0] 179)
 have b2 := b2.alloc (.cells #[.slice none 0 0] 179)
 gi_wp2
 generalize (((w.alloc (.cells #[.string z.nm, .int .i64 z.first.off, .int .i64 z.first.sv, .string z.first.nm, .slice AT z.table.length cT, .slice AR z.tail.length cR, .int .i64 z.off, .string z.form, .int .i64 z.year] 65)).alloc (.cells #[.int .i64 l] 3)).alloc (.cells #[.slice none 0 0] 179)) = W2 at *
 have z0 := b1.cl 0 _ rfl
 have z1 := b1.cl 1 _ rfl
 have z2 := b1.cl 2 _ rfl
 have z3 := b1.cl 3 _ rfl
 have z4 := b1.cl 4 _ rfl
 have z5 := b1.cl 5 _ rfl
 have z6 := b1.cl 6 _ rfl
 have z7 := b1.cl 7 _ rfl
 have z8 := b1.cl 8 _ rfl
 have l0 := b2.cl 0 _ rfl
 have hsz0 : w.heap.size < W2.heap.size := by omega
 have hsz1 : w.heap.size + 1 < W2.heap.size := by omega
 have hdr : Below W2.heap.size W2 W2.drew := below_drewN (Below.refl W2.heap.size W2) 1
 have HS := Lib.hid (fun w' (hb : Below W2.heap.size W2 w') => And.intro hb (And.intro ((hb.cell (p := ⟨w.heap.size, 0, none⟩) hsz0).trans z0) (And.intro ((hb.cell (p := ⟨w.heap.size, 1, none⟩) hsz0).trans z1) (And.intro ((hb.cell (p := ⟨w.heap.size, 2, none⟩) hsz0).trans z2) (And.intro ((hb.cell (p := ⟨w.heap.size, 3, none⟩) hsz0).trans z3) (And.intro ((hb.cell (p := ⟨w.heap.size, 4, none⟩) hsz0).trans z4) (And.intro ((hb.cell (p := ⟨w.heap.size, 5, none⟩) hsz0).trans z5) (And.intro ((hb.cell (p := ⟨w.heap.size, 6, none⟩) hsz0).trans z6) (And.intro ((hb.cell (p := ⟨w.heap.size, 7, none⟩) hsz0).trans z7) (And.intro ((hb.cell (p := ⟨w.heap.size, 8, none⟩) hsz0).trans z8) ((hb.cell (p := ⟨w.heap.size + 1, 0, none⟩) hsz1).trans l0)))))))))))
 have hw1 : IntKind.i64.wrap (l + 1) = l + 1 := by rw [IntKind.wrap_i64]; omega
 refine wpIn_wide.2 (wp_region_noPanic ?_)
 go_region_held3 (fun w' => Below W2.heap.size W2 w' ∧ w'.cell? ⟨w.heap.size, 0, none⟩ = some (.string z.nm) ∧ w'.cell? ⟨w.heap.size, 1, none⟩ = some (.int .i64 z.first.off) ∧ w'.cell? ⟨w.heap.size, 2, none⟩ = some (.int .i64 z.first.sv) ∧ w'.cell? ⟨w.heap.size, 3, none⟩ = some (.string z.first.nm) ∧ w'.cell? ⟨w.heap.size, 4, none⟩ = some (.slice AT z.table.length cT) ∧ w'.cell? ⟨w.heap.size, 5, none⟩ = some (.slice AR z.tail.length cR) ∧ w'.cell? ⟨w.heap.size, 6, none⟩ = some (.int .i64 z.off) ∧ w'.cell? ⟨w.heap.size, 7, none⟩ = some (.string z.form) ∧ w'.cell? ⟨w.heap.size, 8, none⟩ = some (.int .i64 z.year) ∧ w'.cell? ⟨w.heap.size + 1, 0, none⟩ = some (.int .i64 l)) (first | exact HS.out _ hdr | exact HS.out _ K8 | exact HS.out _ K6 | go_keep)
  (first | (go_at_call 124; (try rw [hw1]); refine (HWD.out _).mono ?_; rintro e w6 ⟨rfl, hb6⟩; have K6 := hdr.trans (hb6.mono hdr.size); clear HWD) | (go_at_call 138; refine (HPC.out _).mono ?_; rintro e w8 ⟨Bi, Bz, rfl, hzB, hiB, hBi0, hb8⟩; have K8 := K6.trans (hb8.mono K6.size)))
 all_goals
  have hB8 : Below w.heap.size w w8 := hB2.trans (K8.mono (Nat.le_of_lt hsz0))
  have c2 := b2.below K8 hsz1
  have c3 := b3.below K8 hsz2
  have hs8 := K8.size
  have hBi1 := hiB.lt
  have hBi2 : w.heap.size + 1 + 1 < Bi := by have := K6.size; omega
  have HSS := Lib.hid (HST.out Bi Bz w8 hB8 hzB hiB)
  clear HS z0 z1 z2 z3 z4 z5 z6 z7 z8 l0 b1 b2 b3 hdr HPC HST hb6 hb8 K6 hB2
  obtain ⟨i0, hi0, hz0, hz1, hz2⟩ := info_parts info_int
  refine NoPanic.normal ?_
  gi_wp2
  refine wpIn_range_T (T := 61) rfl (by omega) (gf := 154) (lb := #[.pointer (some ⟨Bi, 0, none⟩), .pointer (some ⟨Bz, 0, none⟩)]) rfl trivial (enters_of Tryz.func154 (by kernel_rfl) rfl)
   HSS.out (fun h k => h.trans k) (fun W l o o' _ h hc => kpP_b W l o o' h hc) (Below.refl _ _) (fun _ => rfl)
   (fun pre W => InsI (w.heap.size + 1 + 1) (w.heap.size + 1) w8.heap.size l pre W ∧ Below w.heap.size w W ∧ w8.heap.size ≤ W.heap.size)
   (fun _ _ _ => False)
   (OwnT.and (insI_own _ _ _ _ _) (OwnT.and (ownT_below (by omega) (by omega)) (ownT_size _ _ _)))
   (fun _ => fun _ _ _ _ h _ _ => h)
   ⟨⟨⟨_, c3, World.ownsRow_nil _ _ _ _⟩, c2⟩, hB8, Nat.le_refl _⟩
   (fun x a' W => ∃ Bx, w.heap.size + 1 + 1 < Bx ∧ Blk W Bx #[.int .i64 x.fr, .int .i64 x.to] 189 ∧ a' = { tmps := #[.agg #[.string z.nm, .int .i64 z.first.off, .int .i64 z.first.sv, .string z.first.nm, .slice AT z.table.length cT, .slice AR z.tail.length cR, .int .i64 z.off, .string z.form, .int .i64 z.year], .int .i64 l, .pointer (some ⟨w.heap.size, 0, none⟩), .pointer (some ⟨w.heap.size + 1, 0, none⟩), .slice none 0 0, .pointer (some ⟨w.heap.size + 1 + 1, 0, none⟩), .pointer (some ⟨Bx, 0, none⟩), .int .i64 x.off, undef, .agg #[.string z.nm, .int .i64 z.first.off, .int .i64 z.first.sv, .string z.first.nm, .slice AT z.table.length cT, .slice AR z.tail.length cR, .int .i64 z.off, .string z.form, .int .i64 z.year], .int .i64 l, .int .i64 l, .int .i64 (l + 1), .agg #[.int .i64 l, .int .i64 (l + 1)], .agg #[.int .i64 (wideA l), .int .i64 (wideB (l + 1))], .func (.func 154) #[] #[.pointer (some ⟨Bi, 0, none⟩), .pointer (some ⟨Bz, 0, none⟩)], .agg #[.int .i64 x.fr, .int .i64 x.to], .int .i64 x.off, undef, undef, undef, undef, undef, undef, undef, undef, undef, undef, undef, undef, undef, undef, undef, undef, undef, undef], defers := [] })
   (fun x a' => ownT_ex fun Bx => OwnT.and (ownT_pure _ _ _) (OwnT.and (blk_ownT _ (by decide)) (ownT_pure _ _ _))) ?assign ?body ?done ?stop
  case assign =>
   rintro l1 pre x W K ⟨hi, hb, hW8⟩ hK
   unfold encP
   gi_wp2
   exact hK _ _ ((KeepsOthers.alloc _ _).from _) ((KpP.refl _ _).alloc _) ⟨insI_own 0 _ _ _ _ pre W _ none hi (World.grownBy_alloc W _ none) (fun r e => by cases e), hb.alloc hb.size _, (by simp; omega)⟩ ⟨W.heap.size, (by omega), Blk.new W _ _, rfl⟩
  case body =>
   rintro l1 pre x a' W ⟨⟨⟨v, hv, hr⟩, hl⟩, hb, hW8⟩ ⟨Bx, hBx, bX, rfl⟩ hlt
   obtain ⟨A, c, rfl⟩ := own_formN hr
   have x0 := bX.cl 0 _ rfl
   have x1 := bX.cl 1 _ rfl
   have l0 := hl.cl 0 _ rfl
   have v0 := hv.cl 0 _ rfl
   have vf := hv.frozen 0
   have hln := instW_len l pre
   have hL := HLN.out
   have HSN := Lib.hid (instW_snoc l pre x)
   by_cases c1 : x.fr ≤ wrap64 (l - x.off)
   ·by_cases c2 : wrap64 (l - x.off) < x.to
    ·have d1 : decide (x.fr ≤ wrap64 (l - x.off)) = true := decide_eq_true c1
     have d2 : decide (wrap64 (l - x.off) < x.to) = true := decide_eq_true c2
     gi_wp2_with (gi_at_builtin; refine wpListIn_append_own _ rfl _ _ 179 rfl w8.heap.size 3 i0 _ 1 8 Tryz.underlying179 hi0 hz0 hz1 hz2 rfl (by decide) _ _ _ rfl (own_on hr ((Below.refl W.heap.size W).alloc (Nat.le_refl _) (.cells #[.int .i64 (wrap64 (l - x.off))] 3))) ⟨W.heap.size, 0, none⟩ 1 1 [encI (wrap64 (l - x.off))] rfl rfl (cell_one_new _ _ _) (by simp [Value.oneCell', encI]) (by simp only [maxLen]; omega) (by omega) (by simp; omega) ?_; intro v' w1 hown' hgrow _; obtain ⟨hv1, hv2, hr2, hk2, hp2, hb2⟩ := appended hv hr (by decide) (by decide) (by decide) (by decide) (by decide) (by omega) hBi1 (Nat.le_refl _) (by omega) (by omega) ((Below.refl W.heap.size W).alloc (Nat.le_refl _) _) hown' hgrow; obtain ⟨g', cap', rfl⟩ := ownsRow_succ hown'; have hc1 := hv1.cl 0 _ rfl; have hf1 := hv1.frozen 0)
     refine ⟨hk2.from _, hp2, ⟨⟨_, hv2, ?_⟩, hl.below hb2 (by omega)⟩, hb.trans (hb2.mono (by omega)), Nat.le_trans hW8 hb2.size⟩
     rw [HSN.out, if_pos ⟨c1, c2⟩, List.length_append, List.map_append]
     exact hr2
    ·have d1 : decide (x.fr ≤ wrap64 (l - x.off)) = true := decide_eq_true c1
     have d2 : decide (wrap64 (l - x.off) < x.to) = false := decide_eq_false c2
     gi_wp2
     refine ⟨KeepsFrom.refl _ _, KpP.refl _ _, ⟨⟨_, hv, ?_⟩, hl⟩, hb, hW8⟩
     rw [HSN.out, if_neg (by rintro ⟨_, h2⟩; omega), List.append_nil]
     exact hr
   ·have d1 : decide (x.fr ≤ wrap64 (l - x.off)) = false := decide_eq_false c1
    gi_wp2
    refine ⟨KeepsFrom.refl _ _, KpP.refl _ _, ⟨⟨_, hv, ?_⟩, hl⟩, hb, hW8⟩
    rw [HSN.out, if_neg (by rintro ⟨h1, _⟩; omega), List.append_nil]
    exact hr
  case done =>
   rintro D ys W hD hys ⟨⟨⟨v, hv, hr⟩, hl⟩, hb, _⟩ hK
   subst hys
   obtain ⟨A, c, rfl⟩ := own_formN hr
   have v0 := hv.cl 0 _ rfl
   have HR := Lib.hid (own_base (ownsRow_putObj hr (.deferred none) hK rfl) (show w.heap.size ≤ w8.heap.size by omega))
   rw [HBD.out, ← HOK.out] at HR v0
   gi_wp2
   refine ⟨by simp, .inl ⟨_, _, rfl, run_takeDeferred hK, ?_⟩⟩
   refine ⟨_, results_tmp rfl _ _ _, ?_⟩
   exact ⟨.slice A IL.length c, rfl, HR.out, hb.trans (belowK_b (w := w8) (by omega) W D _ _ hD hK rfl rfl)⟩
  case stop =>
   rintro D c pre W hD _ h hK
   exact h.elim
end Go.Proofs.YtdpbhjaicgkblaaGreatDoor

/- A gap that is alone: where the policies lead. No program in sight. -/
import Derived.Test.YtoonaidpmahgcaaGreatGLa
namespace Go.Proofs.YtoonaidpmahgcaaGreat
set_option linter.unusedSimpArgs false
set_option linter.unusedVariables false
open Go.Sort

/-- a transition that is alone for two days -/
structure Alone (z : Zn) (x : Trn) : Prop where
  v : z.valid = true
  lo : -62135596800 + 374400 ≤ x.at_
  hi : x.at_ ≤ 253402300800 - 374400
  one : z.betF (x.at_ - 187200) (x.at_ + 187200) = [x]
theorem alone_of {z : Zn} (hv : z.valid = true) {t : Int} {x : Trn} (ht : -62135596800 + 374400 ≤ t) (hn : z.nextF t = some x) (hx : x.at_ ≤ 253402300800 - 374400) (hl : (z.betF (x.at_ - 187200) (x.at_ + 187200)).length = 1) : Alone z x := by
  have h1 := List.mem_of_find?_eq_some hn
  have h2 : decide (t < x.at_) = true := by
    unfold Zn.nextF at hn
    have := List.find?_some hn
    exact this
  simp only [decide_eq_true_eq] at h2
  have h3 : x ∈ z.betF (x.at_ - 187200) (x.at_ + 187200) := List.mem_filter.2 ⟨h1, by simp; omega⟩
  refine ⟨hv, by omega, hx, ?_⟩
  match h : z.betF (x.at_ - 187200) (x.at_ + 187200), hl, h3 with
  | [y], _, h3 => rw [List.mem_singleton.1 h3]
theorem alone_off {z : Zn} {x : Trn} (h : Alone z x) {u : Int} (h1 : x.at_ - 187200 ≤ u) (h2 : u < x.at_ + 187200) : z.offF u = if x.at_ ≤ u then x.ty.off else z.offF (x.at_ - 187200) := by
  unfold Zn.offF
  rw [typF_bet h.v h1 h2, h.one, typL]
  split <;> rfl
theorem alone_before {z : Zn} {x : Trn} (h : Alone z x) : z.offF (x.at_ - 187200) = z.offF (x.at_ - 1) := by
  rw [alone_off h (u := x.at_ - 1) (by omega) (by omega), if_neg (by omega)]
theorem alone_sub {z : Zn} {x : Trn} (h : Alone z x) {a b : Int} (ha : x.at_ - 187200 ≤ a) (ha2 : a ≤ x.at_) (hb : b ≤ x.at_ + 187200) (hb2 : x.at_ < b) : z.betF a b = [x] := by
  have e : z.betF a b = (z.betF (x.at_ - 187200) (x.at_ + 187200)).filter fun y => decide (a ≤ y.at_ ∧ y.at_ < b) := by
    unfold Zn.betF
    rw [List.filter_filter]
    refine List.filter_congr fun y _ => ?_
    rw [← Bool.decide_and, decide_eq_decide]
    omega
  rw [e, h.one]
  rw [List.filter_cons, decide_eq_true (show a ≤ x.at_ ∧ x.at_ < b by omega)]; rfl
structure GapHere (z : Zn) (x : Trn) (l o : Int) : Prop where
  a : Alone z x
  oe : o = z.offF (x.at_ - 1)
  l0 : x.at_ + o ≤ l
  l1 : l < x.at_ + x.ty.off
theorem gap_bd {z : Zn} {x : Trn} {l o : Int} (h : GapHere z x l o) : -93600 < o ∧ o < 93600 ∧ -93600 < x.ty.off ∧ x.ty.off < 93600 := by
  have h1 := off_bd h.a.v (x.at_ - 1)
  have h2 : x ∈ z.T := by
    have : x ∈ z.betF (x.at_ - 187200) (x.at_ + 187200) := by rw [h.a.one]; exact List.mem_singleton_self _
    exact (List.mem_filter.1 this).1
  have h3 := T_ty h.a.v x h2
  have := h.oe
  omega
theorem gap_none {z : Zn} {x : Trn} {l o : Int} (h : GapHere z x l o) : z.insts l = [] := by
  rw [List.eq_nil_iff_forall_not_mem]
  intro t ht
  obtain ⟨_, h2⟩ := (mem_insts h.a.v).1 ht
  have hb := gap_bd h
  have hc := off_bd h.a.v t
  have l0 := h.l0
  have l1 := h.l1
  have ho := h.oe
  have hbef := alone_before h.a
  rw [alone_off h.a (by omega) (by omega)] at h2
  split at h2 <;> omega
theorem gap_skips {z : Zn} {x : Trn} {l o : Int} (h : GapHere z x l o) : z.skips (wideA l) (wideB (l + 1)) = [⟨x.at_, o, x.ty.off⟩] := by
  have hb := gap_bd h
  have l0 := h.l0
  have l1 := h.l1
  have lo := h.a.lo
  have hi := h.a.hi
  have e1 : wideA l = l - 93600 := by unfold wideA; omega
  have e2 : wideB (l + 1) = l + 1 + 93600 := by unfold wideB; omega
  have hbef := alone_before h.a
  have ho : z.offF (l - 93600) = o := by
    rw [alone_off h.a (by omega) (by omega), if_neg (by omega), hbef, h.oe]
  unfold Zn.skips Zn.pieces
  rw [e1, e2, if_pos (by omega), alone_sub h.a (by omega) (by omega) (by omega) (by omega), ho, piecesF, if_pos (by omega), piecesF, skipsF, if_neg (by simp), skipsF, if_pos ⟨rfl, by dsimp only; omega⟩, skipsF]
theorem gap_in {z : Zn} {x : Trn} {l o : Int} (h : GapHere z x l o) : inTB l = true := by
  have hb := gap_bd h
  have l0 := h.l0
  have l1 := h.l1
  have lo := h.a.lo
  have hi := h.a.hi
  exact decide_eq_true (by omega)
theorem gap_res {z : Zn} {x : Trn} {l o : Int} (h : GapHere z x l o) : z.resV l 2 1 = (l - o, 0) ∧ z.resV l 3 1 = (l - x.ty.off, 0) ∧ z.resV l 4 1 = (x.at_, 0) ∧ z.resV l 1 1 = (0, 11) := by
  have hb := gap_bd h
  have l0 := h.l0
  have l1 := h.l1
  have lo := h.a.lo
  have hi := h.a.hi
  have hs : inSkip l ⟨x.at_, o, x.ty.off⟩ = true := decide_eq_true ⟨l0, l1⟩
  have key : ∀ g, z.resF l g 1 = if (gapF g l ⟨x.at_, o, x.ty.off⟩).2 ≠ 0 then (0, (gapF g l ⟨x.at_, o, x.ty.off⟩).2) else if inTB (gapF g l ⟨x.at_, o, x.ty.off⟩).1 = true then ((gapF g l ⟨x.at_, o, x.ty.off⟩).1, 0) else (0, 2) := fun g => by
    unfold Zn.resF
    rw [gap_none h, gap_skips h, if_neg (by decide), if_neg (by decide)]
    rw [List.reverse_singleton, List.find?_cons, hs]
  have i1 : inTB (l - o) = true := decide_eq_true (by omega)
  have i2 : inTB (l - x.ty.off) = true := decide_eq_true (by omega)
  have i3 : inTB x.at_ = true := decide_eq_true (by omega)
  have kV : ∀ g, polB g 1 = true → z.resV l g 1 = z.resF l g 1 := fun g hg => by
    unfold Zn.resV
    rw [if_neg (by rw [h.a.v, hg]; decide), if_neg (by rw [gap_in h]; decide)]
  rw [kV 2 (by decide), kV 3 (by decide), kV 4 (by decide), kV 1 (by decide), key, key, key, key]
  refine ⟨?_, ?_, ?_, rfl⟩
  · show (if (0 : Int) ≠ 0 then _ else if inTB (l - o) = true then (l - o, (0 : Int)) else (0, 2)) = _
    rw [i1]; rfl
  · show (if (0 : Int) ≠ 0 then _ else if inTB (l - x.ty.off) = true then (l - x.ty.off, (0 : Int)) else (0, 2)) = _
    rw [i2]; rfl
  · show (if (0 : Int) ≠ 0 then _ else if inTB x.at_ = true then (x.at_, (0 : Int)) else (0, 2)) = _
    rw [i3]; rfl
/-- what local.Of returns -/
def Zn.ofV (z : Zn) (t : Int) : Int × Int := if z.valid = false then (0, 1) else if inTB t = false then (0, 2) else if inTB (t + z.offF t) = false then (0, 2) else (t + z.offF t, 0)
theorem gap_of {z : Zn} {x : Trn} {l o : Int} (h : GapHere z x l o) : z.ofV (l - o) = (l + (x.ty.off - o), 0) ∧ z.ofV (l - x.ty.off) = (l - (x.ty.off - o), 0) := by
  have hb := gap_bd h
  have l0 := h.l0
  have l1 := h.l1
  have lo := h.a.lo
  have hi := h.a.hi
  have hbef := alone_before h.a
  have ho := h.oe
  have o1 : z.offF (l - o) = x.ty.off := by rw [alone_off h.a (by omega) (by omega), if_pos (by omega)]
  have o2 : z.offF (l - x.ty.off) = o := by rw [alone_off h.a (by omega) (by omega), if_neg (by omega), hbef, ho]
  have i1 : inTB (l - o) = true := decide_eq_true (by omega)
  have i2 : inTB (l - x.ty.off) = true := decide_eq_true (by omega)
  unfold Zn.ofV
  rw [o1, o2, h.a.v, i1, i2, show inTB (l - o + x.ty.off) = true from decide_eq_true (by omega), show inTB (l - x.ty.off + o) = true from decide_eq_true (by omega)]
  simp only [Bool.true_eq_false, if_false]
  exact ⟨by congr 1; omega, by congr 1; omega⟩

end Go.Proofs.YtoonaidpmahgcaaGreat

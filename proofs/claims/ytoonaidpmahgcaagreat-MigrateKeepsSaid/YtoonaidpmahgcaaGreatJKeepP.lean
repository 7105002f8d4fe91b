/- What migrate.Keep makes of entries, in plain words. -/
import Derived.Test.YtoonaidpmahgcaaGreatGMig
import Derived.Test.YtoonaidpmahgcaaGreatGLb
namespace Go.Proofs.YtoonaidpmahgcaaGreat
set_option linter.unusedSimpArgs false
set_option linter.unusedVariables false
open Go.ChangeShapes Go.WideShapes Go.ChangeAt Go.RowKit Go.Sort Go.Lib

def insStm (t : Int) : Stm := ⟨t, ⟨#[]⟩, 0, 0⟩
def locStm (s : Stm) (l : Int) : Stm := ⟨l, s.zn, s.gap, s.fold⟩
/-- the local stamp that resolves to the same instant, if there is one -/
def keepL (L : List VV) (b : ByteArray) (s : Stm) (t : Int) : Option Stm :=
  match (findF L b s.zn).1 with
  | none => none
  | some y => if (y.z.ofV t).2 = 0 then (if (rsvF L b (locStm s (y.z.ofV t).1)).2 = 0 ∧ (rsvF L b (locStm s (y.z.ofV t).1)).1 = t then some (locStm s (y.z.ofV t).1) else none) else none
def orIns (t : Int) : Option Stm → Stm
  | some s => s
  | none => insStm t
def keepS (L : List VV) (a b : ByteArray) (s : Stm) : Stm :=
  if kindF (rsvF L a s) (rsvF L b s) = 0 ∨ kindF (rsvF L a s) (rsvF L b s) = 3 then s else orIns (rsvF L a s).1 (keepL L b s (rsvF L a s).1)
def keptF (L : List VV) (a b : ByteArray) (e : Ent) : Ent := ⟨e.nm, keepS L a b e.st, e.ln⟩
theorem inst_bd2 {z : Zn} (hv : z.valid = true) {l : Int} {i : Nat} (hi : i < (z.insts l).length) : -62135596800 ≤ (z.insts l)[i]! ∧ (z.insts l)[i]! < 253402300800 := by
  have h := ((mem_insts hv).1 (List.getElem_mem hi)).1
  rw [getElem!_pos _ i hi]
  exact h
theorem insT_of {t : Int} (h : -62135596800 ≤ t ∧ t < 253402300800) : insT t = true := by
  unfold insT
  simp
  exact h
theorem resV_in (z : Zn) (l g f : Int) (h : (z.resV l g f).2 = 0) : insT (z.resV l g f).1 = true := by
  unfold Zn.resV at h ⊢
  split
  · rename_i h1; rw [if_pos h1] at h; cases h
  · rename_i h1
    rw [if_neg h1] at h
    have hv : z.valid = true := by
      cases hz : z.valid
      · exact absurd (.inl hz) h1
      · rfl
    split
    · rename_i h2; rw [if_pos h2] at h; cases h
    · rename_i h2
      rw [if_neg h2] at h
      unfold Zn.resF at h ⊢
      split
      · rename_i h3
        exact insT_of (inst_bd2 hv (by omega))
      · rename_i h3
        rw [if_neg h3] at h
        split
        · rename_i h4
          rw [if_pos h4] at h
          split
          · rename_i h5; rw [if_pos h5] at h; cases h
          · split
            · exact insT_of (inst_bd2 hv (by omega))
            · exact insT_of (inst_bd2 hv (by omega))
        · rename_i h4
          rw [if_neg h4] at h
          cases hs : (z.skips (wideA l) (wideB (l + 1))).reverse.find? (inSkip l) with
          | none => rw [hs] at h; cases h
          | some x =>
            rw [hs] at h
            dsimp only at h ⊢
            split
            · rename_i h5; rw [if_pos h5] at h; exact (h5 h).elim
            · rename_i h5
              rw [if_neg h5] at h
              split
              · rename_i h6
                unfold inTB at h6
                exact insT_of (of_decide_eq_true h6)
              · rename_i h6; rw [if_neg h6] at h; cases h
theorem rsv_parts {L : List VV} {v : ByteArray} {s : Stm} (h : (rsvF L v s).2 = 0) : validH L = true ∧ stmB s = true ∧ rsvF L v s = rsv1 L v s := by
  by_cases h1 : validH L = true ∧ stmB s = true
  · exact ⟨h1.1, h1.2, if_pos h1⟩
  · rw [show rsvF L v s = (0, 1) from if_neg h1] at h; cases h
theorem rsv_in {L : List VV} {v : ByteArray} {s : Stm} (h : (rsvF L v s).2 = 0) : insT (rsvF L v s).1 = true := by
  obtain ⟨_, hs, e⟩ := rsv_parts h
  rw [e] at h ⊢
  unfold rsv1 at h ⊢
  split
  · unfold stmB at hs
    rw [Bool.and_eq_true] at hs
    exact hs.1
  · rename_i h2
    rw [if_neg h2] at h
    cases hf : (findF L v s.zn).1 with
    | none =>
      rw [hf] at h
      have := findF_err hf
      dsimp only at h
      omega
    | some y => rw [hf] at h; exact resV_in _ _ _ _ h
theorem empty_nil : emptyB ⟨#[]⟩ = true := by kernel_rfl
theorem ins_stm {t : Int} (h : insT t = true) : stmB (insStm t) = true := by
  unfold stmB insStm
  dsimp only
  rw [h, if_pos empty_nil]
  rfl
theorem rsv_ins {L : List VV} {v : ByteArray} {t : Int} (hv : validH L = true) (h : insT t = true) : rsvF L v (insStm t) = (t, 0) := by
  unfold rsvF
  rw [if_pos ⟨hv, ins_stm h⟩]
  unfold rsv1
  rw [if_pos (show emptyB (insStm t).zn = true from empty_nil)]
  rfl
theorem keep_same {L : List VV} {a b : ByteArray} {s : Stm} (h : kindF (rsvF L a s) (rsvF L b s) = 0) : keepS L a b s = s := if_pos (.inl h)
theorem keepL_rsv {L : List VV} {b : ByteArray} {s s' : Stm} {t : Int} (h : keepL L b s t = some s') : rsvF L b s' = (t, 0) := by
  unfold keepL at h
  cases hf : (findF L b s.zn).1 with
  | none => rw [hf] at h; cases h
  | some y =>
    rw [hf] at h
    dsimp only at h
    split at h
    · split at h
      · rename_i h1
        injection h with h
        subst h
        exact Prod.ext h1.2 h1.1
      · cases h
    · cases h
theorem keep_ok {L : List VV} {a b : ByteArray} {s : Stm} (hx : (rsvF L a s).2 = 0) : rsvF L b (keepS L a b s) = ((rsvF L a s).1, 0) := by
  by_cases hk : kindF (rsvF L a s) (rsvF L b s) = 0 ∨ kindF (rsvF L a s) (rsvF L b s) = 3
  · rw [show keepS L a b s = s from if_pos hk]
    have hkz := kind_zero (rsv_err L a s) (rsv_err L b s)
    have hko := kind_of (rsvF L a s) (rsvF L b s)
    by_cases hy : (rsvF L b s).2 = 0
    · by_cases he : (rsvF L a s).1 = (rsvF L b s).1
      · exact Prod.ext he.symm hy
      · have := hko.1 hx hy he
        omega
    · have := hko.2.1 hx hy
      omega
  · rw [show keepS L a b s = orIns (rsvF L a s).1 (keepL L b s (rsvF L a s).1) from if_neg hk]
    cases hl : keepL L b s (rsvF L a s).1 with
    | none => exact rsv_ins (rsv_parts hx).1 (rsv_in hx)
    | some s' => exact keepL_rsv hl
theorem keep_valid {L : List VV} {a b : ByteArray} {s : Stm} (hs : stmB s = true) : stmB (keepS L a b s) = true := by
  by_cases hx : (rsvF L a s).2 = 0
  · exact (rsv_parts (v := b) (by rw [keep_ok hx])).2.1
  · have hkz := kind_zero (rsv_err L a s) (rsv_err L b s)
    have hko := kind_of (rsvF L a s) (rsvF L b s)
    have hk : kindF (rsvF L a s) (rsvF L b s) = 0 ∨ kindF (rsvF L a s) (rsvF L b s) = 3 := by
      by_cases hy : (rsvF L b s).2 = 0
      · exact .inr (hko.2.2 hx hy)
      · exact .inl (hkz.2 (.inr ⟨hx, hy⟩))
    rw [show keepS L a b s = s from if_pos hk]
    exact hs
/-- an entry of a valid list has a valid stamp -/
theorem stm_of_ok {E : List Ent} (h : okEs E = true) {k : Nat} (hk : k < E.length) : stmB (E[k]!).st = true := by
  unfold okEs at h
  simp only [Bool.and_eq_true, Bool.not_eq_true', List.any_eq_false] at h
  have := h.2 _ (List.getElem_mem hk)
  rw [getElem!_pos E k hk]
  unfold badE at this
  simp at this
  exact this.2.2.1
theorem ok_of_giv {L : List VV} {E : List Ent} {vs : List ByteArray} (h : givF L E vs = 0) : validH L = true ∧ okEs E = true := by
  unfold givF at h
  by_cases h1 : validH L = true ∧ okEs E = true
  · exact h1
  · rw [if_neg h1] at h; cases h

end Go.Proofs.YtoonaidpmahgcaaGreat

/- Joined by merge.py: StP, LocH. -/
import Derived.Test.YtdafcipilknecaaGreatDoorJVerW6
import Derived.Test.YtdafcipilknecaaGreatDoorGSs
import Derived.Test.YtdafcipilknecaaGreatDoorGCh
import Derived.Test.YtdafcipilknecaaGreatDoorGVx
/- Plain facts for the law StampDiffers: runs in a span of one second. -/
namespace Go.Proofs.YtdafcipilknecaaGreatDoor
set_option linter.unusedSimpArgs false
set_option linter.unusedVariables false
open Go.ChangeShapes Go.WideShapes Go.ChangeAt Go.RowKit
theorem one_len {out : List Spn} {a : Int} {P : Int → Prop} (hc : Canon out) (h : ∀ t, hasL out t ↔ (a ≤ t ∧ t < a + 1) ∧ P t) : out.length ≤ 1 ∧ (out.length = 0 ↔ ¬ P a) := by
 have hfr : ∀ r ∈ out, r.fr = a ∧ P a := fun r hr => by
  have h1 := (h r.fr).1 ⟨r, hr, by have := hc.ne r hr; unfold Spn.has; omega⟩
  have h2 : r.fr = a := by omega
  rw [h2] at h1
  exact ⟨h2, h1.2⟩
 refine ⟨?_, ?_⟩
 ·have := hc.len (S := [a]) (fun r hr => by rw [(hfr r hr).1]; exact List.mem_singleton.2 rfl)
  simpa using this
 ·constructor
  ·intro h0 hP
   have hn := List.length_eq_zero_iff.1 h0
   subst hn
   exact hasL_nil a ((h a).2 ⟨⟨by omega, by omega⟩, hP⟩)
  ·intro hP
   cases out with
   | nil => rfl
   | cons r l => exact absurd (hfr r List.mem_cons_self).2 hP
end Go.Proofs.YtdafcipilknecaaGreatDoor
/- version.Locals of two zones of a history at a span of one second; what stamp.Same's answer says. -/
namespace Go.Proofs.YtdafcipilknecaaGreatDoor
set_option linter.unusedSimpArgs false
set_option linter.unusedVariables false
open Go.ChangeShapes Go.WideShapes Go.ChangeAt Go.RowKit Go.Sort Go.Lib
theorem bet_fewL {z : Zn} (hv : z.valid = true) (ht : z.table.length ≤ 300) (hl : z.tail.length ≤ 12) {a b : Int} (h : b - a ≤ 94867200) : (z.betF (cutA a) (cutB b)).length ≤ 360 := by
 have := bet_countN hv (T := 300) (R := 12) (Y := 4) ht hl (a := cutA a) (b := cutB b) (by unfold cutA cutB; omega)
 omega
def LocOne (z q : Zn) (t g f : Int) (w : World) (e : Ending) (w' : World) : Prop := Below w.heap.size w w' ∧ ∃ (n : Nat) (A : Option Addr) (c : Nat), e = .returned (.tuple #[.slice A n c, .int .i64 0]) ∧ n ≤ 1 ∧ (n = 0 ↔ z.resV t g f = q.resV t g f)
theorem Loc_his1 (L : List VV) (vH : Value) (a b zn : ByteArray) (t g f : Int) (w : World) (hm : HasMax w) (hg : GoodH w vH L) (hk : OkH L) (x y : ZV) (h1 : (findF L a zn).1 = some x) (h2 : (findF L b zn).1 = some y) (ht : -62135596800 ≤ t ∧ t < 253402300800) (hp : polB g f = true) (hH : validH L = true) :
  Calls Tryz.prog 19 #[x.z.v x.vT x.vR, y.z.v y.vT y.vR, .agg #[.int .i64 t, .int .i64 (t + 1)], .agg #[.int .i64 g, .int .i64 f]] w (LocOne x.z y.z t g f w) := by
 obtain ⟨_, v1, hv1, hx⟩ := findF_mem h1
 obtain ⟨_, v2, hv2, hy⟩ := findF_mem h2
 have ox := (hk.g v1 hv1).g x hx
 have oy := (hk.g v2 hv2).g y hy
 have gx := (hg.g v1 hv1).g x hx
 have gy := (hg.g v2 hv2).g y hy
 have hvx := his_valid hH hv1 hx
 have hvy := his_valid hH hv2 hy
 have hs : spanV t (t + 1) = true := by unfold spanV; simp; omega
 refine (Locals_gen 360 (by omega) x.z y.z x.vT x.vR y.vT y.vR t (t + 1) g f w hm gx.1 gx.2 gy.1 gy.2 ox.2.2 oy.2.2 ox.1 oy.1 ox.2.1 oy.2.1 (fun hv h => bet_fewL hv ox.2.1 ox.1 (by omega)) (fun hv h => bet_fewL hv oy.2.1 oy.1 (by omega))).mono ?_
 rintro e w' ⟨hb, h | ⟨_, _, _, _, out, hc, hmm, _, h⟩⟩
 ·rcases h.1 with h | h | h | h
  ·rw [hvx] at h; cases h
  ·rw [hvy] at h; cases h
  ·rw [hp] at h; cases h
  ·rw [hs] at h; cases h
 ·obtain ⟨l1, l2⟩ := one_len hc hmm
  rcases h with ⟨_, u, rfl, hown⟩ | ⟨h, _⟩
  ·obtain ⟨A, c, rfl⟩ := own_formN hown
   refine ⟨hb, out.length, A, c, rfl, l1, ?_⟩
   rw [l2]
   exact Decidable.not_not
  ·omega
theorem stm_pol {s : Stm} (h : stmB s = true) (he : emptyB s.zn = false) : polB s.gap s.fold = true := by
 unfold stmB at h
 rw [he] at h
 simp at h
 exact h.2.2
theorem stm_in {s : Stm} (h : stmB s = true) : -62135596800 ≤ s.at_ ∧ s.at_ < 253402300800 := by
 unfold stmB insT at h
 simp at h
 omega
theorem find_some {L : List VV} {v zn : ByteArray} (h : (findF L v zn).2 = 0) : ∃ x, (findF L v zn).1 = some x := by
 cases hf : (findF L v zn).1 with
 | none => rcases findF_err hf with h1 | h1 <;> rw [h] at h1 <;> cases h1
 | some x => exact ⟨x, rfl⟩
theorem rsv1_some {L : List VV} {v : ByteArray} {s : Stm} {x : ZV} (he : emptyB s.zn = false) (h : (findF L v s.zn).1 = some x) : rsv1 L v s = x.z.resV s.at_ s.gap s.fold := by
 unfold rsv1
 rw [if_neg (by rw [he]; decide), h]
theorem same_cases (L : List VV) (a b : ByteArray) (s : Stm) (he : emptyB s.zn = false) : ((sameF L a b s).1 = false ∧ (sameF L a b s).2 ≠ 0) ∨ ∃ x y, ((findF L a s.zn).1 = some x ∧ (findF L a s.zn).2 = 0) ∧ ((findF L b s.zn).1 = some y ∧ (findF L b s.zn).2 = 0) ∧ sameF L a b s = (decide (x.z.resV s.at_ s.gap s.fold = y.z.resV s.at_ s.gap s.fold), 0) ∧ (-62135596800 ≤ s.at_ ∧ s.at_ < 253402300800) ∧ polB s.gap s.fold = true ∧ validH L = true := by
 by_cases h1 : validH L = true ∧ stmB s = true
 ·by_cases h2 : (findF L a s.zn).2 ≠ 0 ∨ (findF L b s.zn).2 ≠ 0
  ·rw [same_7 h1 h2]; exact .inl ⟨rfl, by decide⟩
  ·have ha : (findF L a s.zn).2 = 0 := by omega
   have hb : (findF L b s.zn).2 = 0 := by omega
   obtain ⟨x, hx⟩ := find_some ha
   obtain ⟨y, hy⟩ := find_some hb
   refine .inr ⟨x, y, ⟨hx, ha⟩, ⟨hy, hb⟩, ?_, stm_in h1.2, stm_pol h1.2 he, h1.1⟩
   rw [same_0 h1 h2, rsv1_some he hx, rsv1_some he hy]
 ·rw [same_1 h1]; exact .inl ⟨rfl, by decide⟩
end Go.Proofs.YtdafcipilknecaaGreatDoor

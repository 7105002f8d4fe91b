/- Joined by merge.py: Intv, LocW11, RunsW. -/
import Derived.Test.YtdafcipilknecaaGreatDoorGZk
import Derived.Test.YtdafcipilknecaaGreatDoorGVp
import Derived.Test.YtdafcipilknecaaGreatDoorGLa
import Derived.Test.YtdafcipilknecaaGreatDoorGLb
import Derived.Test.YtdafcipilknecaaGreatDoorGZc
import Derived.BigQuiet
/- interval.Meet. Printed by gen_intv.py. -/
namespace Go.Proofs.YtdafcipilknecaaGreatDoor
set_option linter.unusedSimpArgs false
set_option linter.unusedVariables false
open Go.ChangeShapes Go.WideShapes Go.ChangeAt Go.RowKit
theorem iv_ok (s : Spn) : ivB s.fr s.to = s.ok := by
 rw [Bool.eq_iff_iff, Spn.ok_iff]
 unfold ivB lineB
 simp only [Bool.and_eq_true, decide_eq_true_eq]
 omega
def encN (s : Spn) : List Value := [.int .i64 s.fr, .int .i64 s.to]
theorem encN_len (s : Spn) : (encN s).length = 2 := rfl
theorem encN_one (s : Spn) : ∀ v ∈ encN s, v.oneCell' = true := by intro v hv; simp [encN] at hv; rcases hv with rfl | rfl <;> rfl
end Go.Proofs.YtdafcipilknecaaGreatDoor
/- local.images. Printed by gen_locw11.py. -/
namespace Go.Proofs.YtdafcipilknecaaGreatDoor
set_option linter.unusedSimpArgs false
set_option linter.unusedVariables false
open Go.RowKit Go.Shelf Go.ChangeShapes Go.WideShapes Go.ChangeAt
attribute [local go_sem] Oper.semAt_some
theorem info_span : (Tryz.prog.info? 35).map (fun i => (i.zero, i.size, i.bytes)) = some (some (.agg #[.int .i64 0, .int .i64 0]), 2, 16) := by kernel_rfl
end Go.Proofs.YtdafcipilknecaaGreatDoor
/- runs.Valid, runs.search, runs.Has. -/
namespace Go.Proofs.YtdafcipilknecaaGreatDoor
set_option linter.unusedSimpArgs false
set_option linter.unusedVariables false
open Go.ChangeShapes Go.WideShapes Go.ChangeAt Go.RowKit
theorem rd_at {w : World} {A : Option Addr} {n c : Nat} {l : List Spn} (h : Rd encN 2 w (.slice A n c) l) : n = l.length ∧ ((l = [] ) ∨ ∃ g o, A = some ⟨g, o, none⟩ ∧ g < w.heap.size ∧ ∀ k, k < l.length → w.cell? ⟨g, o + k * 2, none⟩ = some (.int .i64 (l[k]!).fr) ∧ w.cell? ⟨g, o + k * 2 + 1, none⟩ = some (.int .i64 (l[k]!).to)) := by
 rcases h with ⟨e, A', c', hv⟩ | ⟨g, o, c', hv, hg, hc⟩
 ·injection hv with _ hn _
  subst e
  exact ⟨hn, .inl rfl⟩
 ·injection hv with e1 hn _
  refine ⟨hn, .inr ⟨g, o, e1, hg, fun k hk => ⟨?_, ?_⟩⟩⟩
  ·have := hc k hk 0 _ rfl
   rwa [Nat.add_zero] at this
  ·exact hc k hk 1 _ rfl
structure Idx (l : List Spn) (x : Int) (i : Nat) : Prop where
 le : i ≤ l.length
 lo : ∀ j, j < i → (l[j]!).to ≤ x
 hi : ∀ j, i ≤ j → j < l.length → x < (l[j]!).to
end Go.Proofs.YtdafcipilknecaaGreatDoor

/- Joined by merge.py: TrnEq, AwakeZ. -/
import Derived.Test.YtdpkolnfbimheaaGreatGZoneP
import Derived.Test.YtdpkolnfbimheaaGreatGZc
/- Transitions: equality is decided. -/
namespace Go.Proofs.YtdpkolnfbimheaaGreat
set_option linter.unusedSimpArgs false
set_option linter.unusedVariables false
theorem Trn.ext_iff' (a b : Trn) : a = b ↔ a.at_ = b.at_ ∧ a.ty = b.ty := by
  cases a; cases b; simp
instance : DecidableEq Trn := fun a b => decidable_of_iff _ (Trn.ext_iff' a b).symm
end Go.Proofs.YtdpkolnfbimheaaGreat

/- civiltimelaw22's example zone: valid, and its first transitions. No program in sight. -/
namespace Go.Proofs.YtdpkolnfbimheaaGreat
set_option linter.unusedSimpArgs false
set_option linter.unusedVariables false

def strB (l : List UInt8) : ByteArray := ⟨l.toArray⟩
def exSpring : Rule := ⟨strB [88], 2000, 9999, 3, 1, 0, 1, 7200, 1, 3600, strB [68]⟩
def exAutumn : Rule := ⟨strB [88], 2000, 9999, 11, 1, 0, 1, 7200, 1, 0, strB [83]⟩
def exZ : Zn := ⟨strB [84, 111, 119, 110], ⟨3600, 0, strB [88, 83, 84]⟩, [], [exSpring, exAutumn], 3600, strB [88, 37, 115, 84], 2000⟩
/-- whether a year's events are in order as they stand -/
def srtB (rs : List Rule) (y : Int) : Bool := decide ((evs y 0 rs).Pairwise fun x y => leE x y = true)
theorem year_evs {rs : List Rule} {y : Int} (h : srtB rs y = true) : yearF rs y = evs y 0 rs := by
  unfold yearF
  exact List.mergeSort_of_pairwise (of_decide_eq_true h)
def calmB (rs : List Rule) (y : Int) : Bool := srtB rs (y - 1) && (srtB rs y && (srtB rs (y + 1) && !closeF (evs (y - 1) 0 rs ++ evs y 0 rs ++ evs (y + 1) 0 rs)))
theorem calm_crowd {rs : List Rule} {y : Int} (h : calmB rs y = true) : crowdF rs y = false := by
  unfold calmB at h
  simp only [Bool.and_eq_true, Bool.not_eq_true'] at h
  unfold crowdF
  rw [year_evs h.1, year_evs h.2.1, year_evs h.2.2.1]
  exact h.2.2.2
def evT2 (rs : List Rule) (a : Int) : Nat → List (Int × Int × Int)
  | 0 => []
  | n + 1 => evT2 rs a n ++ (evs (a + n) 0 rs).map fun x => (a + n, x)
theorem evT_2 {rs : List Rule} {a : Int} : ∀ {n : Nat}, (List.range n).all (fun k => srtB rs (a + k)) = true → evT rs a n = evT2 rs a n
  | 0, _ => rfl
  | n + 1, h => by
    rw [List.range_succ, List.all_append, Bool.and_eq_true] at h
    have h2 : srtB rs (a + n) = true := by simpa using h.2
    rw [evT, evT2, evT_2 h.1, year_evs h2]
theorem ex_allV : allV exZ.tail = true := by decide +kernel
theorem ex_cuts : cutsF exZ.tail = [2000, 10000] := by
  unfold cutsF
  rw [show cutsL exZ.tail = [2000, 10000, 2000, 10000] from rfl]
  rw [show ([2000, 10000, 2000, 10000] : List Int).mergeSort (fun x y => decide (x ≤ y)) = [2000, 2000, 10000, 10000] by
    refine List.Perm.eq_of_pairwise (le := fun x y : Int => x ≤ y) (fun a b _ _ h1 h2 => Int.le_antisymm h1 h2) ?_ (by decide) ((List.mergeSort_perm _ _).trans (by decide))
    have := List.pairwise_mergeSort (le := fun x y : Int => decide (x ≤ y)) (fun a b c h1 h2 => by simp at *; omega) (fun a b => by simp; omega) [2000, 10000, 2000, 10000]
    exact this.imp fun h => by simpa using h]
  decide +kernel
theorem ex_busy : ((List.range 402).all fun k => calmB exZ.tail (2000 + k)) = true := by decide +kernel
theorem ex_last : calmB exZ.tail 9999 = true := by decide +kernel
theorem ex_spaced : spacedF exZ.tail = true := by
  rw [spacedF_ok ex_allV, ex_cuts]
  have e0 : spanF [2000, 10000] 0 = 402 := by decide
  have e1 : spanF [2000, 10000] 1 = 0 := by decide
  have e2 : toF [2000, 10000] 0 = 10000 := by decide
  have e3 : toF [2000, 10000] 1 = 10000 := by decide
  have hb : busyF exZ.tail 2000 402 = false := by
    unfold busyF
    rw [List.any_eq_false]
    intro k hk
    have := List.all_eq_true.1 ex_busy k hk
    rw [calm_crowd this]
    decide
  have b0 : badF exZ.tail [2000, 10000] 0 = false := by
    refine badF_no ?_ ?_
    · rw [e0]; exact hb
    · rw [e2]; exact calm_crowd ex_last
  have b1 : badF exZ.tail [2000, 10000] 1 = false := by
    refine badF_no ?_ ?_
    · rw [e1]; rfl
    · rw [e3]; exact calm_crowd ex_last
  show (!badsF exZ.tail [2000, 10000] 2) = true
  rw [badsF_succ, badsF_succ, badsF_zero, b0, b1]
  rfl
theorem ex_head : exZ.headB = true := by decide +kernel
theorem ex_rules : exZ.tail.all exZ.ruleB = true := by decide +kernel
theorem ex_valid : exZ.valid = true := by
  unfold Zn.valid Zn.tailB
  rw [ex_head, if_neg (by decide), ex_rules, show exZ.rules0 = exZ.tail from rfl, ex_spaced]
  decide +kernel
theorem ex_ne : exZ.tail ≠ [] := by decide
def exX : Trn := ⟨951872400, ⟨7200, 3600, strB [88, 68, 84]⟩⟩
def exY : Trn := ⟨973036800, ⟨3600, 0, strB [88, 83, 84]⟩⟩
theorem ex_srt : (List.range 9).all (fun k => srtB exZ.tail (2000 + k)) = true := by decide +kernel
theorem ex_win : exZ.winW 2000 2008 = trans exZ.lastT true (exZ.happ exZ.lastT.sv (evT2 exZ.tail 2000 9)) := by
  unfold Zn.winW
  rw [show exZ.start 2000 = 2000 by decide, show ((2008 : Int) - 2000 + 1).toNat = 9 by decide, evT_2 ex_srt]
  rfl
theorem ex_next (t : Int) {x : Int × Trn} (h : (trans exZ.lastT true (exZ.happ exZ.lastT.sv (evT2 exZ.tail 2000 9))).find? (fun x => decide (t < x.2.at_)) = some x) : exZ.nextF t = some x.2 := by
  have ok := valid_tail ex_valid ex_ne
  rw [nextF_tail ex_valid (by show ¬ (List.countP _ ([] : List Trn)) < 0; exact Nat.not_lt_zero _), if_neg ex_ne]
  rw [next_hit ok (f := 2000) (e := 2008) (by decide) (by decide) (by decide) (fun y hy h2 => by have := (TT_bd ok hy).1; rw [show exZ.year = 2000 from rfl] at this; omega) (by rw [ex_win]; exact h)]
  rfl
theorem ex_next0 : exZ.nextF 0 = some exX := ex_next 0 (x := (2000, exX)) (by decide +kernel)
theorem ex_next1 : exZ.nextF 951872400 = some exY := ex_next 951872400 (x := (2000, exY)) (by decide +kernel)

end Go.Proofs.YtdpkolnfbimheaaGreat

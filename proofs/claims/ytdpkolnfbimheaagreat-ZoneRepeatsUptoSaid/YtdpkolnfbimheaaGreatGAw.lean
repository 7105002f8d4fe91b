/- Joined by merge.py: TrnEq, AwakeZ, GreatW, AwakeW. -/
import Derived.Test.YtdpkolnfbimheaaGreatGZoneP
import Derived.Test.YtdpkolnfbimheaaGreatGZc
import Derived.Test.YtdpkolnfbimheaaGreatGZh
/- Transitions: equality is decided. -/
namespace Go.Proofs.YtdpkolnfbimheaaGreat
set_option linter.unusedSimpArgs false
set_option linter.unusedVariables false
theorem Trn.ext_iff' (a b : Trn) : a = b ↔ a.at_ = b.at_ ∧ a.ty = b.ty := by
  cases a; cases b; simp
instance : DecidableEq Trn := fun a b => decidable_of_iff _ (Trn.ext_iff' a b).symm
end Go.Proofs.YtdpkolnfbimheaaGreat

/- civiltimelaw22's example zone: valid, and its first transitions. No program in sight. -/
namespace Go.Proofs.YtdpkolnfbimheaaGreat
set_option linter.unusedSimpArgs false
set_option linter.unusedVariables false

def strB (l : List UInt8) : ByteArray := ⟨l.toArray⟩
def exSpring : Rule := ⟨strB [88], 2000, 9999, 3, 1, 0, 1, 7200, 1, 3600, strB [68]⟩
def exAutumn : Rule := ⟨strB [88], 2000, 9999, 11, 1, 0, 1, 7200, 1, 0, strB [83]⟩
def exZ : Zn := ⟨strB [84, 111, 119, 110], ⟨3600, 0, strB [88, 83, 84]⟩, [], [exSpring, exAutumn], 3600, strB [88, 37, 115, 84], 2000⟩
/-- whether a year's events are in order as they stand -/
def srtB (rs : List Rule) (y : Int) : Bool := decide ((evs y 0 rs).Pairwise fun x y => leE x y = true)
theorem year_evs {rs : List Rule} {y : Int} (h : srtB rs y = true) : yearF rs y = evs y 0 rs := by
  unfold yearF
  exact List.mergeSort_of_pairwise (of_decide_eq_true h)
def calmB (rs : List Rule) (y : Int) : Bool := srtB rs (y - 1) && (srtB rs y && (srtB rs (y + 1) && !closeF (evs (y - 1) 0 rs ++ evs y 0 rs ++ evs (y + 1) 0 rs)))
theorem calm_crowd {rs : List Rule} {y : Int} (h : calmB rs y = true) : crowdF rs y = false := by
  unfold calmB at h
  simp only [Bool.and_eq_true, Bool.not_eq_true'] at h
  unfold crowdF
  rw [year_evs h.1, year_evs h.2.1, year_evs h.2.2.1]
  exact h.2.2.2
def evT2 (rs : List Rule) (a : Int) : Nat → List (Int × Int × Int)
  | 0 => []
  | n + 1 => evT2 rs a n ++ (evs (a + n) 0 rs).map fun x => (a + n, x)
theorem evT_2 {rs : List Rule} {a : Int} : ∀ {n : Nat}, (List.range n).all (fun k => srtB rs (a + k)) = true → evT rs a n = evT2 rs a n
  | 0, _ => rfl
  | n + 1, h => by
    rw [List.range_succ, List.all_append, Bool.and_eq_true] at h
    have h2 : srtB rs (a + n) = true := by simpa using h.2
    rw [evT, evT2, evT_2 h.1, year_evs h2]
theorem ex_allV : allV exZ.tail = true := by decide +kernel
theorem ex_cuts : cutsF exZ.tail = [2000, 10000] := by
  unfold cutsF
  rw [show cutsL exZ.tail = [2000, 10000, 2000, 10000] from rfl]
  rw [show ([2000, 10000, 2000, 10000] : List Int).mergeSort (fun x y => decide (x ≤ y)) = [2000, 2000, 10000, 10000] by
    refine List.Perm.eq_of_pairwise (le := fun x y : Int => x ≤ y) (fun a b _ _ h1 h2 => Int.le_antisymm h1 h2) ?_ (by decide) ((List.mergeSort_perm _ _).trans (by decide))
    have := List.pairwise_mergeSort (le := fun x y : Int => decide (x ≤ y)) (fun a b c h1 h2 => by simp at *; omega) (fun a b => by simp; omega) [2000, 10000, 2000, 10000]
    exact this.imp fun h => by simpa using h]
  decide +kernel
theorem ex_busy : ((List.range 402).all fun k => calmB exZ.tail (2000 + k)) = true := by decide +kernel
theorem ex_last : calmB exZ.tail 9999 = true := by decide +kernel
theorem ex_spaced : spacedF exZ.tail = true := by
  rw [spacedF_ok ex_allV, ex_cuts]
  have e0 : spanF [2000, 10000] 0 = 402 := by decide
  have e1 : spanF [2000, 10000] 1 = 0 := by decide
  have e2 : toF [2000, 10000] 0 = 10000 := by decide
  have e3 : toF [2000, 10000] 1 = 10000 := by decide
  have hb : busyF exZ.tail 2000 402 = false := by
    unfold busyF
    rw [List.any_eq_false]
    intro k hk
    have := List.all_eq_true.1 ex_busy k hk
    rw [calm_crowd this]
    decide
  have b0 : badF exZ.tail [2000, 10000] 0 = false := by
    refine badF_no ?_ ?_
    · rw [e0]; exact hb
    · rw [e2]; exact calm_crowd ex_last
  have b1 : badF exZ.tail [2000, 10000] 1 = false := by
    refine badF_no ?_ ?_
    · rw [e1]; rfl
    · rw [e3]; exact calm_crowd ex_last
  show (!badsF exZ.tail [2000, 10000] 2) = true
  rw [badsF_succ, badsF_succ, badsF_zero, b0, b1]
  rfl
theorem ex_head : exZ.headB = true := by decide +kernel
theorem ex_rules : exZ.tail.all exZ.ruleB = true := by decide +kernel
theorem ex_valid : exZ.valid = true := by
  unfold Zn.valid Zn.tailB
  rw [ex_head, if_neg (by decide), ex_rules, show exZ.rules0 = exZ.tail from rfl, ex_spaced]
  decide +kernel
theorem ex_ne : exZ.tail ≠ [] := by decide
def exX : Trn := ⟨951872400, ⟨7200, 3600, strB [88, 68, 84]⟩⟩
def exY : Trn := ⟨973036800, ⟨3600, 0, strB [88, 83, 84]⟩⟩
theorem ex_srt : (List.range 9).all (fun k => srtB exZ.tail (2000 + k)) = true := by decide +kernel
theorem ex_win : exZ.winW 2000 2008 = trans exZ.lastT true (exZ.happ exZ.lastT.sv (evT2 exZ.tail 2000 9)) := by
  unfold Zn.winW
  rw [show exZ.start 2000 = 2000 by decide, show ((2008 : Int) - 2000 + 1).toNat = 9 by decide, evT_2 ex_srt]
  rfl
theorem ex_next (t : Int) {x : Int × Trn} (h : (trans exZ.lastT true (exZ.happ exZ.lastT.sv (evT2 exZ.tail 2000 9))).find? (fun x => decide (t < x.2.at_)) = some x) : exZ.nextF t = some x.2 := by
  have ok := valid_tail ex_valid ex_ne
  rw [nextF_tail ex_valid (by show ¬ (List.countP _ ([] : List Trn)) < 0; exact Nat.not_lt_zero _), if_neg ex_ne]
  rw [next_hit ok (f := 2000) (e := 2008) (by decide) (by decide) (by decide) (fun y hy h2 => by have := (TT_bd ok hy).1; rw [show exZ.year = 2000 from rfl] at this; omega) (by rw [ex_win]; exact h)]
  rfl
theorem ex_next0 : exZ.nextF 0 = some exX := ex_next 0 (x := (2000, exX)) (by decide +kernel)
theorem ex_next1 : exZ.nextF 951872400 = some exY := ex_next 951872400 (x := (2000, exY)) (by decide +kernel)

end Go.Proofs.YtdpkolnfbimheaaGreat

/- civiltimelaw22.example, great. -/
namespace Go.Proofs.YtdpkolnfbimheaaGreat
set_option linter.unusedSimpArgs false
set_option linter.unusedVariables false
open Go.ChangeShapes Go.WideShapes Go.ChangeAt Go.RowKit

def greatB (T R : Nat) : Bool := (decide ((60 : Int) < (T : Int)) && decide ((T : Int) ≤ 1000)) || (decide ((8 : Int) < (R : Int)) && decide ((R : Int) ≤ 100))
theorem great_parts {z : Zn} (h : greatB z.table.length z.tail.length = false) : z.tail.length ≤ 12 ∨ 100 < z.tail.length := by
  unfold greatB at h
  simp at h
  omega
theorem great_any (z : Zn) (vT vR : Value) (w : World) (hT : Rd Trn.cells 4 w vT z.table) (hR : Rd Rule.cells 11 w vR z.tail) :
    Calls Tryz.prog 11 #[z.v vT vR] w fun e w' => e = .returned (.bool (greatB z.table.length z.tail.length)) ∧ Below w.heap.size w w' := by
  obtain ⟨AT, cT, rfl⟩ := rd_vf hT
  obtain ⟨AR, cR, rfl⟩ := rd_vf hR
  clear hT hR
  unfold Zn.v greatB
  by_cases h1 : (60 : Int) < (z.table.length : Int)
  · rw [decide_eq_true h1]
    by_cases h2 : (z.table.length : Int) ≤ 1000
    · rw [decide_eq_true h2]
      go_enter Tryz.func11, Tryz.ntmps11
      go_wp2
      go_ret
      exact ⟨ret1 (vbool (by simp)), (Below.refl _ _).alloc (Nat.le_refl _) _⟩
    · have d2 : decide ((z.table.length : Int) ≤ 1000) = false := decide_eq_false h2
      rw [d2]
      by_cases h3 : (8 : Int) < (z.tail.length : Int)
      · have d3 : decide ((8 : Int) < (z.tail.length : Int)) = true := decide_eq_true h3
        rw [d3]
        go_enter Tryz.func11, Tryz.ntmps11
        go_wp2
        go_ret
        exact ⟨ret1 (vbool (by simp)), (Below.refl _ _).alloc (Nat.le_refl _) _⟩
      · have d3 : decide ((8 : Int) < (z.tail.length : Int)) = false := decide_eq_false h3
        rw [d3]
        go_enter Tryz.func11, Tryz.ntmps11
        go_wp2
        go_ret
        exact ⟨ret1 (vbool (by simp)), (Below.refl _ _).alloc (Nat.le_refl _) _⟩
  · have d1 : decide ((60 : Int) < (z.table.length : Int)) = false := decide_eq_false h1
    rw [d1]
    by_cases h3 : (8 : Int) < (z.tail.length : Int)
    · have d3 : decide ((8 : Int) < (z.tail.length : Int)) = true := decide_eq_true h3
      rw [d3]
      go_enter Tryz.func11, Tryz.ntmps11
      go_wp2
      go_ret
      exact ⟨ret1 (vbool (by simp)), (Below.refl _ _).alloc (Nat.le_refl _) _⟩
    · have d3 : decide ((8 : Int) < (z.tail.length : Int)) = false := decide_eq_false h3
      rw [d3]
      go_enter Tryz.func11, Tryz.ntmps11
      go_wp2
      go_ret
      exact ⟨ret1 (vbool (by simp)), (Below.refl _ _).alloc (Nat.le_refl _) _⟩

theorem rules_row (w : World) (rs : List Rule) (B n : Nat) (h : B = w.heap.size) (hn : n = rs.length) (t : TypeId) : Rd Rule.cells 11 (w.alloc (.cells (rs.flatMap Rule.cells).toArray t)) (.slice (some ⟨B, 0, none⟩) n n) rs := by
  subst h hn
  refine .inr ⟨w.heap.size, 0, rs.length, rfl, by simp, fun j hj i u hu => ?_⟩
  have hi : i < 11 := by
    have := (List.getElem?_eq_some_iff.1 hu).1
    simpa [Rule.cells] using this
  have := flat_get (enc := Rule.cells) (k := 11) (fun _ => rfl) rs j i hj hi
  rw [Nat.zero_add]
  refine alloc_cells w (rs.flatMap Rule.cells) t _ _ ?_
  rw [this, ← hu, List.getElem?_eq_getElem (by simpa [Rule.cells] using hi), getElem!_pos _ i (by simpa [Rule.cells] using hi)]
def ExEnd (w : World) (e : Ending) (w' : World) : Prop := ∃ c, e = .returned (.agg #[.string ⟨#[84, 111, 119, 110]⟩, .int .i64 3600, .int .i64 0, .string ⟨#[88, 83, 84]⟩, .slice none 0 0, .slice (some c) 2 2, .int .i64 3600, .string ⟨#[88, 37, 115, 84]⟩, .int .i64 2000]) ∧ Rd Rule.cells 11 w' (.slice (some c) 2 2) exZ.tail ∧ Below w.heap.size w w'
theorem example_any (w : World) : Calls Tryz.prog 42 #[] w (ExEnd w) := by
  unfold ExEnd
  go_enter Tryz.func42, Tryz.ntmps42
  go_wp2
  refine bodyPost_ret (v := .agg #[.string ⟨#[84, 111, 119, 110]⟩, .int .i64 3600, .int .i64 0, .string ⟨#[88, 83, 84]⟩, .slice none 0 0, .slice (some ⟨w.heap.size + 1 + 1 + 1 + 1, 0, none⟩) 2 2, .int .i64 3600, .string ⟨#[88, 37, 115, 84]⟩, .int .i64 2000]) (by simp [results, Tryz.results42, go_sem, Zn.v, exZ, strB]) rfl ⟨_, rfl, rules_row _ exZ.tail _ 2 (by simp) rfl _, ?_⟩
  exact (((((Below.refl _ _).alloc (Nat.le_refl _) _).alloc (by simp) _).alloc (by simp; omega) _).alloc (by simp; omega) _).alloc (by simp; omega) _

end Go.Proofs.YtdpkolnfbimheaaGreat

/- civiltimelaw22.awake. -/
namespace Go.Proofs.YtdpkolnfbimheaaGreat
set_option linter.unusedSimpArgs false
set_option linter.unusedVariables false
open Go.ChangeShapes Go.WideShapes Go.ChangeAt Go.RowKit

theorem ex_nextV0 : exZ.nextV 0 = some exX := by
  unfold Zn.nextV
  rw [if_pos ⟨by decide, ex_valid⟩, ex_next0]
theorem ex_nextV1 : exZ.nextV 951872400 = some exY := by
  unfold Zn.nextV
  rw [if_pos ⟨by decide, ex_valid⟩, ex_next1]
set_option maxRecDepth 100000 in
set_option maxHeartbeats 4000000 in
theorem awake22_any (w : World) (hm : HasMax w) : Calls Tryz.prog 10 #[] w fun e w' => e = .returned (.bool true) ∧ Below w.heap.size w w' := by
  have HM := Lib.hid hm
  have HN0 := Lib.hid (show ∀ vR W, Below w.heap.size w W → Rd Rule.cells 11 W vR exZ.tail → Calls Tryz.prog 15 #[.agg #[.string ⟨#[84, 111, 119, 110]⟩, .int .i64 3600, .int .i64 0, .string ⟨#[88, 83, 84]⟩, .slice none 0 0, vR, .int .i64 3600, .string ⟨#[88, 37, 115, 84]⟩, .int .i64 2000], .int .i64 0] W (fun e w' => e = .returned (.tuple #[.agg #[.int .i64 951872400, .int .i64 7200, .int .i64 3600, .string ⟨#[88, 68, 84]⟩], .bool true]) ∧ Below W.heap.size W w') from fun vR W hb hR => by
    have := Next_any exZ (.slice none 0 0) vR 0 W (hm.on hb) (.inl ⟨rfl, none, 0, rfl⟩) hR (by decide) (.inl (by decide))
    rw [ex_nextV0] at this
    exact this)
  have HN1 := Lib.hid (show ∀ vR W, Below w.heap.size w W → Rd Rule.cells 11 W vR exZ.tail → Calls Tryz.prog 15 #[.agg #[.string ⟨#[84, 111, 119, 110]⟩, .int .i64 3600, .int .i64 0, .string ⟨#[88, 83, 84]⟩, .slice none 0 0, vR, .int .i64 3600, .string ⟨#[88, 37, 115, 84]⟩, .int .i64 2000], .int .i64 951872400] W (fun e w' => e = .returned (.tuple #[.agg #[.int .i64 973036800, .int .i64 3600, .int .i64 0, .string ⟨#[88, 83, 84]⟩], .bool true]) ∧ Below W.heap.size W w') from fun vR W hb hR => by
    have := Next_any exZ (.slice none 0 0) vR 951872400 W (hm.on hb) (.inl ⟨rfl, none, 0, rfl⟩) hR (by decide) (.inl (by decide))
    rw [ex_nextV1] at this
    exact this)
  have HV := Lib.hid (show ∀ vR W, Below w.heap.size w W → Rd Rule.cells 11 W vR exZ.tail → Calls Tryz.prog 35 #[.agg #[.string ⟨#[84, 111, 119, 110]⟩, .int .i64 3600, .int .i64 0, .string ⟨#[88, 83, 84]⟩, .slice none 0 0, vR, .int .i64 3600, .string ⟨#[88, 37, 115, 84]⟩, .int .i64 2000]] W (fun e w' => e = .returned (.bool true) ∧ Below W.heap.size W w') from fun vR W hb hR => by
    have := Valid_zone exZ (.slice none 0 0) vR W (hm.on hb) (.inl ⟨rfl, none, 0, rfl⟩) hR (by decide) (.inl (by decide))
    rw [ex_valid] at this
    exact this)
  have NE : ∀ w, (binOp .neq 23 (.agg #[.int .i64 7200, .int .i64 3600, .string ⟨#[88, 68, 84]⟩]) (.agg #[.int .i64 7200, .int .i64 3600, .string ⟨#[88, 68, 84]⟩])).run Tryz.prog w = .ok (.bool false) w := fun w => by
    have := neTy ⟨7200, 3600, strB [88, 68, 84]⟩ ⟨7200, 3600, strB [88, 68, 84]⟩ w
    rw [decide_eq_true rfl] at this
    exact this
  have EQ : ∀ w, (binOp .eql 23 (.agg #[.int .i64 3600, .int .i64 0, .string ⟨#[88, 83, 84]⟩]) (.agg #[.int .i64 3600, .int .i64 0, .string ⟨#[88, 83, 84]⟩])).run Tryz.prog w = .ok (.bool true) w := fun w => by
    have := eqTy ⟨3600, 0, strB [88, 83, 84]⟩ ⟨3600, 0, strB [88, 83, 84]⟩ w
    rw [decide_eq_true rfl] at this
    exact this
  have GD := fun op x y xs ys w => gdTy op x y xs ys w
  clear hm
  go_enter Tryz.func10, Tryz.ntmps10
  go_wp2_with fail
  refine (example_any _).mono ?_
  rintro e w1 ⟨c, rfl, hR1, hb1⟩
  have HR1 := Lib.hid hR1
  have HB1 := Lib.hid hb1
  clear hR1 hb1
  go_wp2_with fail
  have HZC := Lib.hid (alloc_cells w1 [.string ⟨#[84, 111, 119, 110]⟩, .int .i64 3600, .int .i64 0, .string ⟨#[88, 83, 84]⟩, .slice none 0 0, .slice (some c) 2 2, .int .i64 3600, .string ⟨#[88, 37, 115, 84]⟩, .int .i64 2000] 27)
  have HB2 := Lib.hid (HB1.out.alloc HB1.out.size (.cells #[.string ⟨#[84, 111, 119, 110]⟩, .int .i64 3600, .int .i64 0, .string ⟨#[88, 83, 84]⟩, .slice none 0 0, .slice (some c) 2 2, .int .i64 3600, .string ⟨#[88, 37, 115, 84]⟩, .int .i64 2000] 27))
  have HR2 := Lib.hid (HR1.out.on (alloc_below' w1 (.cells #[.string ⟨#[84, 111, 119, 110]⟩, .int .i64 3600, .int .i64 0, .string ⟨#[88, 83, 84]⟩, .slice none 0 0, .slice (some c) 2 2, .int .i64 3600, .string ⟨#[88, 37, 115, 84]⟩, .int .i64 2000] 27)))
  have hsz : w1.heap.size < (w1.alloc (.cells #[.string ⟨#[84, 111, 119, 110]⟩, .int .i64 3600, .int .i64 0, .string ⟨#[88, 83, 84]⟩, .slice none 0 0, .slice (some c) 2 2, .int .i64 3600, .string ⟨#[88, 37, 115, 84]⟩, .int .i64 2000] 27)).heap.size := by simp
  have hle : w.heap.size ≤ w1.heap.size := HB1.out.size
  generalize (w1.alloc (.cells #[.string ⟨#[84, 111, 119, 110]⟩, .int .i64 3600, .int .i64 0, .string ⟨#[88, 83, 84]⟩, .slice none 0 0, .slice (some c) 2 2, .int .i64 3600, .string ⟨#[88, 37, 115, 84]⟩, .int .i64 2000] 27)) = W at *
  refine (HN0.out _ W HB2.out HR2.out).mono ?_
  rintro e w3 ⟨rfl, hb3⟩
  have HB3 := Lib.hid (HB2.out.trans (hb3.mono HB2.out.size))
  have HR3 := Lib.hid (HR2.out.on hb3)
  have Z3 := Lib.hid (fun i u h => (hb3.cell (p := ⟨w1.heap.size, i, none⟩) hsz).trans (HZC.out i u h))
  have hsz3 : w1.heap.size < w3.heap.size := Nat.lt_of_lt_of_le hsz hb3.size
  clear hb3 HZC HB2 HR2 HN0
  have z0 := Z3.out 0 _ rfl
  have z1 := Z3.out 1 _ rfl
  have z2 := Z3.out 2 _ rfl
  have z3 := Z3.out 3 _ rfl
  have z4 := Z3.out 4 _ rfl
  have z5 := Z3.out 5 _ rfl
  have z6 := Z3.out 6 _ rfl
  have z7 := Z3.out 7 _ rfl
  have z8 := Z3.out 8 _ rfl
  go_wp2_with fail
  have HB4 := Lib.hid (HB3.out.alloc HB3.out.size (.cells #[.int .i64 951872400, .int .i64 7200, .int .i64 3600, .string ⟨#[88, 68, 84]⟩] 38))
  have hq4 := alloc_below' w3 (.cells #[.int .i64 951872400, .int .i64 7200, .int .i64 3600, .string ⟨#[88, 68, 84]⟩] 38)
  have HR4 := Lib.hid (HR3.out.on hq4)
  have Z4 := Lib.hid (fun i u h => (hq4.cell (p := ⟨w1.heap.size, i, none⟩) hsz3).trans (Z3.out i u h))
  have hsz4 : w1.heap.size < (w3.alloc (.cells #[.int .i64 951872400, .int .i64 7200, .int .i64 3600, .string ⟨#[88, 68, 84]⟩] 38)).heap.size := Nat.lt_of_lt_of_le hsz3 hq4.size
  clear hq4 z0 z1 z2 z3 z4 z5 z6 z7 z8
  generalize (w3.alloc (.cells #[.int .i64 951872400, .int .i64 7200, .int .i64 3600, .string ⟨#[88, 68, 84]⟩] 38)) = w4 at *
  refine (HN1.out _ w4 HB4.out HR4.out).mono ?_
  rintro e w5 ⟨rfl, hb5⟩
  have HB5 := Lib.hid (HB4.out.trans (hb5.mono HB4.out.size))
  have HR5 := Lib.hid (HR4.out.on hb5)
  have Z5 := Lib.hid (fun i u h => (hb5.cell (p := ⟨w1.heap.size, i, none⟩) hsz4).trans (Z4.out i u h))
  have hsz5 : w1.heap.size < w5.heap.size := Nat.lt_of_lt_of_le hsz4 hb5.size
  clear hb5 HB4 HR4 HN1 Z3 Z4 HB3 HR3
  have z0 := Z5.out 0 _ rfl
  have z1 := Z5.out 1 _ rfl
  have z2 := Z5.out 2 _ rfl
  have z3 := Z5.out 3 _ rfl
  have z4 := Z5.out 4 _ rfl
  have z5 := Z5.out 5 _ rfl
  have z6 := Z5.out 6 _ rfl
  have z7 := Z5.out 7 _ rfl
  have z8 := Z5.out 8 _ rfl
  go_wp2_with (go_at_call 35; refine (HV.out _ _ (HB5.out.alloc HB5.out.size (.cells #[.int .i64 973036800, .int .i64 3600, .int .i64 0, .string ⟨#[88, 83, 84]⟩] 38)) (HR5.out.on (alloc_below' w5 (.cells #[.int .i64 973036800, .int .i64 3600, .int .i64 0, .string ⟨#[88, 83, 84]⟩] 38)))).mono ?_; rintro e w7 ⟨rfl, hb7⟩)
  go_ret
  exact ⟨rfl, (HB5.out.alloc HB5.out.size (.cells #[.int .i64 973036800, .int .i64 3600, .int .i64 0, .string ⟨#[88, 83, 84]⟩] 38)).trans (hb7.mono (HB5.out.alloc HB5.out.size (.cells #[.int .i64 973036800, .int .i64 3600, .int .i64 0, .string ⟨#[88, 83, 84]⟩] 38)).size)⟩

end Go.Proofs.YtdpkolnfbimheaaGreat

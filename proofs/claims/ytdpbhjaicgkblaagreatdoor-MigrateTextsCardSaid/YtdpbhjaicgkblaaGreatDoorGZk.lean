/- Joined by merge.py: ZoneW9, BetP, ZoneW10, BetP2, ZoneW11. -/
import Derived.Test.YtdpbhjaicgkblaaGreatDoorGZh
import Derived.Test.YtdpbhjaicgkblaaGreatDoorGZoneP
import Derived.Test.YtdpbhjaicgkblaaGreatDoorGZc
import Derived.Maps.AppendAt
/- zone.span. -/
namespace Go.Proofs.YtdpbhjaicgkblaaGreatDoor
set_option linter.unusedSimpArgs false
set_option linter.unusedVariables false
open Go.ChangeShapes Go.WideShapes Go.ChangeAt Go.RowKit
theorem line_any (x : Int) (w : World) : Calls Tryz.prog 219 #[.int .i64 x] w fun e w' => e = .returned (.bool (decide (-4398046511104 ≤ x) && decide (x ≤ 4398046511104))) ∧ w = w' := by
 by_cases h1 : -4398046511104 ≤ x
 ·rw [decide_eq_true h1]
  go_enter Tryz.func219, Tryz.ntmps219
  go_wp2
  go_ret
  exact ⟨ret1 (vbool (by simp)), rfl⟩
 ·rw [decide_eq_false h1]
  go_enter Tryz.func219, Tryz.ntmps219
  go_wp2
  go_ret
  exact ⟨rfl, rfl⟩
def lineB (x : Int) : Bool := decide (-4398046511104 ≤ x) && decide (x ≤ 4398046511104)
def ivB (a b : Int) : Bool := lineB a && (lineB b && decide (a < b))
theorem iv_any (a b : Int) (w : World) : Calls Tryz.prog 210 #[.agg #[.int .i64 a, .int .i64 b]] w fun e w' => e = .returned (.bool (ivB a b)) ∧ Below w.heap.size w w' := by
 unfold ivB
 have HA := Lib.hid (fun W => line_any a W)
 have HB := Lib.hid (fun W => line_any b W)
 have ea : (decide (-4398046511104 ≤ a) && decide (a ≤ 4398046511104)) = lineB a := rfl
 have eb : (decide (-4398046511104 ≤ b) && decide (b ≤ 4398046511104)) = lineB b := rfl
 rw [ea] at HA
 rw [eb] at HB
 clear ea eb
 cases ha : lineB a
 ·rw [ha] at HA
  clear ha HB
  go_enter Tryz.func210, Tryz.ntmps210
  go_wp2_with (go_at_call 219; refine (HA.out _).mono ?_; rintro e w1 ⟨rfl, rfl⟩)
  go_ret
  exact ⟨rfl, (Below.refl _ _).alloc (Nat.le_refl _) _⟩
 ·rw [ha] at HA
  cases hb : lineB b
  ·rw [hb] at HB
   clear ha hb
   go_enter Tryz.func210, Tryz.ntmps210
   go_wp2_with (first | (go_at_call 219; refine (HA.out _).mono ?_; rintro e w1 ⟨rfl, rfl⟩; clear HA) | (go_at_call 219; refine (HB.out _).mono ?_; rintro e w1 ⟨rfl, rfl⟩))
   go_ret
   exact ⟨rfl, (Below.refl _ _).alloc (Nat.le_refl _) _⟩
  ·rw [hb] at HB
   clear ha hb
   go_enter Tryz.func210, Tryz.ntmps210
   go_wp2_with (first | (go_at_call 219; refine (HA.out _).mono ?_; rintro e w1 ⟨rfl, rfl⟩; clear HA) | (go_at_call 219; refine (HB.out _).mono ?_; rintro e w1 ⟨rfl, rfl⟩))
   go_ret
   exact ⟨ret1 (vbool (by simp)), (Below.refl _ _).alloc (Nat.le_refl _) _⟩
def spanB (a b : Int) : Bool := ivB a b && (decide (-62135596800 ≤ a) && decide (b ≤ 253402300800))
theorem span_in {a b : Int} (h : spanB a b = true) : -62135596800 ≤ a ∧ a < b ∧ b ≤ 253402300800 := by
 unfold spanB ivB at h
 simp only [Bool.and_eq_true, decide_eq_true_eq] at h
 exact ⟨h.2.1, h.1.2.2, h.2.2⟩
theorem span_any (a b : Int) (w : World) : Calls Tryz.prog 194 #[.agg #[.int .i64 a, .int .i64 b]] w fun e w' => e = .returned (.bool (spanB a b)) ∧ Below w.heap.size w w' := by
 unfold spanB
 have HV := Lib.hid (fun W => iv_any a b W)
 have HBZ := Lib.hid (show Below w.heap.size w (w.alloc (.cells #[.int .i64 a, .int .i64 b] 189)) from (Below.refl _ _).alloc (Nat.le_refl _) _)
 have hsz : w.heap.size < (w.alloc (.cells #[.int .i64 a, .int .i64 b] 189)).heap.size := by simp
 have HZC := Lib.hid (alloc_cells w [.int .i64 a, .int .i64 b] 189)
 cases hv : ivB a b
 ·rw [hv] at HV
  clear hv
  go_enter Tryz.func194, Tryz.ntmps194
  go_wp2_with (go_at_call 210; refine (HV.out _).mono ?_; rintro e w1 ⟨rfl, hb1⟩)
  go_ret
  exact ⟨rfl, HBZ.out.trans (hb1.mono (Nat.le_of_lt hsz))⟩
 ·rw [hv] at HV
  clear hv
  by_cases h1 : -62135596800 ≤ a
  ·have d1 : decide (-62135596800 ≤ a) = true := decide_eq_true h1
   rw [d1]
   go_enter Tryz.func194, Tryz.ntmps194
   go_wp2_with (go_at_call 210; refine (HV.out _).mono ?_; rintro e w1 ⟨rfl, hb1⟩; have x0 := (hb1.cell (p := ⟨w.heap.size, 0, none⟩) hsz).trans (HZC.out 0 _ rfl); have x1 := (hb1.cell (p := ⟨w.heap.size, 1, none⟩) hsz).trans (HZC.out 1 _ rfl))
   go_ret
   exact ⟨ret1 (vbool (by simp)), HBZ.out.trans (hb1.mono (Nat.le_of_lt hsz))⟩
  ·have d1 : decide (-62135596800 ≤ a) = false := decide_eq_false h1
   rw [d1]
   go_enter Tryz.func194, Tryz.ntmps194
   go_wp2_with (go_at_call 210; refine (HV.out _).mono ?_; rintro e w1 ⟨rfl, hb1⟩; have x0 := (hb1.cell (p := ⟨w.heap.size, 0, none⟩) hsz).trans (HZC.out 0 _ rfl); have x1 := (hb1.cell (p := ⟨w.heap.size, 1, none⟩) hsz).trans (HZC.out 1 _ rfl))
   go_ret
   exact ⟨rfl, HBZ.out.trans (hb1.mono (Nat.le_of_lt hsz))⟩
end Go.Proofs.YtdpbhjaicgkblaaGreatDoor
/- The transitions in a time span, as the code gathers them: window by window. No program in sight. -/
namespace Go.Proofs.YtdpbhjaicgkblaaGreatDoor
set_option linter.unusedSimpArgs false
set_option linter.unusedVariables false
open Go.Sort
def inAB (a b : Int) (x : Int × Trn) : Prop := a ≤ x.2.at_ ∧ x.2.at_ < b
instance (a b : Int) (x : Int × Trn) : Decidable (inAB a b x) := inferInstanceAs (Decidable (_ ∧ _))
def Zn.upto (z : Zn) (a b y : Int) : List (Int × Trn) := z.TT.filter fun x => decide (inAB a b x ∧ x.1 ≤ y - 1)
structure BetInv (z : Zn) (a b f y seen : Int) (q : Nat) : Prop where
 fy : f ≤ y - 9 * (q : Int)
 s0 : a - 1 ≤ seen
 s1 : seen = a - 1 ∨ ∃ x ∈ z.TT, x.1 ≤ y - 1 ∧ inAB a b x ∧ x.2.at_ = seen
 s2 : ∀ x ∈ z.TT, x.1 ≤ y - 1 → x.2.at_ < b → x.2.at_ ≤ seen
 qu : ∀ x ∈ z.TT, y - 9 * (q : Int) ≤ x.1 → x.1 ≤ y - 1 → ¬ inAB a b x
theorem TT_order {z : Zn} (ok : TailOk z) {x y : Int × Trn} (hx : x ∈ z.TT) (hy : y ∈ z.TT) (h : x.1 < y.1) : x.2.at_ < y.2.at_ := by
 obtain ⟨i, hi, rfl⟩ := List.getElem_of_mem hx
 obtain ⟨j, hj, rfl⟩ := List.getElem_of_mem hy
 have hA := List.pairwise_iff_getElem.1 (TT_asc ok)
 rcases Nat.lt_trichotomy i j with h1 | h1 | h1
 ·exact (hA i j hi hj h1).2
 ·subst h1; omega
 ·have := (hA j i hj hi h1).1; omega
theorem bet_start {z : Zn} (ok : TailOk z) {a b Y f : Int} (hY : YearOf a Y) (hf : f = max z.year (Y - 1)) : z.upto a b f = [] ∧ BetInv z a b f f (a - 1) 0 := by
 have he : ∀ x ∈ z.TT, x.1 ≤ f - 1 → x.2.at_ < a := fun x hx h => by
  have h1 := (TT_bd ok hx).1
  exact TT_earlier ok hY hx (by omega)
 refine ⟨List.filter_eq_nil_iff.2 fun x hx h => ?_, by omega, Int.le_refl _, .inl rfl, fun x hx h _ => ?_, fun x hx h1 h2 => by omega⟩
 ·simp only [decide_eq_true_eq] at h
  have := he x hx h.2
  have := h.1.1
  omega
 ·have := he x hx h; omega
theorem yr_split {l : List (Int × Trn)} (h : l.Pairwise Asc) {a b y e : Int} (hye : y - 1 ≤ e) : l.filter (fun x => decide (inAB a b x ∧ x.1 ≤ e)) = l.filter (fun x => decide (inAB a b x ∧ x.1 ≤ y - 1)) ++ l.filter (fun x => decide (inAB a b x ∧ y ≤ x.1 ∧ x.1 ≤ e)) := by
 induction l with
 | nil => rfl
 | cons x l ih =>
  obtain ⟨h1, h2⟩ := List.pairwise_cons.1 h
  have ih := ih h2
  simp only [List.filter_cons]
  by_cases g1 : x.1 ≤ y - 1
  ·have e2 : decide (inAB a b x ∧ y ≤ x.1 ∧ x.1 ≤ e) = false := decide_eq_false fun h => by omega
   have e3 : decide (inAB a b x ∧ x.1 ≤ e) = decide (inAB a b x ∧ x.1 ≤ y - 1) := by
    rw [decide_eq_decide]
    exact ⟨fun h => ⟨h.1, g1⟩, fun h => ⟨h.1, by omega⟩⟩
   rw [e2, e3, ih]
   split <;> simp
  ·have e1 : l.filter (fun x => decide (inAB a b x ∧ x.1 ≤ y - 1)) = [] := List.filter_eq_nil_iff.2 fun u hu hc => by
    have := (h1 u hu).1
    simp only [decide_eq_true_eq] at hc
    omega
   have e2 : decide (inAB a b x ∧ x.1 ≤ y - 1) = false := decide_eq_false fun h => by omega
   have e3 : decide (inAB a b x ∧ x.1 ≤ e) = decide (inAB a b x ∧ y ≤ x.1 ∧ x.1 ≤ e) := by
    rw [decide_eq_decide]
    exact ⟨fun h => ⟨h.1, by omega, h.2⟩, fun h => ⟨h.1, h.2.2⟩⟩
   rw [e1] at ih ⊢
   rw [e2, e3, ih]
   simp
def addW (seen b : Int) (l : List (Int × Trn)) : List (Int × Trn) := l.filter fun x => decide (seen < x.2.at_ ∧ x.2.at_ < b)
def lastW (seen : Int) (l : List (Int × Trn)) : Int := if l = [] then seen else (l[l.length - 1]!).2.at_
theorem bet_add {z : Zn} (ok : TailOk z) {a b f y seen : Int} {q : Nat} (hI : BetInv z a b f y seen q) (hf : z.year ≤ f) (hy : y ≤ 9999) : z.upto a b (y + 9) = z.upto a b y ++ addW seen b (z.winW y (min (y + 8) 9999)) := by
 have hfy := hI.fy
 obtain ⟨P, S, hT, hP, hS, hW⟩ := seg ok (f := y) (t := min (y + 8) 9999) (by omega) (by omega) (by omega)
 unfold Zn.upto
 rw [yr_split (TT_asc ok) (y := y) (by omega)]
 congr 1
 have hm : ∀ x ∈ z.winW y (min (y + 8) 9999), x ∈ z.TT := fun x hx => by rw [hT]; simp [hx]
 have e : z.TT.filter (fun x => decide (inAB a b x ∧ y ≤ x.1 ∧ x.1 ≤ y + 9 - 1)) = (z.winW y (min (y + 8) 9999)).filter (fun x => decide (inAB a b x ∧ y ≤ x.1 ∧ x.1 ≤ y + 9 - 1)) := by
  rw [hT, List.filter_append, List.filter_append]
  have e1 : P.filter (fun x => decide (inAB a b x ∧ y ≤ x.1 ∧ x.1 ≤ y + 9 - 1)) = [] := List.filter_eq_nil_iff.2 fun x hx hc => by
   have := hP x hx
   simp only [decide_eq_true_eq] at hc
   omega
  have e2 : S.filter (fun x => decide (inAB a b x ∧ y ≤ x.1 ∧ x.1 ≤ y + 9 - 1)) = [] := List.filter_eq_nil_iff.2 fun x hx hc => by
   have := hS x hx
   have := (TT_bd ok (x := x) (by rw [hT]; simp [hx])).2.1
   simp only [decide_eq_true_eq] at hc
   omega
  rw [e1, e2]
  simp
 rw [e]
 unfold addW
 refine List.filter_congr fun x hx => ?_
 rw [decide_eq_decide]
 have hx2 := hm x hx
 have hw := hW x hx
 constructor
 ·rintro ⟨⟨h1, h2⟩, h3, h4⟩
  refine ⟨?_, h2⟩
  rcases hI.s1 with h5 | ⟨u, hu, h6, _, h7⟩
  ·omega
  ·have := TT_order ok hu hx2 (by omega)
   omega
 ·rintro ⟨h1, h2⟩
  have h3 : y ≤ x.1 := by
   rcases Int.lt_or_le x.1 y with h4 | h4
   ·have := hI.s2 x hx2 (by omega) h2; omega
   ·exact h4
  have := hI.s0
  exact ⟨⟨by omega, h2⟩, h3, by omega⟩
theorem addW_mem {seen b : Int} {l : List (Int × Trn)} {x : Int × Trn} (h : x ∈ addW seen b l) : x ∈ l ∧ seen < x.2.at_ ∧ x.2.at_ < b := by
 have := List.mem_filter.1 h
 simpa using this
theorem lastW_ge {seen b : Int} {l : List (Int × Trn)} (hA : l.Pairwise Asc) : seen ≤ lastW seen (addW seen b l) ∧ ∀ x ∈ addW seen b l, x.2.at_ ≤ lastW seen (addW seen b l) := by
 have hA2 := hA.sublist (List.filter_sublist (p := fun x => decide (seen < x.2.at_ ∧ x.2.at_ < b)))
 unfold lastW
 split
 ·rename_i h
  exact ⟨Int.le_refl _, fun x hx => by rw [h] at hx; cases hx⟩
 ·rename_i h
  have hl : 0 < (addW seen b l).length := List.length_pos_iff.2 h
  rw [getElem!_pos _ ((addW seen b l).length - 1) (by omega)]
  refine ⟨Int.le_of_lt (addW_mem (List.getElem_mem (by omega))).2.1, fun x hx => ?_⟩
  obtain ⟨i, hi, rfl⟩ := List.getElem_of_mem hx
  rcases Nat.lt_or_eq_of_le (show i ≤ (addW seen b l).length - 1 by omega) with h5 | h5
  ·exact Int.le_of_lt ((List.pairwise_iff_getElem.1 hA2) i ((addW seen b l).length - 1) hi (show (addW seen b l).length - 1 < (addW seen b l).length by omega) h5).2
  ·simp only [h5]; exact Int.le_refl _
theorem lastW_mem {seen b : Int} {l : List (Int × Trn)} (h : addW seen b l ≠ []) : ∃ x ∈ addW seen b l, x.2.at_ = lastW seen (addW seen b l) := by
 have hl : 0 < (addW seen b l).length := List.length_pos_iff.2 h
 refine ⟨(addW seen b l)[(addW seen b l).length - 1]!, by rw [getElem!_pos _ _ (by omega)]; exact List.getElem_mem _, ?_⟩
 unfold lastW
 rw [if_neg h]
theorem bet_step {z : Zn} (ok : TailOk z) {a b f y seen : Int} {q : Nat} (hI : BetInv z a b f y seen q) (hf : z.year ≤ f) (hy : y ≤ 9999) :
  BetInv z a b f (y + 9) (lastW seen (addW seen b (z.winW y (min (y + 8) 9999)))) (if addW seen b (z.winW y (min (y + 8) 9999)) = [] then q + 1 else 0) := by
 have hfy := hI.fy
 have hs0 := hI.s0
 have hadd := bet_add ok hI hf hy
 obtain ⟨P, S, hT, hP, hS, hW⟩ := seg ok (f := y) (t := min (y + 8) 9999) (by omega) (by omega) (by omega)
 have hm : ∀ x ∈ z.winW y (min (y + 8) 9999), x ∈ z.TT := fun x hx => by rw [hT]; simp [hx]
 have hA : (z.winW y (min (y + 8) 9999)).Pairwise Asc := (TT_asc ok).sublist (by rw [hT, List.append_assoc]; exact (List.sublist_append_left _ _).trans (List.sublist_append_right _ _))
 have hge := lastW_ge (seen := seen) (b := b) hA
 -- members of the new years
 have hnew : ∀ x ∈ z.TT, inAB a b x → x.1 ≤ y + 8 → y ≤ x.1 → x ∈ addW seen b (z.winW y (min (y + 8) 9999)) := fun x hx h1 h2 h3 => by
  have h4 : x ∈ z.upto a b (y + 9) := List.mem_filter.2 ⟨hx, by simp; exact ⟨h1, by omega⟩⟩
  rw [hadd] at h4
  rcases List.mem_append.1 h4 with h4 | h4
  ·have := (List.mem_filter.1 h4).2
   simp only [decide_eq_true_eq] at this
   omega
  ·exact h4
 generalize hU : addW seen b (z.winW y (min (y + 8) 9999)) = U at *
 have hUT : ∀ x ∈ U, x ∈ z.TT ∧ seen < x.2.at_ ∧ x.2.at_ < b ∧ x.1 ≤ y + 8 := fun x hx => by
  rw [← hU] at hx
  obtain ⟨h1, h2, h3⟩ := addW_mem hx
  exact ⟨hm x h1, h2, h3, by have := hW x h1; omega⟩
 refine ⟨?_, by omega, ?_, fun x hx h1 h2 => ?_, fun x hx h1 h2 hc => ?_⟩
 ·split <;> omega
 ·by_cases hn : U = []
  ·rw [hn]
   unfold lastW
   rw [if_pos rfl]
   rcases hI.s1 with h5 | ⟨u, hu, h6, h7, h8⟩
   ·exact .inl h5
   ·exact .inr ⟨u, hu, by omega, h7, h8⟩
  ·rw [← hU] at hn
   obtain ⟨x, hx, h3⟩ := lastW_mem hn
   rw [hU] at hx h3
   obtain ⟨g1, g2, g3, g4⟩ := hUT x hx
   exact .inr ⟨x, g1, by omega, ⟨by omega, g3⟩, h3⟩
 ·rcases Int.lt_or_le x.1 y with h4 | h4
  ·have := hI.s2 x hx (by omega) h2; omega
  ·rcases Int.lt_or_le x.2.at_ a with h5 | h5
   ·omega
   ·exact hge.2 x (hnew x hx ⟨h5, h2⟩ (by omega) h4)
 ·split at h1
  ·rename_i hn
   rcases Int.lt_or_le x.1 y with h4 | h4
   ·exact hI.qu x hx (by omega) (by omega) hc
   ·have := hnew x hx hc (by omega) h4
    rw [hn] at this
    cases this
  ·omega
theorem bet_end {z : Zn} (ok : TailOk z) {a b f y seen Ya Yb : Int} {q : Nat} (hab : a < b) (ha : YearOf a Ya) (hb : YearOf (b - 1) Yb) (hf : f = max z.year (Ya - 1)) (hI : BetInv z a b f y seen q) (h : min 9999 (Yb + 1) < y ∨ 4 ≤ q) : z.upto a b y = z.TT.filter fun x => decide (inAB a b x) := by
 have y1 := ha.y1
 have z1 := ok.y1
 have key : ∀ x ∈ z.TT, inAB a b x → x.1 ≤ y - 1 := fun x hx hin => by
  by_cases hyy : min 9999 (Yb + 1) < y
  ·rcases Int.lt_or_le x.1 y with h4 | h4
   ·omega
   ·have h5 := (TT_bd ok hx).2.1
    have := TT_later ok hb hx (by omega)
    have := hin.2
    omega
  ·have hq : 4 ≤ q := by omega
   have hfy := hI.fy
   rcases Int.lt_or_le x.1 y with h4 | h4
   ·omega
   ·exfalso
    -- nothing in the years looked at
    by_cases hex : ∃ u ∈ z.TT, (y - 33 ≤ u.1 ∧ u.1 ≤ y - 1)
    ·obtain ⟨u, hu, h6, h7⟩ := hex
     have h8 := hI.qu u hu (by omega) h7
     have h9 := TT_later ok ha hu (by omega)
     have h10 := TT_order ok hu hx (by omega)
     have := hin.2
     exact h8 ⟨by omega, by omega⟩
    ·have hqa := quiet_after ok (u := y - 33) (v := y - 1) (by omega) (by omega) (by omega) (by omega) fun u hu h => hex ⟨u, hu, h⟩
     have := hqa.1 x hx
     omega
 unfold Zn.upto
 refine List.filter_congr fun x hx => ?_
 rw [decide_eq_decide]
 exact ⟨fun h => h.1, fun h => ⟨h, key x hx h⟩⟩
theorem upto_sub (z : Zn) (a b y : Int) : (z.upto a b y).length ≤ (z.TT.filter fun x => decide (inAB a b x)).length := by
 have : (z.upto a b y).Sublist (z.TT.filter fun x => decide (inAB a b x)) := by
  have e : z.upto a b y = (z.TT.filter fun x => decide (inAB a b x)).filter fun x => decide (x.1 ≤ y - 1) := by
   unfold Zn.upto
   rw [List.filter_filter]
   refine List.filter_congr fun x _ => ?_
   rw [Bool.and_comm, ← Bool.decide_and]
  rw [e]
  exact List.filter_sublist
 exact this.length_le
theorem betF_tail {z : Zn} (hn : z.tail ≠ []) (a b : Int) : z.betF a b = z.table.filter (fun x => decide (a ≤ x.at_ ∧ x.at_ < b)) ++ (z.TT.filter fun x => decide (inAB a b x)).map Prod.snd := by
 unfold Zn.betF Zn.T
 rw [if_neg hn, List.filter_append, List.filter_map]
 rfl
end Go.Proofs.YtdpbhjaicgkblaaGreatDoor
/- zone.Between: what is refused. -/
namespace Go.Proofs.YtdpbhjaicgkblaaGreatDoor
set_option linter.unusedSimpArgs false
set_option linter.unusedVariables false
open Go.ChangeShapes Go.WideShapes Go.ChangeAt Go.RowKit
def Zn.betV (z : Zn) (a b : Int) : List Trn × Int := if spanB a b = true ∧ z.valid = true then (if (z.betF a b).length ≤ 1000 then (z.betF a b, 0) else ([], 5)) else ([], 1)
def NoSpot (v : Value) : Prop := v = .slice none 0 0 ∨ ∃ b off n c, v = .slice (some ⟨b, off, none⟩) n c
theorem noSpot_own {w : World} {base : Nat} {e : TypeId} {size : Nat} {v : Value} {n : Nat} {xs : List Value} (h : w.ownsRow base e size v n xs) : NoSpot v := by
 rcases h.2 with ⟨e0, _⟩ | ⟨g, cap, cur, e0, _⟩
 ·exact .inl e0
 ·exact .inr ⟨_, _, _, _, e0⟩
theorem noSpot_nil : NoSpot (.slice none 0 0) := .inl rfl
def BetEnd (z : Zn) (a b : Int) (w : World) (e : Ending) (w' : World) : Prop := ∃ v, e = .returned (.tuple #[v, .int .i64 (z.betV a b).2]) ∧ Rd Trn.cells 4 w' v (z.betV a b).1 ∧ Below w.heap.size w w' ∧ NoSpot v
theorem own_lower {w : World} {base base' : Nat} {e : TypeId} {size : Nat} {v : Value} {n : Nat} {xs : List Value} (h : w.ownsRow base e size v n xs) (hb : base' ≤ base) : w.ownsRow base' e size v n xs := by
 refine ⟨h.1, ?_⟩
 rcases h.2 with h2 | ⟨g, cap, cur, h1, h2, h3⟩
 ·exact .inl h2
 ·exact .inr ⟨g, cap, cur, h1, Nat.le_trans hb h2, h3⟩
def BetOwn (z : Zn) (a b : Int) (w : World) (e : Ending) (w' : World) : Prop := ∃ v, e = .returned (.tuple #[v, .int .i64 (z.betV a b).2]) ∧ w'.ownsRow w.heap.size 68 4 v (z.betV a b).1.length ((z.betV a b).1.flatMap Trn.cells) ∧ Below w.heap.size w w' ∧ NoSpot v
theorem bet_end_of {z : Zn} {a b : Int} {w : World} {e : Ending} {w' : World} (h : BetOwn z a b w e w') : BetEnd z a b w e w' := by
 obtain ⟨v, h1, h2, h3, h4⟩ := h
 exact ⟨v, h1, rd_of_own trn_len h2 rfl, h3, h4⟩
set_option maxRecDepth 100000 in
set_option maxHeartbeats 4000000 in
theorem Between_no_own (z : Zn) (vT vR : Value) (a b : Int) (w : World) (hm : HasMax w) (hT : Rd Trn.cells 4 w vT z.table) (hR : Rd Rule.cells 11 w vR z.tail) (hfs : z.form.size < 4294967281) (hll : z.tail.length ≤ 12 ∨ 100 < z.tail.length) (hno : ¬ (spanB a b = true ∧ z.valid = true)) :
  Calls Tryz.prog 178 #[z.v vT vR, .agg #[.int .i64 a, .int .i64 b]] w (BetOwn z a b w) := by
 have HX := Lib.hid (show z.betV a b = ([], 1) from if_neg hno)
 have HSP := Lib.hid (fun W => span_any a b W)
 have HV := Lib.hid (fun W (hb : Below w.heap.size w W) => Valid_zone z vT vR W (hm.on hb) (hT.on hb) (hR.on hb) hfs hll)
 unfold BetOwn
 rw [HX.out]
 obtain ⟨AT, cT, rfl⟩ := rd_vf hT
 obtain ⟨AR, cR, rfl⟩ := rd_vf hR
 have hzc := alloc_cells w [.string z.nm, .int .i64 z.first.off, .int .i64 z.first.sv, .string z.first.nm, .slice AT z.table.length cT, .slice AR z.tail.length cR, .int .i64 z.off, .string z.form, .int .i64 z.year] 65
 have hbz : Below w.heap.size w (w.alloc (.cells #[.string z.nm, .int .i64 z.first.off, .int .i64 z.first.sv, .string z.first.nm, .slice AT z.table.length cT, .slice AR z.tail.length cR, .int .i64 z.off, .string z.form, .int .i64 z.year] 65)) := (Below.refl _ _).alloc (Nat.le_refl _) _
 have hszz : w.heap.size < (w.alloc (.cells #[.string z.nm, .int .i64 z.first.off, .int .i64 z.first.sv, .string z.first.nm, .slice AT z.table.length cT, .slice AR z.tail.length cR, .int .i64 z.off, .string z.form, .int .i64 z.year] 65)).heap.size := by simp
 have hbW : Below w.heap.size w ((w.alloc (.cells #[.string z.nm, .int .i64 z.first.off, .int .i64 z.first.sv, .string z.first.nm, .slice AT z.table.length cT, .slice AR z.tail.length cR, .int .i64 z.off, .string z.form, .int .i64 z.year] 65)).alloc (.cells #[.int .i64 a, .int .i64 b] 189)) := hbz.alloc hbz.size _
 have hszW : w.heap.size < ((w.alloc (.cells #[.string z.nm, .int .i64 z.first.off, .int .i64 z.first.sv, .string z.first.nm, .slice AT z.table.length cT, .slice AR z.tail.length cR, .int .i64 z.off, .string z.form, .int .i64 z.year] 65)).alloc (.cells #[.int .i64 a, .int .i64 b] 189)).heap.size := by simp; omega
 have hzW : ∀ i u, [Value.string z.nm, .int .i64 z.first.off, .int .i64 z.first.sv, .string z.first.nm, .slice AT z.table.length cT, .slice AR z.tail.length cR, .int .i64 z.off, .string z.form, .int .i64 z.year][i]? = some u → ((w.alloc (.cells #[.string z.nm, .int .i64 z.first.off, .int .i64 z.first.sv, .string z.first.nm, .slice AT z.table.length cT, .slice AR z.tail.length cR, .int .i64 z.off, .string z.form, .int .i64 z.year] 65)).alloc (.cells #[.int .i64 a, .int .i64 b] 189)).cell? ⟨w.heap.size, i, none⟩ = some u := fun i u h => Lib.cell?_alloc_some _ (hzc i u h)
 have HZW := Lib.hid hzW
 have HBW := Lib.hid hbW
 clear hT hR hm hno hzc hbz hbW hzW hszz
 unfold Zn.v at HV ⊢
 cases hs : spanB a b
 ·rw [hs] at HSP
  clear hs HV
  go_enter Tryz.func178, Tryz.ntmps178
  go_wp2_with (go_at_call 194; refine (HSP.out _).mono ?_; rintro e w1 ⟨rfl, hb1⟩)
  go_ret2
  exact ⟨_, rfl, World.ownsRow_nil _ _ _ _, HBW.out.trans (hb1.mono (Nat.le_of_lt hszW)), noSpot_nil⟩
 ·have hv : z.valid = false := by
   have h1 : z.betV a b = ([], 1) := HX.out
   cases h : z.valid with
   | false => rfl
   | true =>
    exfalso
    unfold Zn.betV at h1
    rw [if_pos ⟨hs, h⟩] at h1
    split at h1 <;> (injection h1 with _ h2; omega)
  rw [hv] at HV
  rw [hs] at HSP
  clear hs hv
  go_enter Tryz.func178, Tryz.ntmps178
  go_wp2_with (first
   | (go_at_call 194; refine (HSP.out _).mono ?_; rintro e w1 ⟨rfl, hb1⟩; have hb1W : Below w.heap.size w w1 := HBW.out.trans (hb1.mono (Nat.le_of_lt hszW)); have hsz1 : w.heap.size < w1.heap.size := Nat.lt_of_lt_of_le hszW hb1.size; have zz := (fun i u h => (hb1.cell (p := ⟨w.heap.size, i, none⟩) hszW).trans (HZW.out i u h)); have d0 := zz 0 _ rfl; have d1 := zz 1 _ rfl; have d2 := zz 2 _ rfl; have d3 := zz 3 _ rfl; have d4 := zz 4 _ rfl; have d5 := zz 5 _ rfl; have d6 := zz 6 _ rfl; have d7 := zz 7 _ rfl; have d8 := zz 8 _ rfl; clear zz)
   | (go_at_call 99; refine (HV.out _ hb1W).mono ?_; rintro e w3 ⟨rfl, hb3⟩))
  go_ret2
  exact ⟨_, rfl, World.ownsRow_nil _ _ _ _, hb1W.trans (hb3.mono (Nat.le_of_lt hsz1)), noSpot_nil⟩
end Go.Proofs.YtdpbhjaicgkblaaGreatDoor
/- The inner loop of the gathering of transitions: what is seen and what is added. No program in sight. -/
namespace Go.Proofs.YtdpbhjaicgkblaaGreatDoor
set_option linter.unusedSimpArgs false
set_option linter.unusedVariables false
open Go.Sort
def addT (seen b : Int) (l : List Trn) : List Trn := l.filter fun x => decide (seen < x.at_ ∧ x.at_ < b)
def lastS (seen : Int) (l : List Trn) : Int := if l = [] then seen else (l[l.length - 1]!).at_
theorem addW_T (seen b : Int) (l : List (Int × Trn)) : (addW seen b l).map Prod.snd = addT seen b (l.map Prod.snd) := by
 unfold addW addT
 rw [List.filter_map]; rfl
theorem lastW_S (seen : Int) (l : List (Int × Trn)) : lastW seen l = lastS seen (l.map Prod.snd) := by
 unfold lastW lastS
 by_cases h : l = []
 ·rw [h]; rfl
 ·have hl : 0 < l.length := List.length_pos_iff.2 h
  rw [if_neg h, if_neg (by simpa using h), getElem!_pos l (l.length - 1) (by omega), getElem!_pos (l.map Prod.snd) _ (by simp; omega), List.getElem_map]
  simp
def InnerRel (seen b : Int) (q : Nat) (L : List Trn) (k : Nat) (A : List Trn) (s c : Int) : Prop := addT seen b (L.take k) = A ∧ s = lastS seen A ∧ c = (if A = [] then (q : Int) + 1 else 0)
theorem inner_start (seen b : Int) (q : Nat) (L : List Trn) : InnerRel seen b q L 0 [] seen ((q : Int) + 1) := ⟨rfl, rfl, rfl⟩
theorem addT_mem {seen b : Int} {l : List Trn} {x : Trn} (h : x ∈ addT seen b l) : x ∈ l ∧ seen < x.at_ ∧ x.at_ < b := by
 have := List.mem_filter.1 h
 simpa using this
theorem take_asc {L : List Trn} (hA : L.Pairwise (fun x y => x.at_ < y.at_)) {k : Nat} (hk : k < L.length) : ∀ x ∈ L.take k, x.at_ < (L[k]!).at_ := fun x hx => by
 obtain ⟨i, hi, rfl⟩ := List.getElem_of_mem hx
 rw [List.length_take] at hi
 rw [List.getElem_take, getElem!_pos L k hk]
 exact (List.pairwise_iff_getElem.1 hA) i k (by omega) hk (by omega)
theorem lastS_cases {seen b : Int} {L : List Trn} : lastS seen (addT seen b L) = seen ∨ ∃ x ∈ L, seen < x.at_ ∧ x.at_ = lastS seen (addT seen b L) := by
 unfold lastS
 split
 ·exact .inl rfl
 ·rename_i h
  have hl : 0 < (addT seen b L).length := List.length_pos_iff.2 h
  rw [getElem!_pos (addT seen b L) _ (by omega)]
  have := addT_mem (List.getElem_mem (l := addT seen b L) (n := (addT seen b L).length - 1) (by omega))
  exact .inr ⟨_, this.1, this.2.1, rfl⟩
theorem addT_succ {seen b : Int} {L : List Trn} {k : Nat} (hk : k < L.length) : addT seen b (L.take (k + 1)) = addT seen b (L.take k) ++ (if seen < (L[k]!).at_ ∧ (L[k]!).at_ < b then [L[k]!] else []) := by
 unfold addT
 rw [List.take_succ_eq_append_getElem hk, List.filter_append, List.filter_cons, List.filter_nil, ← getElem!_pos L k hk]
 simp
theorem inner_add {seen b : Int} {q : Nat} {L : List Trn} (hA : L.Pairwise (fun x y => x.at_ < y.at_)) {k : Nat} (hk : k < L.length) {A : List Trn} {s c : Int} (h : InnerRel seen b q L k A s c) (h1 : s < (L[k]!).at_) (h2 : (L[k]!).at_ < b) : InnerRel seen b q L (k + 1) (A ++ [L[k]!]) (L[k]!).at_ 0 := by
 obtain ⟨rfl, rfl, rfl⟩ := h
 have h0 : seen < (L[k]!).at_ := by
  rcases lastS_cases (seen := seen) (b := b) (L := L.take k) with h | ⟨x, hx, h3, h4⟩
  ·omega
  ·omega
 refine ⟨by rw [addT_succ hk, if_pos ⟨h0, h2⟩], ?_, ?_⟩
 ·generalize addT seen b (L.take k) = A'
  unfold lastS
  rw [if_neg (by simp), List.length_append, List.length_singleton, Nat.add_sub_cancel, getElem!_pos (A' ++ [L[k]!]) A'.length (by rw [List.length_append]; simp), List.getElem_concat_length rfl]
 ·rw [if_neg (by simp)]
theorem inner_skip {seen b : Int} {q : Nat} {L : List Trn} (hA : L.Pairwise (fun x y => x.at_ < y.at_)) {k : Nat} (hk : k < L.length) {A : List Trn} {s c : Int} (h : InnerRel seen b q L k A s c) (h1 : ¬ (s < (L[k]!).at_ ∧ (L[k]!).at_ < b)) : InnerRel seen b q L (k + 1) A s c := by
 obtain ⟨rfl, rfl, rfl⟩ := h
 have h0 : ¬ (seen < (L[k]!).at_ ∧ (L[k]!).at_ < b) := fun ⟨g1, g2⟩ => h1 ⟨by
  rcases lastS_cases (seen := seen) (b := b) (L := L.take k) with h | ⟨x, hx, h3, h4⟩
  ·omega
  ·have := take_asc hA hk x hx; omega, g2⟩
 exact ⟨by rw [addT_succ hk, if_neg h0, List.append_nil], rfl, rfl⟩
theorem inner_len {seen b : Int} {q : Nat} {L : List Trn} {k : Nat} {A : List Trn} {s c : Int} (h : InnerRel seen b q L k A s c) : A.length ≤ k := by
 obtain ⟨rfl, _, _⟩ := h
 exact Nat.le_trans (List.length_filter_le _ _) (by rw [List.length_take]; omega)
theorem tailL_asc {z : Zn} (ok : TailOk z) {y : Int} (h1 : z.year ≤ y) (h2 : y ≤ 9999) : (z.tailL y (y + 8)).Pairwise (fun x y => x.at_ < y.at_) := by
 rw [tailL_of ok.ne h1 h2, List.pairwise_map]
 obtain ⟨P, S, hT, hP, hS, hW⟩ := seg ok (f := y) (t := min (y + 8) 9999) h1 (by omega) (by omega)
 exact ((TT_asc ok).sublist (by rw [hT, List.append_assoc]; exact (List.sublist_append_left _ _).trans (List.sublist_append_right _ _))).imp fun h => h.2
def Zn.uptoL (z : Zn) (a b y : Int) : List Trn := (z.upto a b y).map Prod.snd
theorem outer_step {z : Zn} (ok : TailOk z) {a b f y seen : Int} {q : Nat} (hI : BetInv z a b f y seen q) (hf : z.year ≤ f) (hy : y ≤ 9999) {A : List Trn} {s c : Int} (h : InnerRel seen b q (z.tailL y (y + 8)) (z.tailL y (y + 8)).length A s c) :
  ∃ q' : Nat, c = (q' : Int) ∧ q' ≤ q + 1 ∧ BetInv z a b f (y + 9) s q' ∧ z.uptoL a b (y + 9) = z.uptoL a b y ++ A := by
 obtain ⟨rfl, rfl, rfl⟩ := h
 have hfy := hI.fy
 rw [List.take_length]
 have h1 := bet_add ok hI hf hy
 have h2 := bet_step ok hI hf hy
 have e : addT seen b (z.tailL y (y + 8)) = (addW seen b (z.winW y (min (y + 8) 9999))).map Prod.snd := by rw [addW_T, tailL_of ok.ne (by omega) hy]
 rw [e, ← lastW_S]
 generalize addW seen b (z.winW y (min (y + 8) 9999)) = U at *
 refine ⟨if U = [] then q + 1 else 0, ?_, ?_, h2, ?_⟩
 ·by_cases hu : U = []
  ·simp [hu]
  ·simp [hu]
 ·split <;> omega
 ·unfold Zn.uptoL
  rw [h1, List.map_append]
theorem bet_done {z : Zn} (ok : TailOk z) {a b f y seen Ya Yb : Int} {q : Nat} (hab : a < b) (ha : YearOf a Ya) (hb : YearOf (b - 1) Yb) (hf : f = max z.year (Ya - 1)) (hI : BetInv z a b f y seen q) {T O : List Trn} (hT : T = z.table.filter (fun x => decide (a ≤ x.at_ ∧ x.at_ < b))) (hO : O = T ++ z.uptoL a b y) (h : min 9999 (Yb + 1) < y ∨ 4 ≤ q ∨ 1000 < O.length) :
  (if (z.betF a b).length ≤ 1000 then (z.betF a b, (0 : Int)) else ([], 5)) = if O.length ≤ 1000 then (O, 0) else ([], 5) := by
 have hB := betF_tail ok.ne a b
 have hs := upto_sub z a b y
 rw [← hT] at hB
 have hU : (z.uptoL a b y).length = (z.upto a b y).length := List.length_map _
 by_cases h3 : min 9999 (Yb + 1) < y ∨ 4 ≤ q
 ·have he := bet_end ok hab ha hb hf hI h3
  rw [hB, ← he, hO]; rfl
 ·have h4 : 1000 < O.length := by
   rcases h with h | h | h
   ·exact absurd (.inl h) h3
   ·exact absurd (.inr h) h3
   ·exact h
  rw [if_neg (by rw [hB, List.length_append, List.length_map]; rw [hO, List.length_append] at h4; omega), if_neg (by omega)]
end Go.Proofs.YtdpbhjaicgkblaaGreatDoor
/- zone.Between. -/
namespace Go.Proofs.YtdpbhjaicgkblaaGreatDoor
set_option linter.unusedSimpArgs false
set_option linter.unusedVariables false
open Go.ChangeShapes Go.WideShapes Go.ChangeAt Go.RowKit
def inP (a b : Int) (x : Trn) : Bool := decide (a ≤ x.at_ ∧ x.at_ < b)
theorem filter_step {p : Trn → Bool} {l : List Trn} {k : Nat} (hk : k < l.length) : (l.take (k + 1)).filter p = (l.take k).filter p ++ (if p l[k]! = true then [l[k]!] else []) := by
 rw [List.take_succ_eq_append_getElem hk, List.filter_append, List.filter_cons, List.filter_nil, ← getElem!_pos l k hk]
theorem filter_le {p : Trn → Bool} {l : List Trn} {k : Nat} : ((l.take k).filter p).length ≤ k :=
 Nat.le_trans (List.length_filter_le _ _) (by rw [List.length_take]; omega)
def BetRel (z : Zn) (a b F : Int) (w3 : World) (T : TypeId) (T0 : List Trn) (v6 v11 v12 v13 : Value) (wq : World) : Prop :=
 ∃ (j q : Nat) (s : Int), v13 = .int .i64 (F + 9 * j) ∧ v12 = .int .i64 q ∧ v11 = .int .i64 s ∧ j ≤ 2000 ∧ q ≤ 4 ∧ BetInv z a b F (F + 9 * j) s q ∧ (T0 ++ z.uptoL a b (F + 9 * j)).length ≤ 2000 ∧ wq.ownsRow w3.heap.size T 4 v6 (T0 ++ z.uptoL a b (F + 9 * j)).length ((T0 ++ z.uptoL a b (F + 9 * j)).flatMap Trn.cells) ∧ Below w3.heap.size w3 wq
theorem list_at {w0 w1 : World} {A8 : Option Addr} {c8 : Nat} {L : List Trn} (h : Rd Trn.cells 4 w1 (.slice A8 L.length c8) L) (hf : FrB w0.heap.size (.slice A8 L.length c8)) :
  ∃ g, 0 < L.length → w0.heap.size ≤ g ∧ ∃ off, A8 = some ⟨g, off, none⟩ ∧ g < w1.heap.size ∧ ∀ k, k < L.length → ∀ i u, (Trn.cells L[k]!)[i]? = some u → w1.cell? ⟨g, off + k * 4 + i, none⟩ = some u := by
 rcases h with ⟨rfl, _⟩ | ⟨g, off, c, hv, hg, hc⟩
 ·exact ⟨0, fun h => by simp at h⟩
 ·injection hv with e1 _ _
  subst e1
  exact ⟨g, fun _ => ⟨hf g rfl, off, rfl, hg, hc⟩⟩
theorem own_apart {w : World} {base : Nat} {e : TypeId} {size : Nat} {v : Value} {n : Nat} {xs : List Value} (h : w.ownsRow base e size v n xs) {g : Nat} (hg : w.heap.size ≤ g) : v.ownBlock ≠ some g := fun e => by
 have := (h.lt g e).2
 omega
theorem lt_blk {W w8 : World} {g : Nat} (h : W.heap[g]? = w8.heap[g]?) (hg : g < w8.heap.size) : g < W.heap.size := by
 rw [Array.getElem?_eq_getElem hg] at h
 exact (Array.getElem?_eq_some_iff.1 h).1
theorem sep_app {wr WA w2 w8 : World} {g : Nat} {v v' : Value} (hA : Below wr.heap.size wr WA) (h : wr.heap[g]? = w8.heap[g]?) (hg : g < w8.heap.size) (hne : v.ownBlock ≠ some g) (hg3 : WA.grownBy w2 v.ownBlock) (hat : v'.ownBlock = v.ownBlock ∨ v'.ownBlock = some WA.heap.size) : w2.heap[g]? = w8.heap[g]? ∧ v'.ownBlock ≠ some g := by
 have hl := lt_blk h hg
 have hs := hA.size
 refine ⟨(hg3.block g (by omega) (fun e => hne e.symm)).trans ((hA.block g hl).trans h), ?_⟩
 rcases hat with e | e
 ·rw [e]; exact hne
 ·rw [e]
  intro e2
  injection e2 with e2
  omega
def BetIn (seen b : Int) (q : Nat) (L O : List Trn) (w3 w8 : World) (g : Nat) (T : TypeId) (v6 v11 v12 i : Value) (wv : World) : Prop :=
 ∃ (k : Nat) (A : List Trn) (s c : Int), k ≤ L.length ∧ i = .int .i64 k ∧ v11 = .int .i64 s ∧ v12 = .int .i64 c ∧ InnerRel seen b q L k A s c ∧ wv.ownsRow w3.heap.size T 4 v6 (O ++ A).length ((O ++ A).flatMap Trn.cells) ∧ Below w3.heap.size w3 wv ∧ (0 < L.length → wv.heap[g]? = w8.heap[g]? ∧ v6.ownBlock ≠ some g)
set_option maxRecDepth 100000 in
set_option maxHeartbeats 20000000 in
theorem Between_main_own (z : Zn) (vT vR : Value) (a b : Int) (w : World) (hm : HasMax w) (hT : Rd Trn.cells 4 w vT z.table) (hR : Rd Rule.cells 11 w vR z.tail) (hfs : z.form.size < 4294967281) (hll : z.tail.length ≤ 12) (hsp : spanB a b = true) (hv : z.valid = true) :
  Calls Tryz.prog 178 #[z.v vT vR, .agg #[.int .i64 a, .int .i64 b]] w (BetOwn z a b w) := by
 have hab := span_in hsp
 have hl := (head_tab (valid_parts hv).1).2
 have hX : z.betV a b = (if (z.betF a b).length ≤ 1000 then (z.betF a b, 0) else ([], 5)) := if_pos ⟨hsp, hv⟩
 have HX := Lib.hid hX
 have HVV := Lib.hid hv
 have HSP := Lib.hid (fun W => span_any a b W)
 rw [hsp] at HSP
 have HV := Lib.hid (fun W (hb : Below w.heap.size w W) => Valid_zone z vT vR W (hm.on hb) (hT.on hb) (hR.on hb) hfs (.inl hll))
 rw [hv] at HV
 have HTT := Lib.hid hT
 have HRR := Lib.hid hR
 have HM := Lib.hid hm
 obtain ⟨i0, hi0, hz0, hz1, hz2⟩ := info_parts infoT
 obtain ⟨AT, cT, rfl⟩ := rd_vf hT
 obtain ⟨AR, cR, rfl⟩ := rd_vf hR
 have hzc := alloc_cells w [.string z.nm, .int .i64 z.first.off, .int .i64 z.first.sv, .string z.first.nm, .slice AT z.table.length cT, .slice AR z.tail.length cR, .int .i64 z.off, .string z.form, .int .i64 z.year] 65
 have hbz : Below w.heap.size w (w.alloc (.cells #[.string z.nm, .int .i64 z.first.off, .int .i64 z.first.sv, .string z.first.nm, .slice AT z.table.length cT, .slice AR z.tail.length cR, .int .i64 z.off, .string z.form, .int .i64 z.year] 65)) := (Below.refl _ _).alloc (Nat.le_refl _) _
 have hszz : w.heap.size < (w.alloc (.cells #[.string z.nm, .int .i64 z.first.off, .int .i64 z.first.sv, .string z.first.nm, .slice AT z.table.length cT, .slice AR z.tail.length cR, .int .i64 z.off, .string z.form, .int .i64 z.year] 65)).heap.size := by simp
 have hbW : Below w.heap.size w ((w.alloc (.cells #[.string z.nm, .int .i64 z.first.off, .int .i64 z.first.sv, .string z.first.nm, .slice AT z.table.length cT, .slice AR z.tail.length cR, .int .i64 z.off, .string z.form, .int .i64 z.year] 65)).alloc (.cells #[.int .i64 a, .int .i64 b] 189)) := hbz.alloc hbz.size _
 have hszW : w.heap.size < ((w.alloc (.cells #[.string z.nm, .int .i64 z.first.off, .int .i64 z.first.sv, .string z.first.nm, .slice AT z.table.length cT, .slice AR z.tail.length cR, .int .i64 z.off, .string z.form, .int .i64 z.year] 65)).alloc (.cells #[.int .i64 a, .int .i64 b] 189)).heap.size := by simp; omega
 have hzW : ∀ i u, [Value.string z.nm, .int .i64 z.first.off, .int .i64 z.first.sv, .string z.first.nm, .slice AT z.table.length cT, .slice AR z.tail.length cR, .int .i64 z.off, .string z.form, .int .i64 z.year][i]? = some u → ((w.alloc (.cells #[.string z.nm, .int .i64 z.first.off, .int .i64 z.first.sv, .string z.first.nm, .slice AT z.table.length cT, .slice AR z.tail.length cR, .int .i64 z.off, .string z.form, .int .i64 z.year] 65)).alloc (.cells #[.int .i64 a, .int .i64 b] 189)).cell? ⟨w.heap.size, i, none⟩ = some u := fun i u h => Lib.cell?_alloc_some _ (hzc i u h)
 have hsW := alloc_cells (w.alloc (.cells #[.string z.nm, .int .i64 z.first.off, .int .i64 z.first.sv, .string z.first.nm, .slice AT z.table.length cT, .slice AR z.tail.length cR, .int .i64 z.off, .string z.form, .int .i64 z.year] 65)) [.int .i64 a, .int .i64 b] 189
 rw [World.size_alloc] at hsW
 have hszS : w.heap.size + 1 < ((w.alloc (.cells #[.string z.nm, .int .i64 z.first.off, .int .i64 z.first.sv, .string z.first.nm, .slice AT z.table.length cT, .slice AR z.tail.length cR, .int .i64 z.off, .string z.form, .int .i64 z.year] 65)).alloc (.cells #[.int .i64 a, .int .i64 b] 189)).heap.size := by simp
 have HSW := Lib.hid hsW
 have HZW := Lib.hid hzW
 have HBW := Lib.hid hbW
 clear hT hR hm hzc hbz hbW hzW hszz hsW hX hv hsp
 unfold Zn.v at HV ⊢
 unfold BetOwn
 go_enter Tryz.func178, Tryz.ntmps178
 go_wp2_with (first
  | (go_at_call 194; refine (HSP.out _).mono ?_; rintro e w1 ⟨rfl, hb1⟩; have hb1W : Below w.heap.size w w1 := HBW.out.trans (hb1.mono (Nat.le_of_lt hszW)); have hsz1 : w.heap.size < w1.heap.size := Nat.lt_of_lt_of_le hszW hb1.size; have zz := (fun i u h => (hb1.cell (p := ⟨w.heap.size, i, none⟩) hszW).trans (HZW.out i u h)); have d0 := zz 0 _ rfl; have d1 := zz 1 _ rfl; have d2 := zz 2 _ rfl; have d3 := zz 3 _ rfl; have d4 := zz 4 _ rfl; have d5 := zz 5 _ rfl; have d6 := zz 6 _ rfl; have d7 := zz 7 _ rfl; have d8 := zz 8 _ rfl; clear zz)
  | (go_at_call 99; refine (HV.out _ hb1W).mono ?_; rintro e w3 ⟨rfl, hb3⟩; have x4 := (hb3.cell (p := ⟨w.heap.size, 4, none⟩) hsz1).trans d4))
 have hb13 := hb1.trans (hb3.mono hb1.size)
 have hb30 : Below w.heap.size w w3 := hb1W.trans (hb3.mono (Nat.le_of_lt hsz1))
 have hsz3 : w.heap.size + 1 < w3.heap.size := Nat.lt_of_lt_of_le hszS hb13.size
 have HBASE := Lib.hid (show w.heap.size ≤ w3.heap.size from Nat.le_trans (Nat.le_succ _) (Nat.le_of_lt hsz3))
 have Z3 := Lib.hid (fun i u h => (hb13.cell (p := ⟨w.heap.size, i, none⟩) hszW).trans (HZW.out i u h))
 have S3 := Lib.hid (And.intro ((hb13.cell (p := ⟨w.heap.size + 1, 0, none⟩) hszS).trans (HSW.out 0 _ rfl)) ((hb13.cell (p := ⟨w.heap.size + 1, 1, none⟩) hszS).trans (HSW.out 1 _ rfl)))
 clear hb1 hb3 hb13 hb1W hsz1 d0 d1 d2 d3 d4 d5 d6 d7 d8 x4 HSP HV HSW HZW HBW hszW hszS
 go_loopw [6, 27] (fun v6 i wr => ∃ k : Nat, k ≤ z.table.length ∧ i = .int .i64 k ∧ wr.ownsRow w3.heap.size 68 4 v6 ((z.table.take k).filter (inP a b)).length (((z.table.take k).filter (inP a b)).flatMap Trn.cells) ∧ Below w3.heap.size w3 wr) (fun _ i _ => z.table.length - (intOf i).toNat)
 case atStart => exact ⟨0, Nat.zero_le _, rfl, ⟨by simp, .inl ⟨rfl, by simp⟩⟩, Below.refl _ _⟩
 case round =>
  obtain ⟨k, hk, rfl, hown, hbr⟩ := hrel
  have hbr0 : Below w.heap.size w wr := hb30.trans (hbr.mono (by omega))
  have hszr : w.heap.size + 1 < wr.heap.size := Nat.lt_of_lt_of_le hsz3 hbr.size
  have hszb := hbr.size
  have hlo := filter_le (p := inP a b) (l := z.table) (k := k)
  by_cases hlt : k < z.table.length
  ·obtain ⟨gT, oT, hAT, hgT, hcT⟩ : ∃ gT oT, AT = some ⟨gT, oT, none⟩ ∧ gT < wr.heap.size ∧ ∀ i u, (Trn.cells z.table[k]!)[i]? = some u → wr.cell? ⟨gT, oT + k * 4 + i, none⟩ = some u := by
    rcases HTT.out.on hbr0 with ⟨e, _⟩ | ⟨gT, oT, c', hv, hgT, hcT⟩
    ·rw [e] at hlt; simp at hlt
    ·injection hv with e1 _ _
     exact ⟨gT, oT, e1, hgT, fun i u hu => hcT k hlt i u hu⟩
   subst hAT
   have e0 := hcT 0 _ rfl
   have e1 := hcT 1 _ rfl
   have e2 := hcT 2 _ rfl
   have e3 := hcT 3 _ rfl
   rw [Nat.add_zero] at e0
   have HFS := Lib.hid (filter_step (p := inP a b) hlt)
   generalize z.table[k]! = x at *
   obtain ⟨xa, xt⟩ := x
   dsimp only at *
   have s0 := (hbr.cell (p := ⟨w.heap.size + 1, 0, none⟩) hsz3).trans S3.out.1
   have s1 := (hbr.cell (p := ⟨w.heap.size + 1, 1, none⟩) hsz3).trans S3.out.2
   generalize (z.table.take k).filter (inP a b) = O at *
   have HOWN := Lib.hid hown
   have hqb : Below wr.heap.size wr (wr.alloc (.cells #[.int .i64 xa, .int .i64 xt.off, .int .i64 xt.sv, .string xt.nm] 68)) := alloc_below' _ _
   have HO2 := Lib.hid (own_on HOWN.out hqb)
   have hB8 : Below w3.heap.size w3 (wr.alloc (.cells #[.int .i64 xa, .int .i64 xt.off, .int .i64 xt.sv, .string xt.nm] 68)) := hbr.alloc hbr.size _
   clear hcT hown
   by_cases h1 : a ≤ xa
   ·have d1 : decide (a ≤ xa) = true := decide_eq_true h1
    by_cases h2 : xa < b
    ·have d2 : decide (xa < b) = true := decide_eq_true h2
     have HF := Lib.hid (show (z.table.take (k + 1)).filter (inP a b) = O ++ [⟨xa, xt⟩] by rw [HFS.out, if_pos (show inP a b ⟨xa, xt⟩ = true from decide_eq_true ⟨h1, h2⟩)])
     clear HFS
     go_wp2_with (at_builtin; go_loud (refine wpList_append_own _ rfl (.tmp 43) (.tmp 45) _ rfl w3.heap.size 68 i0 _ 4 40 Tryz.underlying62 hi0 hz0 hz1 hz2 rfl (by decide) _ _ _ rfl (HO2.out.alloc _) ⟨_, 0, none⟩ 1 1 (Trn.cells ⟨xa, xt⟩) rfl rfl (new_row_at (by simp) _) (trn_one _) (by simp only [maxLen]; omega) (by omega) (by simp; omega) ?_); intro v' w2 hown2 hg2 _)
     have hB9 : Below w3.heap.size w3 w2 := below_app HO2.out (Nat.le_refl _) (hB8.alloc hB8.size _) hg2
     go_roundw
     case rel => exact ⟨k + 1, by omega, by go_num, by rw [HF.out]; exact own_snoc (es := O) (x := (⟨xa, xt⟩ : Trn)) hown2, hB9⟩
     case measure => simp [intOf]; omega
    ·have d2 : decide (xa < b) = false := decide_eq_false h2
     have HF := Lib.hid (show (z.table.take (k + 1)).filter (inP a b) = O by rw [HFS.out, if_neg (by unfold inP; simp; omega), List.append_nil])
     clear HFS
     go_wp2
     go_roundw
     case rel => exact ⟨k + 1, by omega, by go_num, by rw [HF.out]; exact HO2.out, hB8⟩
     case measure => simp [intOf]; omega
   ·have d1 : decide (a ≤ xa) = false := decide_eq_false h1
    have HF := Lib.hid (show (z.table.take (k + 1)).filter (inP a b) = O by rw [HFS.out, if_neg (by unfold inP; simp; omega), List.append_nil])
    clear HFS
    go_wp2
    go_roundw
    case rel => exact ⟨k + 1, by omega, by go_num, by rw [HF.out]; exact HO2.out, hB8⟩
    case measure => simp [intOf]; omega
  ·have hke : k = z.table.length := by omega
   subst hke
   rw [List.take_length] at hown hlo
   by_cases h0 : z.tail = []
   ·have hbF : z.betF a b = z.table.filter (inP a b) := by
     unfold Zn.betF Zn.T
     rw [if_pos h0, List.append_nil]; rfl
    have hbV : z.betV a b = (z.table.filter (inP a b), 0) := by rw [HX.out, hbF, if_pos (by omega)]
    have HBV := Lib.hid hbV
    have HOWN := Lib.hid hown
    have zc5 := ((hbr.cell (p := ⟨w.heap.size, 5, none⟩) (by show w.heap.size < _; omega)).trans (Z3.out 5 _ rfl)).trans (show _ = some (Value.slice AR 0 cR) by rw [h0]; rfl)
    have hown1 := hown.1
    generalize z.table.filter (inP a b) = O at *
    have hO : ∃ A c, u6 = .slice A O.length c := rd_vf (rd_of_own trn_len hown rfl)
    obtain ⟨A6, c6, rfl⟩ := hO
    have hd : decide ((1000 : Int) < (O.length : Int)) = false := decide_eq_false (by omega)
    clear hbF hbV hown h0 hown1
    go_wp2
    go_ret2
    rw [HBV.out]
    exact ⟨_, rfl, own_lower HOWN.out HBASE.out, hbr0, noSpot_own HOWN.out⟩
   ·have hne0 : decide ((0 : Int) < (z.tail.length : Int)) = true := decide_eq_true (by
     have : 0 < z.tail.length := List.length_pos_iff.2 h0
     omega)
    have ok := valid_tail HVV.out h0
    have y1 := ok.y1
    have y2 := ok.y2
    obtain ⟨Ya, hYa, hCa⟩ := yearOf_det a (by omega) (by omega)
    obtain ⟨Yb, hYb, hCb⟩ := yearOf_det (b - 1) (by omega) (by omega)
    have hwb : IntKind.i64.wrap (b - 1) = b - 1 := by rw [IntKind.wrap_i64]; omega
    obtain ⟨c, hc⟩ : ∃ c, b - 1 = c := ⟨_, rfl⟩
    rw [hc] at hwb hCb
    have hcc : IntKind.i64.wrap c = c := by rw [IntKind.wrap_i64]; omega
    have hwc : IntKind.i64.wrap (b - 1) = c := by rw [hc]; exact hcc
    have HCA := Lib.hid hCa
    have HCB := Lib.hid hCb
    have HYA := Lib.hid hYa
    have HYB := Lib.hid hYb
    have HOK := Lib.hid ok
    have HOWN := Lib.hid hown
    have a1 := hYa.y1
    have a2 := hYa.y2
    have b1 := hYb.y1
    have b2 := hYb.y2
    have H0 := Lib.hid h0
    have zc5 := (hbr.cell (p := ⟨w.heap.size, 5, none⟩) (by show w.heap.size < _; omega)).trans (Z3.out 5 _ rfl)
    have zc8 := (hbr.cell (p := ⟨w.heap.size, 8, none⟩) (by show w.heap.size < _; omega)).trans (Z3.out 8 _ rfl)
    have s0 := (hbr.cell (p := ⟨w.heap.size + 1, 0, none⟩) hsz3).trans S3.out.1
    have s1 := (hbr.cell (p := ⟨w.heap.size + 1, 1, none⟩) hsz3).trans S3.out.2
    have hszr0 : w.heap.size < wr.heap.size := by omega
    have hdr : Below wr.heap.size wr wr.drew := below_drewN (Below.refl wr.heap.size wr) 1
    have HS := Lib.hid (fun w' (hb : Below wr.heap.size wr w') => And.intro hb (And.intro ((hb.cell (p := ⟨w.heap.size, 8, none⟩) hszr0).trans zc8) (And.intro ((hb.cell (p := ⟨w.heap.size + 1, 0, none⟩) hszr).trans s0) ((hb.cell (p := ⟨w.heap.size + 1, 1, none⟩) hszr).trans s1))))
    clear hCa hCb hYa hYb ok hown h0
    have hpos : 0 < z.tail.length := List.length_pos_iff.2 H0.out
    go_wp2
    try (exfalso; exact absurd hpos (by assumption))
    go_region_held3 (fun w' => Below wr.heap.size wr w' ∧ w'.cell? ⟨w.heap.size, 8, none⟩ = some (.int .i64 z.year) ∧ w'.cell? ⟨w.heap.size + 1, 0, none⟩ = some (.int .i64 a) ∧ w'.cell? ⟨w.heap.size + 1, 1, none⟩ = some (.int .i64 b)) (first | exact HS.out _ hdr | exact HS.out _ K7 | exact HS.out _ K6 | go_keep)
     (first | (go_at_call 195; refine (HCA.out _).mono ?_; rintro e w6 ⟨rfl, hb6⟩; have K6 := hdr.trans (hb6.mono hdr.size); clear HCA) | (go_at_call 195; (try rw [hwc]); (try rw [hc]); refine (HCB.out _).mono ?_; rintro e w7 ⟨rfl, hb7⟩; have K7 := K6.trans (hb7.mono K6.size)))
    all_goals
     have hb37 : Below w3.heap.size w3 w7 := hbr.trans (K7.mono hszb)
     have hown7 := own_on HOWN.out K7
     have hsz7 : w.heap.size + 1 < w7.heap.size := Nat.lt_of_lt_of_le hszr K7.size
     have t0 := (K7.cell (p := ⟨w.heap.size + 1, 0, none⟩) hszr).trans s0
     have HB37 := Lib.hid hb37
     have ha1 := hab.1
     have ha2 := hab.2.1
     have ha3 := hab.2.2
     have hwa : IntKind.i64.wrap (Ya - 1) = Ya - 1 := by rw [IntKind.wrap_i64]; omega
     have hwb' : IntKind.i64.wrap (Yb + 1) = Yb + 1 := by rw [IntKind.wrap_i64]; omega
     rw [hwa, hwb']
     obtain ⟨F, hF⟩ : ∃ F, max z.year (Ya - 1) = F := ⟨_, rfl⟩
     obtain ⟨E, hE⟩ : ∃ E, min 9999 (Yb + 1) = E := ⟨_, rfl⟩
     rw [hF, hE]
     have hF1 : z.year ≤ F := by omega
     have hF2 : 1 ≤ F := by omega
     have hF3 : F ≤ 9999 := by omega
     have hE1 : E ≤ 9999 := by omega
     have HFE := Lib.hid hF.symm
     have HEE := Lib.hid hE
     have HST := Lib.hid (bet_start HOK.out HYA.out hF.symm (b := b))
     obtain ⟨T0, hT0⟩ : ∃ T0, z.table.filter (inP a b) = T0 := ⟨_, rfl⟩
     rw [hT0] at hown7 hlo
     have HT0 := Lib.hid hT0
     have HOWN7 := Lib.hid hown7
     have hlo2 : T0.length ≤ 1000 := by omega
     clear hb37 hown7 hwa hwb' hF hE hT0 HOWN HCB hwb hc hcc hwc HS zc5 zc8 s0 s1 K6 hb6 hb7 hdr hlo K7 hbr hbr0
     go_wp2
     go_loopw [6, 11, 12, 13] (fun v6 v11 v12 v13 wq => BetRel z a b F w3 68 T0 v6 v11 v12 v13 wq) (fun _ _ _ v _ => (30000 - intOf v).toNat)
     case atStart => exact ⟨0, 0, _, by go_num, rfl, rfl, by omega, by omega, by rw [show F + 9 * ((0 : Nat) : Int) = F by omega]; exact HST.out.2, by rw [show F + 9 * ((0 : Nat) : Int) = F by omega]; unfold Zn.uptoL; rw [HST.out.1]; simp; omega, by rw [show F + 9 * ((0 : Nat) : Int) = F by omega]; unfold Zn.uptoL; rw [HST.out.1]; simpa using HOWN7.out, HB37.out⟩
     case round =>
      obtain ⟨j, q, s, rfl, rfl, rfl, hj, hq, hI, hlen, hownq, hbq⟩ := hrel
      obtain ⟨y, hy⟩ : ∃ y, F + 9 * (j : Int) = y := ⟨_, rfl⟩
      rw [hy] at hI hlen hownq ⊢
      have hy1 : 1 ≤ y := by omega
      have hy2 : y ≤ 30000 := by omega
      have hyF : z.year ≤ y := by omega
      obtain ⟨O, hO⟩ : ∃ O, T0 ++ z.uptoL a b y = O := ⟨_, rfl⟩
      rw [hO] at hlen hownq
      have HDONE := Lib.hid (fun h => HX.out.trans (bet_done HOK.out ha2 HYA.out HYB.out HFE.out hI HT0.out.symm hO.symm h))
      have HI := Lib.hid hI
      have HO := Lib.hid hO
      have HY := Lib.hid hy
      have hbq0 : Below w.heap.size w wr := hb30.trans (hbq.mono (by omega))
      have hszq : w.heap.size + 1 < wr.heap.size := Nat.lt_of_lt_of_le hsz3 hbq.size
      have hszq3 : w3.heap.size ≤ wr.heap.size := hbq.size
      have HOWNQ := Lib.hid hownq
      obtain ⟨A6, c6, rfl⟩ : ∃ A c, u6 = .slice A O.length c := rd_vf (rd_of_own trn_len hownq rfl)
      clear hI hO hy hownq
      by_cases c2 : (O.length : Int) ≤ 1000
      ·have d2 : decide ((O.length : Int) ≤ 1000) = true := decide_eq_true c2
       have dg : decide ((1000 : Int) < (O.length : Int)) = false := decide_eq_false (by omega)
       by_cases c1 : y ≤ E
       ·have d1 : decide (y ≤ E) = true := decide_eq_true c1
        by_cases c3 : (q : Int) < 4
        ·have d3 : decide ((q : Int) < 4) = true := decide_eq_true c3
         have e98 : y + 9 - 1 = y + 8 := by omega
         have HTA := Lib.hid (tail_any z _ _ y (y + 9 - 1) wr (HM.out.on hbq0) (by omega) (HTT.out.on hbq0) (HRR.out.on hbq0) hfs hll (fun _ => HOK.out) (by omega) (by omega) (by omega))
         unfold TailEnd at HTA
         unfold Zn.v at HTA
         rw [show z.tailL y (y + 9 - 1) = z.tailL y (y + 8) by rw [e98]] at HTA
         have HASC := Lib.hid (tailL_asc HOK.out hyF (show y ≤ 9999 by omega))
         have HSTEP := Lib.hid (fun A s' c' h => outer_step HOK.out HI.out hF1 (by omega) (A := A) (s := s') (c := c') h)
         have hLL : (z.tailL y (y + 8)).length ≤ 1000 := tailL_len z hll (by omega)
         generalize z.tailL y (y + 8) = L at *
         have Zq := Lib.hid (fun i u h => (hbq.cell (p := ⟨w.heap.size, i, none⟩) (by show w.heap.size < _; omega)).trans (Z3.out i u h))
         have zv0 := Zq.out 0 _ rfl
         have zv1 := Zq.out 1 _ rfl
         have zv2 := Zq.out 2 _ rfl
         have zv3 := Zq.out 3 _ rfl
         have zv4 := Zq.out 4 _ rfl
         have zv5 := Zq.out 5 _ rfl
         have zv6 := Zq.out 6 _ rfl
         have zv7 := Zq.out 7 _ rfl
         have zv8 := Zq.out 8 _ rfl
         clear e98
         go_wp2_with (go_at_call 196; refine HTA.out.mono ?_; rintro e w8 ⟨v8, rfl, hr8, hb8, hf8⟩; obtain ⟨A8, c8, rfl⟩ := rd_vf hr8)
         generalize hwq : wr = wq at *
         clear hwq
         have HG := Lib.hid (list_at hr8 hf8)
         have HOWN8 := Lib.hid (own_on HOWNQ.out hb8)
         have HB38 := Lib.hid (hbq.trans (hb8.mono hszq3))
         have HSEP := Lib.hid (fun g hg => own_apart HOWNQ.out (g := g) hg)
         have hsz8 : w.heap.size + 1 < w8.heap.size := Nat.lt_of_lt_of_le hszq hb8.size
         have hszq8 : wq.heap.size ≤ w8.heap.size := hb8.size
         clear zv0 zv1 zv2 zv3 zv4 zv5 zv6 zv7 zv8 hr8 hf8 HTA hb8 HOWNQ Zq
         obtain ⟨g8, hG⟩ := HG.out
         have HG8 := Lib.hid hG
         clear hG HG
         go_loopw [6, 11, 12, 92] (fun v6 v11 v12 i wv => BetIn s b q L O w3 w8 g8 68 v6 v11 v12 i wv) (fun _ _ _ i _ => L.length - (intOf i).toNat)
         case atStart => exact ⟨0, [], s, _, Nat.zero_le _, rfl, rfl, by go_num, inner_start s b q L, by rw [List.append_nil]; exact HOWN8.out, HB38.out, fun h => ⟨rfl, HSEP.out g8 (HG8.out h).1⟩⟩
         case round =>
          obtain ⟨k, A, s', c', hk, rfl, rfl, rfl, hI2, hown2, hb2, hsep⟩ := hrel
          have hlenA := inner_len hI2
          have HI2 := Lib.hid hI2
          have HOWN2 := Lib.hid hown2
          have HB2 := Lib.hid hb2
          have hsz2 : w3.heap.size ≤ wr.heap.size := hb2.size
          have hszr2 : w.heap.size + 1 < wr.heap.size := by omega
          have t1 := (hb2.cell (p := ⟨w.heap.size + 1, 1, none⟩) hsz3).trans S3.out.2
          by_cases hlk : k < L.length
          ·obtain ⟨hg1, off8, hA8, hg2, hcells⟩ := HG8.out (by omega)
           obtain ⟨hblk, hne⟩ := hsep (by omega)
           subst hA8
           have hc := fun i u h => (World.cell?_of_block (a := ⟨g8, off8 + k * 4 + i, none⟩) hblk).trans (hcells k hlk i u h)
           have e0 := hc 0 _ rfl
           have e1 := hc 1 _ rfl
           have e2 := hc 2 _ rfl
           have e3 := hc 3 _ rfl
           rw [Nat.add_zero] at e0
           have HADD := Lib.hid (fun h1 h2 => inner_add HASC.out hlk HI2.out h1 h2)
           have HSKIP := Lib.hid (fun h => inner_skip HASC.out hlk HI2.out h)
           have HBLK := Lib.hid hblk
           have HNE := Lib.hid hne
           generalize L[k]! = x at *
           obtain ⟨xa, xt⟩ := x
           dsimp only at *
           obtain ⟨P, hP⟩ : ∃ P, O ++ A = P := ⟨_, rfl⟩
           have hPl : P.length ≤ 3000 := by rw [← hP, List.length_append]; omega
           rw [hP] at HOWN2
           have HP := Lib.hid hP
           have hqb : Below wr.heap.size wr (wr.alloc (.cells #[.int .i64 xa, .int .i64 xt.off, .int .i64 xt.sv, .string xt.nm] 68)) := alloc_below' _ _
           have HO2 := Lib.hid (own_on HOWN2.out hqb)
           have hB8 : Below w3.heap.size w3 (wr.alloc (.cells #[.int .i64 xa, .int .i64 xt.off, .int .i64 xt.sv, .string xt.nm] 68)) := hb2.alloc hb2.size _
           have HQB := Lib.hid hqb
           have HXC := Lib.hid (alloc_cells wr [.int .i64 xa, .int .i64 xt.off, .int .i64 xt.sv, .string xt.nm] 68 0 _ rfl)
           have HNX := Lib.hid (own_apart HOWN2.out (Nat.le_refl wr.heap.size))
           clear hc hcells hI2 hown2 hb2 hsep hblk hne hP hqb
           by_cases h1 : s' < xa
           ·have dd1 : decide (s' < xa) = true := decide_eq_true h1
            by_cases h2 : xa < b
            ·have dd2 : decide (xa < b) = true := decide_eq_true h2
             go_wp2_with (at_builtin; go_loud (refine wpList_append_own_at _ rfl (.tmp 107) (.tmp 109) _ rfl w3.heap.size 68 i0 _ 4 40 Tryz.underlying62 hi0 hz0 hz1 hz2 rfl (by decide) _ _ _ rfl (HO2.out.alloc _) ⟨_, 0, none⟩ 1 1 (Trn.cells ⟨xa, xt⟩) rfl rfl (new_row_at (by simp) _) (trn_one _) (by simp only [maxLen]; omega) (by omega) (by simp; omega) ?_); intro v' wa hown3 hg3 _ hat; have x9 := hg3.cell (Lib.cell?_alloc_some _ HXC.out) (fun e => HNX.out e.symm))
             have hB9 : Below w3.heap.size w3 wa := below_app HO2.out (Nat.le_refl _) (hB8.alloc hB8.size _) hg3
             have HSP := Lib.hid (sep_app (HQB.out.alloc HQB.out.size _) HBLK.out hg2 HNE.out hg3 hat)
             have HO3 := Lib.hid (own_snoc (es := P) (x := (⟨xa, xt⟩ : Trn)) hown3)
             clear hown3 hg3 hat
             go_roundw
             case rel => exact ⟨k + 1, A ++ [⟨xa, xt⟩], xa, 0, by omega, by go_num, rfl, rfl, HADD.out h1 h2, by rw [← List.append_assoc, HP.out]; exact HO3.out, hB9, fun _ => HSP.out⟩
             case measure => simp [intOf]; omega
            ·have dd2 : decide (xa < b) = false := decide_eq_false h2
             go_wp2
             go_roundw
             case rel => exact ⟨k + 1, A, s', c', by omega, by go_num, rfl, rfl, HSKIP.out (fun h => h2 h.2), by rw [HP.out]; exact HO2.out, hB8, fun _ => ⟨(HQB.out.block g8 (lt_blk HBLK.out hg2)).trans HBLK.out, HNE.out⟩⟩
             case measure => simp [intOf]; omega
           ·have dd1 : decide (s' < xa) = false := decide_eq_false h1
            go_wp2
            go_roundw
            case rel => exact ⟨k + 1, A, s', c', by omega, by go_num, rfl, rfl, HSKIP.out (fun h => h1 h.1), by rw [HP.out]; exact HO2.out, hB8, fun _ => ⟨(HQB.out.block g8 (lt_blk HBLK.out hg2)).trans HBLK.out, HNE.out⟩⟩
            case measure => simp [intOf]; omega
          ·have hke : k = L.length := by omega
           subst hke
           obtain ⟨q', hc', hq', hI3, hU⟩ := HSTEP.out _ _ _ HI2.out
           subst hc'
           have HI3 := Lib.hid hI3
           have HU := Lib.hid hU
           clear hI3 hU hI2 hown2 hb2 hsep
           go_wp2
           go_roundw
           case rel => exact ⟨j + 1, q', s', by have := HY.out; congr 1; omega, rfl, rfl, by have := HY.out; omega, by omega, by rw [show F + 9 * ((j + 1 : Nat) : Int) = y + 9 by have := HY.out; omega]; exact HI3.out, by rw [show F + 9 * ((j + 1 : Nat) : Int) = y + 9 by have := HY.out; omega, HU.out, ← List.append_assoc, HO.out, List.length_append]; omega, by rw [show F + 9 * ((j + 1 : Nat) : Int) = y + 9 by have := HY.out; omega, HU.out, ← List.append_assoc, HO.out]; exact HOWN2.out, HB2.out⟩
           case measure => simp [intOf]; omega
        ·have d3 : decide ((q : Int) < 4) = false := decide_eq_false c3
         have HBV := Lib.hid ((HDONE.out (.inr (.inl (by omega)))).trans (if_pos (by omega)))
         go_wp2
         go_ret2
         rw [HBV.out]
         exact ⟨_, rfl, own_lower HOWNQ.out HBASE.out, hbq0, noSpot_own HOWNQ.out⟩
       ·have d1 : decide (y ≤ E) = false := decide_eq_false c1
        have HBV := Lib.hid ((HDONE.out (.inl (by rw [HEE.out]; omega))).trans (if_pos (by omega)))
        go_wp2
        go_ret2
        rw [HBV.out]
        exact ⟨_, rfl, own_lower HOWNQ.out HBASE.out, hbq0, noSpot_own HOWNQ.out⟩
      ·have d2 : decide ((O.length : Int) ≤ 1000) = false := decide_eq_false c2
       have dg : decide ((1000 : Int) < (O.length : Int)) = true := decide_eq_true (by omega)
       have HBV := Lib.hid ((HDONE.out (.inr (.inr (by omega)))).trans (if_neg (by omega)))
       by_cases c1 : y ≤ E
       ·have d1 : decide (y ≤ E) = true := decide_eq_true c1
        go_wp2
        go_ret2
        rw [HBV.out]
        exact ⟨_, rfl, World.ownsRow_nil _ _ _ _, hbq0, noSpot_nil⟩
       ·have d1 : decide (y ≤ E) = false := decide_eq_false c1
        go_wp2
        go_ret2
        rw [HBV.out]
        exact ⟨_, rfl, World.ownsRow_nil _ _ _ _, hbq0, noSpot_nil⟩
theorem Between_own (z : Zn) (vT vR : Value) (a b : Int) (w : World) (hm : HasMax w) (hT : Rd Trn.cells 4 w vT z.table) (hR : Rd Rule.cells 11 w vR z.tail) (hfs : z.form.size < 4294967281) (hll : z.tail.length ≤ 12 ∨ 100 < z.tail.length) :
  Calls Tryz.prog 178 #[z.v vT vR, .agg #[.int .i64 a, .int .i64 b]] w (BetOwn z a b w) := by
 by_cases h : spanB a b = true ∧ z.valid = true
 ·exact Between_main_own z vT vR a b w hm hT hR hfs (valid_len h.2 hll) h.1 h.2
 ·exact Between_no_own z vT vR a b w hm hT hR hfs hll h
theorem Between_any (z : Zn) (vT vR : Value) (a b : Int) (w : World) (hm : HasMax w) (hT : Rd Trn.cells 4 w vT z.table) (hR : Rd Rule.cells 11 w vR z.tail) (hfs : z.form.size < 4294967281) (hll : z.tail.length ≤ 12 ∨ 100 < z.tail.length) :
  Calls Tryz.prog 178 #[z.v vT vR, .agg #[.int .i64 a, .int .i64 b]] w (BetEnd z a b w) :=
 (Between_own z vT vR a b w hm hT hR hfs hll).mono fun _ _ h => bet_end_of h
end Go.Proofs.YtdpbhjaicgkblaaGreatDoor

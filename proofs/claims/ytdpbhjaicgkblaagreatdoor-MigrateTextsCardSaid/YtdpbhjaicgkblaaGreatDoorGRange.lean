/- Joined by merge.py: FarP, Range, Spaced, Years, ApartP. -/
import Derived.Test.YtdpbhjaicgkblaaGreatDoorGCrowd
import Derived.Test.YtdpbhjaicgkblaaGreatDoorGValid
import Derived.Test.YtdpbhjaicgkblaaGreatDoorGSu
/- Events that are far apart: what Spaced says. No program in sight. -/
namespace Go.Proofs.YtdpbhjaicgkblaaGreatDoor
set_option linter.unusedSimpArgs false
set_option linter.unusedVariables false
open Go.Sort
/-! ### bounds on the events of a year -/
theorem ahead_lo {y : Int} (h : 1 ≤ y ∧ y ≤ 9999) : ∀ m : Nat, m ≤ 12 → 28 * (m : Int) ≤ Cv.ahead y m
 | 0, _ => by simp [Cv.ahead]
 | m + 1, hm => by
  have ih := ahead_lo h m (by omega)
  have h2 := Cv.mlen_bd y ((m : Int) + 1)
  have h3 := Cv.lenF_in (y := y) (m := (m : Int) + 1) ⟨h.1, h.2, by omega, by omega⟩
  show 28 * ((m + 1 : Nat) : Int) ≤ Cv.ahead y m + Cv.lenF y ((m : Int) + 1)
  omega
theorem count_month {y m d : Int} (h : Cv.validB y m d = true) : Cv.first y + 28 * (m - 1) ≤ Cv.count y m d ∧ Cv.count y m d ≤ Cv.first y + 31 * m - 1 := by
 obtain ⟨a, b, c, e, f, g⟩ := Cv.validB_iff.1 h
 have h1 := Cv.first_ahead ⟨a, b⟩ c e d
 have h2 := ahead_lo ⟨a, b⟩ (m - 1).toNat (by omega)
 have h3 := Cv.ahead_bd y (m - 1).toNat
 have h4 := Cv.mlen_bd y m
 omega
theorem at_zero {r : Rule} {y : Int} (h : (r.at y).2 = 0) : r.valid = true ∧ r.has y = true ∧ (r.at y).1 = r.loc y := by
 unfold Rule.at at *
 cases hv : r.valid
 ·simp [hv] at h
 ·cases hh : r.has y
  ·simp [hv, hh] at h
  ·simp [hv, hh]
theorem at_zero_iff (r : Rule) (y : Int) : (r.at y).2 = 0 ↔ (r.valid = true ∧ r.has y = true) := by
 constructor
 ·intro h; exact ⟨(at_zero h).1, (at_zero h).2.1⟩
 ·rintro ⟨h1, h2⟩; unfold Rule.at; rw [if_neg (by simp [h1]), if_neg (by simp [h2])]
theorem at_month {r : Rule} {y : Int} (h : (r.at y).2 = 0) : (r.fr ≤ y ∧ y ≤ r.to) ∧ (1 ≤ y ∧ y ≤ 9999) ∧ (1 ≤ r.mo ∧ r.mo ≤ 12) ∧ (Cv.first y + 28 * (r.mo - 1) - 6) * 86400 ≤ (r.at y).1 ∧ (r.at y).1 ≤ (Cv.first y + 31 * r.mo + 5) * 86400 + 93600 := by
 obtain ⟨hv, hh, hl⟩ := at_zero h
 have ho := Rule.valid_ok hv
 have f1 := ho.fr
 have f2 := ho.max
 have a0 := ho.at0
 have a1 := ho.at1
 have hm := Cv.fitsB_mo ho.fits
 unfold Rule.has at hh
 simp only [Bool.and_eq_true, decide_eq_true_eq, beq_iff_eq] at hh
 obtain ⟨⟨g1, g2⟩, g3⟩ := hh
 rw [hl]
 unfold Rule.loc
 have hwk : r.k ≠ 1 → 1 ≤ r.wk ∧ r.wk ≤ 7 := fun hk => Cv.fitsB_wk ho.fits hk
 unfold Rule.day Cv.dayF at *
 rw [if_neg (by simp [ho.fits]), if_neg (by omega)] at g3 ⊢
 cases hvb : Cv.validB y r.mo (Cv.onN y r.mo r.k r.d)
 ·rw [if_pos hvb] at g3; simp at g3
 ·rw [if_neg (by simp [hvb])] at g3 ⊢
  cases hi : Cv.insideB (Cv.onDay r.k r.wk (Cv.count y r.mo (Cv.onN y r.mo r.k r.d)))
  ·rw [if_pos hi] at g3; simp at g3
  ·rw [if_neg (by simp [hi])]
   have h1 := Cv.onDay_bd (k := r.k) (wk := r.wk) (day := Cv.count y r.mo (Cv.onN y r.mo r.k r.d)) hwk
   have h2 := count_month hvb
   dsimp only
   generalize Cv.onDay r.k r.wk (Cv.count y r.mo (Cv.onN y r.mo r.k r.d)) = X at *
   generalize Cv.count y r.mo (Cv.onN y r.mo r.k r.d) = Z at *
   omega
theorem first_year {y : Int} (h : 1 ≤ y ∧ y ≤ 9999) : Cv.first y + 365 ≤ Cv.first (y + 1) := by
 have := Cv.first_succ h
 have := Cv.lp_bd y
 omega
theorem at_far2 {r q : Rule} {y : Int} (h : (r.at (y - 1)).2 = 0) (h2 : (q.at (y + 1)).2 = 0) : 604800 ≤ (q.at (y + 1)).1 - (r.at (y - 1)).1 := by
 obtain ⟨_, y1, m1, _, b1⟩ := at_month h
 obtain ⟨_, y2, m2, b2, _⟩ := at_month h2
 have f1 := first_year y1
 have f2 := first_year (y := y) ⟨by omega, by omega⟩
 rw [show y - 1 + 1 = y by omega] at f1
 omega
/-! ### the times of a year -/
def tm (y : Int) (r : Rule) : Option Int := if (r.at y).2 = 0 then some (r.at y).1 else none
def tms (rs : List Rule) (y : Int) : List Int := rs.filterMap (tm y)
def Apt (a b : Int) : Prop := 604800 ≤ b - a ∨ 604800 ≤ a - b
theorem Apt.symm {a b : Int} (h : Apt a b) : Apt b a := Or.symm h
def FarT (rs : List Rule) (y : Int) : Prop := (tms rs y).Pairwise Apt ∧ ∀ a ∈ tms rs y, ∀ b ∈ tms rs (y + 1), 604800 ≤ b - a
theorem mem_tms {rs : List Rule} {y a : Int} : a ∈ tms rs y ↔ ∃ r ∈ rs, (r.at y).2 = 0 ∧ (r.at y).1 = a := by
 unfold tms tm
 rw [List.mem_filterMap]
 constructor
 ·rintro ⟨r, hr, h⟩
  split at h
  ·exact ⟨r, hr, by assumption, by injection h⟩
  ·cases h
 ·rintro ⟨r, hr, h, rfl⟩
  exact ⟨r, hr, if_pos h⟩
theorem evs_tms (y : Int) : ∀ (i : Nat) (rs : List Rule), (evs y i rs).map Prod.fst = tms rs y
 | _, [] => rfl
 | i, r :: rs => by
  rw [evs, List.map_append, evs_tms y (i + 1) rs]
  unfold tms
  rw [List.filterMap_cons]
  unfold ev1 tm
  split <;> rfl
theorem year_perm (rs : List Rule) (y : Int) : ((yearF rs y).map Prod.fst).Perm (tms rs y) := by
 rw [← evs_tms y 0 rs]
 exact (List.mergeSort_perm _ _).map _
theorem leE_trans (a b c : Int × Int) (h1 : leE a b = true) (h2 : leE b c = true) : leE a c = true := by
 simp [leE, ltE] at *; omega
theorem leE_total (a b : Int × Int) : (leE a b || leE b a) = true := by
 simp [leE, ltE]; omega
theorem leE_le {a b : Int × Int} (h : leE a b = true) : a.1 ≤ b.1 := by simp [leE, ltE] at h; omega
theorem leE_anti {a b : Int × Int} (h1 : leE a b = true) (h2 : leE b a = true) : a = b := by
 obtain ⟨a1, a2⟩ := a
 obtain ⟨b1, b2⟩ := b
 simp [leE, ltE] at h1 h2
 have : a1 = b1 := by omega
 have : a2 = b2 := by omega
 simp [*]
theorem sorted_E (l : List (Int × Int)) : (l.mergeSort leE).Pairwise (fun a b => leE a b = true) := List.pairwise_mergeSort leE_trans leE_total l
theorem year_sorted (rs : List Rule) (y : Int) : (yearF rs y).Pairwise (fun a b => a.1 ≤ b.1) := (sorted_E _).imp leE_le
def farE (a b : Int × Int) : Prop := 604800 ≤ b.1 - a.1
theorem closeF_iff (es : List (Int × Int)) : closeF es = false ↔ es.Pairwise farE := by
 constructor
 ·intro h
  have hs : ∀ j (h1 : j + 1 < es.length), 604800 ≤ (es[j + 1]'h1).1 - (es[j]'(by omega)).1 := fun j h1 => by
   by_cases hc : (es[j + 1]!).1 - (es[j]!).1 < 604800
   ·rw [closeF_yes h1 hc] at h; cases h
   ·rw [getElem!_pos es (j + 1) h1, getElem!_pos es j (by omega)] at hc; omega
  have hd : ∀ (d i : Nat) (h1 : i + d + 1 < es.length), 604800 ≤ (es[i + d + 1]'h1).1 - (es[i]'(by omega)).1 := by
   intro d
   induction d with
   | zero => intro i h1; exact hs i h1
   | succ d ih =>
    intro i h1
    have e1 := ih i (by omega)
    have e2 := hs (i + d + 1) (by omega)
    have e3 : i + (d + 1) + 1 = i + d + 1 + 1 := by omega
    simp only [e3]
    omega
  rw [List.pairwise_iff_getElem]
  intro i j hi hj hij
  have := hd (j - i - 1) i (by omega)
  have e3 : i + (j - i - 1) + 1 = j := by omega
  simp only [e3] at this
  exact this
 ·intro h
  rw [List.pairwise_iff_getElem] at h
  refine closeF_no fun j hj => ?_
  have := h j (j + 1) (by omega) hj (by omega)
  unfold farE at this
  rw [getElem!_pos es (j + 1) hj, getElem!_pos es j (by omega)]
  omega
theorem year_far (rs : List Rule) (y : Int) : (yearF rs y).Pairwise farE ↔ (tms rs y).Pairwise Apt := by
 rw [← (year_perm rs y).pairwise_iff (fun h => Apt.symm h), List.pairwise_map]
 constructor
 ·intro h; exact h.imp fun h => .inl h
 ·intro h
  exact (h.and (year_sorted rs y)).imp fun {a b} ⟨h1, h2⟩ => by
   unfold farE
   rcases h1 with h1 | h1 <;> omega
theorem mem_year {rs : List Rule} {y a : Int} : a ∈ tms rs y ↔ ∃ x ∈ yearF rs y, x.1 = a := by
 rw [← (year_perm rs y).mem_iff, List.mem_map]
theorem crowd_iff (rs : List Rule) (y : Int) : crowdF rs y = false ↔ (FarT rs (y - 1) ∧ FarT rs y ∧ (tms rs (y + 1)).Pairwise Apt) := by
 unfold crowdF FarT
 rw [closeF_iff, List.pairwise_append, List.pairwise_append, year_far, year_far, year_far, show y - 1 + 1 = y by omega]
 constructor
 ·rintro ⟨⟨h1, h2, h3⟩, h4, h5⟩
  refine ⟨⟨h1, fun a ha b hb => ?_⟩, ⟨h2, fun a ha b hb => ?_⟩, h4⟩
  ·obtain ⟨x, hx, rfl⟩ := mem_year.1 ha
   obtain ⟨z, hz, rfl⟩ := mem_year.1 hb
   exact h3 x hx z hz
  ·obtain ⟨x, hx, rfl⟩ := mem_year.1 ha
   obtain ⟨z, hz, rfl⟩ := mem_year.1 hb
   exact h5 x (List.mem_append_right _ hx) z hz
 ·rintro ⟨⟨h1, h2⟩, ⟨h3, h4⟩, h5⟩
  refine ⟨⟨h1, h3, fun x hx z hz => h2 _ (mem_year.2 ⟨x, hx, rfl⟩) _ (mem_year.2 ⟨z, hz, rfl⟩)⟩, h5, fun x hx z hz => ?_⟩
  rcases List.mem_append.1 hx with hx | hx
  ·have ha : x.1 ∈ tms rs (y - 1) := mem_year.2 ⟨x, hx, rfl⟩
   have hb : z.1 ∈ tms rs (y + 1) := mem_year.2 ⟨z, hz, rfl⟩
   obtain ⟨r, _, h6, h7⟩ := mem_tms.1 ha
   obtain ⟨q, _, h8, h9⟩ := mem_tms.1 hb
   unfold farE
   rw [← h7, ← h9]
   exact at_far2 h6 h8
  ·exact h4 _ (mem_year.2 ⟨x, hx, rfl⟩) _ (mem_year.2 ⟨z, hz, rfl⟩)
/-! ### the cuts -/
theorem cuts_sorted (rs : List Rule) : ((cutsL rs).mergeSort fun x y => decide (x ≤ y)).Pairwise (fun a b => a ≤ b) :=
 (List.pairwise_mergeSort (le := fun x y : Int => decide (x ≤ y)) (fun a b c h1 h2 => by simp at *; omega) (fun a b => by simp; omega) _).imp fun h => by simpa using h
theorem compact_sorted {zs : List Int} (h : zs.Pairwise (fun a b => a ≤ b)) : (Lib.compact zs).Pairwise (fun a b => a ≤ b) := by
 unfold Lib.compact Lib.compactUpTo
 rw [List.pairwise_map]
 rw [List.pairwise_iff_getElem] at h
 have hlt : ((List.range zs.length).filter (Lib.keeps zs.toArray)).Pairwise (fun a b => a < b) := List.Pairwise.filter _ List.pairwise_lt_range
 have hm : ∀ j ∈ (List.range zs.length).filter (Lib.keeps zs.toArray), j < zs.length := fun j hj => List.mem_range.1 (List.mem_filter.1 hj).1
 refine List.Pairwise.imp_of_mem (fun {a b} ha hb hab => ?_) hlt
 have h1 := hm a ha
 have h2 := hm b hb
 have := h a b h1 h2 hab
 rw [getElem!_pos zs.toArray a (by simpa using h1), getElem!_pos zs.toArray b (by simpa using h2)]
 simpa using this
theorem compact_mem {zs : List Int} {x : Int} (hx : x ∈ zs) : x ∈ Lib.compact zs := by
 obtain ⟨n, hn, rfl⟩ := List.getElem_of_mem hx
 induction n with
 | zero =>
  unfold Lib.compact Lib.compactUpTo
  refine List.mem_map.2 ⟨0, List.mem_filter.2 ⟨List.mem_range.2 hn, by simp [Lib.keeps]⟩, ?_⟩
  rw [getElem!_pos zs.toArray 0 (by simpa using hn)]; simp
 | succ n ih =>
  by_cases e : zs[n + 1] = zs[n]
  ·rw [e]; exact ih (by omega) (List.getElem_mem _)
  ·unfold Lib.compact Lib.compactUpTo
   refine List.mem_map.2 ⟨n + 1, List.mem_filter.2 ⟨List.mem_range.2 hn, ?_⟩, ?_⟩
   ·unfold Lib.keeps
    rw [getElem!_pos zs.toArray (n + 1) (by simpa using hn)]
    simp only [Nat.add_sub_cancel]
    rw [getElem!_pos zs.toArray n (by simp; omega)]
    simp [e]
   ·rw [getElem!_pos zs.toArray (n + 1) (by simpa using hn)]; simp
theorem cutsF_sorted (rs : List Rule) : (cutsF rs).Pairwise (fun a b => a ≤ b) := compact_sorted (cuts_sorted rs)
theorem cutsF_mem {rs : List Rule} {r : Rule} (hr : r ∈ rs) : r.fr ∈ cutsF rs ∧ r.to + 1 ∈ cutsF rs := by
 have h : ∀ x ∈ cutsL rs, x ∈ cutsF rs := fun x hx => compact_mem ((List.mergeSort_perm _ _).mem_iff.2 hx)
 unfold cutsL at h
 exact ⟨h _ (List.mem_flatMap.2 ⟨r, hr, by simp⟩), h _ (List.mem_flatMap.2 ⟨r, hr, by simp⟩)⟩
theorem stretch : ∀ (C : List Int) (y : Int), (∃ a ∈ C, a ≤ y) → (∃ b ∈ C, y < b) → C.Pairwise (fun a b => a ≤ b) → ∃ i, i + 1 < C.length ∧ C[i]! ≤ y ∧ y < C[i + 1]!
 | [], y, ⟨a, ha, _⟩, _, _ => by simp at ha
 | [c], y, ⟨a, ha, h1⟩, ⟨b, hb, h2⟩, _ => by simp at ha hb; omega
 | c :: d :: C, y, ⟨a, ha, h1⟩, ⟨b, hb, h2⟩, hs => by
  have hs2 := List.pairwise_cons.1 hs
  by_cases hd : y < d
  ·refine ⟨0, by simp, ?_, by simpa using hd⟩
   have : c ≤ a := by
    rcases List.mem_cons.1 ha with e | e
    ·omega
    ·exact hs2.1 a e
   simp; omega
  ·obtain ⟨i, h3, h4, h5⟩ := stretch (d :: C) y ⟨d, by simp, by omega⟩ ⟨b, by
    rcases List.mem_cons.1 hb with e | e
    ·have := hs2.1 d (by simp); omega
    ·exact e, h2⟩ hs2.2
   exact ⟨i + 1, by simp at h3 ⊢; omega, by simpa using h4, by simpa using h5⟩
theorem tms_none {rs : List Rule} {y : Int} (h : ∀ r ∈ rs, ¬ (r.fr ≤ y ∧ y ≤ r.to)) : tms rs y = [] := by
 rw [List.eq_nil_iff_forall_not_mem]
 intro a ha
 obtain ⟨r, hr, h1, _⟩ := mem_tms.1 ha
 exact h r hr (at_month h1).1
theorem far_none {rs : List Rule} {y : Int} (h : tms rs y = []) : FarT rs y := by
 unfold FarT; rw [h]; exact ⟨List.Pairwise.nil, fun a ha => by simp at ha⟩
end Go.Proofs.YtdpbhjaicgkblaaGreatDoor
/- yearrule.Range: the events of years as a list. -/
namespace Go.Proofs.YtdpbhjaicgkblaaGreatDoor
set_option linter.unusedSimpArgs false
set_option linter.unusedVariables false
open Go.ChangeShapes Go.WideShapes Go.ChangeAt Go.RowKit Go.Sort
def evY (rs : List Rule) (from_ : Int) : Nat → List (Int × Int)
 | 0 => []
 | n + 1 => evY rs from_ n ++ yearF rs (from_ + n)
def srt (l : List (Int × Int)) : List (Int × Int) := l.mergeSort leE
theorem evY_len (rs : List Rule) (a : Int) : ∀ n, (evY rs a n).length ≤ n * rs.length
 | 0 => by simp [evY]
 | n + 1 => by
  have h1 := evY_len rs a n
  have h2 := crowd_len rs (a + n)
  rw [evY, List.length_append, Nat.add_mul, Nat.one_mul]; omega
theorem stableE (es : List (Int × Int)) (g cap : Nat) (w : World) (hH : HoldsK encE 2 w g 0 es.toArray) (hg : g < w.heap.size) (hl : es.length ≤ 1000000) :
  Calls Tryz.prog 152 #[.slice (some ⟨g, 0, none⟩) es.length cap, .func (.func 153) #[] #[]] w fun e w' => e = .returned (.tuple #[]) ∧ Rd encE 2 w' (.slice (some ⟨g, 0, none⟩) es.length cap) (srt es) ∧ ∀ B w0, Below B w0 w → B ≤ g → B ≤ w.heap.size → Below B w0 w' := by
 have R : RowK encE 2 w g 0 es.toArray := ⟨encE_len, encE_one, hH, hg⟩
 have h := stableFunc_w (k := 2) (enc := encE) (cap := cap) (g := 153) (cb := #[]) (cf := ordF) sizE (enters_of Tryz.func153 (by kernel_rfl) rfl) (fun m os dk _ x y => order_any x y _) swoE R es.toArray w rfl (SWK.start hH) (by simp; omega)
 have e1 : es.toArray.size = es.length := by simp
 rw [e1] at h
 refine h.mono ?_
 rintro e w' ⟨rfl, d', hp, hso, n, os, rfl⟩
 have hq : d'.toList = es.mergeSort (fun x y => !(ltOf ordF) y x) := by
  have := sorted_unique_holds swoE totE es.toArray d' (by rw [e1]; exact hp) (by rw [e1]; exact hso)
  simpa using this
 have e2 : (fun x y => !(ltOf ordF) y x) = leE := by rw [ltOf_ord']; rfl
 rw [e2] at hq
 have hd : d' = (srt es).toArray := by unfold srt; rw [← hq]
 rw [hd]
 exact ⟨rfl, rd_sorted encE_len hH (List.length_mergeSort _) hg, fun B w0 hb hB hB2 => below_sorted hb hB hB2⟩
theorem stable_none (A : Option Addr) (c : Nat) (fv : Value) (w : World) : Calls Tryz.prog 173 #[.slice A 0 c, .int .i64 0, fv] w fun e w' => e = .returned (.tuple #[]) ∧ w = w' := by
 go_enter Tryz.func173, Tryz.ntmps173
 go_wp2
 refine wp_loop_rounds 1 ?_
 rw [rounds_succ]
 go_wp2_with (go_at_call 191; refine (Tryz.insertionSortCmpFunc_none (α := Int) _ _ _ _).mono ?_; rintro e w' ⟨rfl, rfl⟩)
 refine wp_loop_rounds 1 ?_
 rw [rounds_succ]
 go_wp2
 go_end0
 exact ⟨rfl, rfl⟩
theorem stableFunc_none (A : Option Addr) (c : Nat) (fv : Value) (w : World) : Calls Tryz.prog 152 #[.slice A 0 c, fv] w fun e w' => e = .returned (.tuple #[]) ∧ w = w' := by
 go_enter Tryz.func152, Tryz.ntmps152
 go_wp2_with (go_at_call 173; refine (stable_none _ _ _ _).mono ?_; rintro e w' ⟨rfl, rfl⟩)
 go_end0
 exact ⟨rfl, rfl⟩
theorem own_form {w : World} {base n : Nat} {e : TypeId} {v : Value} {xs : List Value} (h : w.ownsRow base e 2 v n xs) : ∃ A c, v = .slice A n c := by
 rcases h.2 with ⟨rfl, rfl⟩ | ⟨g, cap, cur, rfl, _⟩
 ·exact ⟨none, 0, rfl⟩
 ·exact ⟨_, _, rfl⟩
def rangeF (rs : List Rule) (a b : Int) : List (Int × Int) × Int :=
 if allV rs = false then ([], 1) else if a < 1 ∨ b < a ∨ 9999 < b then ([], 2) else (srt (evY rs a (b - a + 1).toNat), 0)
def RangeOut (rs : List Rule) (a b : Int) (w : World) (e : Ending) (w' : World) : Prop :=
 ∃ v, e = .returned (.tuple #[v, .int .i64 (rangeF rs a b).2]) ∧ Rd encE 2 w' v (rangeF rs a b).1 ∧ Below w.heap.size w w'
set_option maxRecDepth 100000 in
set_option maxHeartbeats 2000000 in
theorem Range_any (rs : List Rule) (a b : Int) (v : Value) (w : World) (hl : rs.length ≤ 300000) (h : Rd Rule.cells 11 w v rs) (hf : 1 ≤ a → b ≤ 9999 → rs.length * (b - a + 1).toNat ≤ 1000) :
  Calls Tryz.prog 134 #[v, .int .i64 a, .int .i64 b] w (RangeOut rs a b w) := by
 have HA := Lib.hid (fun W h => all_any rs v W (by omega) h)
 have H := Lib.hid h
 cases hv : allV rs
 ·have e1 : rangeF rs a b = ([], 1) := if_pos hv
  have E := Lib.hid e1
  rw [hv] at HA
  clear h hf hv e1
  go_enter Tryz.func134, Tryz.ntmps134
  go_wp2_with fail
  refine (HA.out _ H.out).mono ?_
  rintro e w1 ⟨rfl, hb1⟩
  go_wp2
  go_ret2
  exact ⟨_, ret2 rfl (by rw [E.out]; rfl), by rw [E.out]; exact .inl ⟨rfl, none, 0, rfl⟩, hb1⟩
 ·by_cases hr : a < 1 ∨ b < a ∨ 9999 < b
  ·have e1 : rangeF rs a b = ([], 2) := by unfold rangeF; rw [if_neg (by simp [hv]), if_pos hr]
   have E := Lib.hid e1
   rw [hv] at HA
   clear h hf hv e1
   by_cases r1 : a < 1
   all_goals by_cases r2 : b < a
   all_goals
    have r3 : 1 ≤ a → a ≤ b → 9999 < b := fun h1 h2 => by omega
    first | (have r4 := r3 (by omega) (by omega); clear r3 hr) | clear r3 hr
    go_enter Tryz.func134, Tryz.ntmps134
    go_wp2_with fail
    refine (HA.out _ H.out).mono ?_
    rintro e w1 ⟨rfl, hb1⟩
    go_wp2
    all_goals go_ret2
    all_goals exact ⟨_, ret2 rfl (by rw [E.out]; rfl), by rw [E.out]; exact .inl ⟨rfl, none, 0, rfl⟩, hb1⟩
  ·have e1 : rangeF rs a b = (srt (evY rs a (b - a + 1).toNat), 0) := by unfold rangeF; rw [if_neg (by simp [hv]), if_neg hr]
   have E := Lib.hid e1
   rw [hv] at HA
   obtain ⟨r1, r2, r3⟩ : 1 ≤ a ∧ a ≤ b ∧ b ≤ 9999 := by omega
   have hcount := hf r1 r3
   have HY := Lib.hid (fun y W h => Year_any rs y v W (by omega) h)
   obtain ⟨i0, hi0, hz0, hz1, hz2⟩ := info_parts infoE
   clear h hf hv e1 hr
   go_enter Tryz.func134, Tryz.ntmps134
   go_wp2_with fail
   refine (HA.out _ H.out).mono ?_
   rintro e w1 ⟨rfl, hb1⟩
   have HB1 := Lib.hid hb1
   clear hb1
   go_wp2_with fail
   go_loopw [8, 9] (fun v8 v9 wr => ∃ n : Nat, (n : Int) ≤ b - a + 1 ∧ v9 = .int .i64 (a + n) ∧ wr.ownsRow w.heap.size 206 2 v8 (evY rs a n).length ((evY rs a n).flatMap encE) ∧ Below w.heap.size w wr) (fun _ v9 _ => (b + 1 - intOf v9).toNat)
   case atStart => exact ⟨0, by omega, vint (by omega), ⟨by simp [evY], .inl ⟨rfl, by simp [evY]⟩⟩, HB1.out⟩
   case round =>
    clear HB1 HA
    obtain ⟨n, hn, rfl, hown, hbw⟩ := hrel
    have hlen := evY_len rs a n
    have hlen2 := crowd_len rs (a + n)
    have hmul : n * rs.length + rs.length ≤ 1000 ∨ b - a < n := by
     by_cases hlt : (n : Int) ≤ b - a
     ·left
      have h1 : n + 1 ≤ (b - a + 1).toNat := by omega
      have h2 := Nat.mul_le_mul_right rs.length h1
      rw [Nat.add_mul, Nat.one_mul, Nat.mul_comm (b - a + 1).toNat] at h2
      omega
     ·right; omega
    have HO := Lib.hid hown
    by_cases hlt : (n : Int) ≤ b - a
    ·have hz : a + (n : Int) ≤ b := by omega
     have hm : n * rs.length + rs.length ≤ 1000 := by omega
     have HEV := Lib.hid (show evY rs a (n + 1) = evY rs a n ++ yearF rs (a + n) from rfl)
     have hlen3 : (evY rs a (n + 1)).length = (evY rs a n).length + (yearF rs (a + n)).length := by rw [HEV.out, List.length_append]
     clear hown hmul hcount
     go_wp2_with fail
     refine (HY.out _ _ (H.out.on hbw)).mono ?_
     rintro e w2 ⟨v1, rfl, hr1, b1⟩
     have R1 := Lib.hid hr1
     obtain ⟨A1, d1, rfl⟩ := rd_len hr1
     clear hr1
     have hb2 : Below w.heap.size w w2 := hbw.trans (b1.mono hbw.size)
     have HO2 := Lib.hid (own_on HO.out b1)
     go_wp2_with (at_builtin; refine wpList_append_rd rfl (.tmp 32) (.tmp 35) _ rfl w.heap.size 206 i0 _ 2 16 Tryz.underlying201 hi0 hz0 hz1 hz2 rfl (by decide) _ _ _ rfl HO2.out encE encE_len encE_one _ rfl (yearF rs (a + n)) R1.out (by simp only [maxLen]; omega) (by omega) hb2.size ?_; intro v2 w3 hown3 hg3; obtain ⟨A2, c2, rfl⟩ := own_form hown3)
     have hb3 := below_app HO2.out (Nat.le_refl _) hb2 hg3
     go_roundw
     case rel => exact ⟨n + 1, by omega, vint (by omega), by rw [HEV.out, List.length_append, List.flatMap_append]; exact hown3, hb3⟩
     case measure => simp [intOf]; omega
    ·have hz : ¬ a + (n : Int) ≤ b := by omega
     have hn1 : (b - a + 1).toNat = n := by omega
     have E2 := Lib.hid (show rangeF rs a b = (srt (evY rs a n), 0) by rw [E.out, hn1])
     have hle : (evY rs a n).length ≤ 1000 := by
      rw [hn1, Nat.mul_comm] at hcount
      omega
     clear hcount hmul hn1 E HO
     by_cases hv : u8 = .slice none 0 0
     ·have hnil : evY rs a n = [] := by
       rcases hown.2 with ⟨_, e1⟩ | ⟨g, cap, cur, e0, _⟩
       ·exact List.eq_nil_of_length_eq_zero e1
       ·rw [hv] at e0; cases e0
      have E3 := Lib.hid (show rangeF rs a b = ([], 0) by rw [E2.out, hnil]; unfold srt; rw [List.mergeSort_nil])
      subst hv
      clear hown hnil E2
      go_wp2_with (go_at_call 152; refine (stableFunc_none _ _ _ _).mono ?_; rintro e w1 ⟨rfl, rfl⟩)
      go_ret2
      exact ⟨_, ret2 rfl (by rw [E3.out]; rfl), by rw [E3.out]; exact .inl ⟨rfl, none, 0, rfl⟩, hbw⟩
     ·obtain ⟨g, cap, rfl, hg1, hg2, hg3, hg4, hH⟩ := holdsK_of_own encE_len hown rfl hv
      have HS := Lib.hid (stableE (evY rs a n) g cap wr hH hg2 (by omega))
      clear hown hv hH
      go_wp2_with (go_at_call 152; refine HS.out.mono ?_; rintro e w1 ⟨rfl, hrd, hbl⟩)
      go_ret2
      exact ⟨_, ret2 rfl (by rw [E2.out]; rfl), by rw [E2.out]; exact hrd, hbl _ _ hbw hg1 hbw.size⟩
end Go.Proofs.YtdpbhjaicgkblaaGreatDoor
/- yearrule.Spaced. -/
namespace Go.Proofs.YtdpbhjaicgkblaaGreatDoor
set_option linter.unusedSimpArgs false
set_option linter.unusedVariables false
open Go.ChangeShapes Go.WideShapes Go.ChangeAt Go.RowKit
theorem infoI : (Tryz.prog.info? 3).map (fun i => (i.zero, i.size, i.bytes)) = some (some (.int .i64 0), 1, 8) := by kernel_rfl
theorem Spaced_no (rs : List Rule) (v : Value) (w : World) (hl : rs.length ≤ 300000) (h : Rd Rule.cells 11 w v rs) (ha : allV rs = false) :
  Calls Tryz.prog 117 #[v] w fun e w' => e = .returned (.bool (spacedF rs)) ∧ Below w.heap.size w w' := by
 rw [spacedF_no ha]
 have hA := all_any rs v w (by omega) h
 rw [ha] at hA
 have HA := Lib.hid hA
 clear hA h ha
 go_enter Tryz.func117, Tryz.ntmps117
 go_wp2_with (go_at_call 130; refine HA.out.mono ?_; rintro e w1 ⟨rfl, hb1⟩)
 go_ret
 exact ⟨rfl, hb1⟩
theorem Spaced_nil (A : Option Addr) (c : Nat) (w : World) :
  Calls Tryz.prog 117 #[.slice A 0 c] w fun e w' => e = .returned (.bool (spacedF [])) ∧ Below w.heap.size w w' := by
 have hA := all_any [] (.slice A 0 c) w (by simp) (.inl ⟨rfl, A, c, rfl⟩)
 have HA := Lib.hid hA
 clear hA
 have hs : spacedF [] = true := by decide +kernel
 rw [hs]
 go_enter Tryz.func117, Tryz.ntmps117
 go_wp2_with (go_at_call 130; refine HA.out.mono ?_; rintro e w1 ⟨rfl, hb1⟩; rw [show allV [] = true from rfl])
 refine wp_loop_rounds 1 ?_
 rw [rounds_succ]
 go_wp2_with (first
  | (go_at_call 131; refine (Tryz.slices_Sort_int_none _ _ _).mono ?_; rintro e w' ⟨rfl, rfl⟩)
  | (go_at_call 132; refine (Tryz.slices_Compact_int_empty _ _ _).mono ?_; rintro e w' ⟨rfl, rfl⟩))
 refine wp_loop_rounds 1 ?_
 rw [rounds_succ]
 go_wp2
 go_ret
 exact ⟨rfl, hb1⟩
theorem flat_one (l : List Int) : l.flatMap (fun x => [Value.int .i64 x]) = l.map (Value.int .i64) := by induction l <;> simp_all
theorem new_row_at {w : World} {e : TypeId} {B : Nat} (h : B = w.heap.size) (cs : List Value) : ∀ j u, cs[j]? = some u → (w.alloc (.cells cs.toArray e)).cell? ((⟨B, 0, none⟩ : Addr).add j) = some u := by
 subst h; exact new_row w e cs
theorem two_one (a b : Int) : ∀ u ∈ [Value.int .i64 a, Value.int .i64 b], u.oneCell' = true := by
 intro v hv
 simp at hv
 rcases hv with rfl | rfl <;> rfl
theorem grow_below (w : World) (os : Array Obj) : Below w.heap.size w (Sort.grow w os) := ⟨rfl, rfl, rfl, by simp [Sort.grow], fun i hi => by simp [Sort.grow, Array.getElem?_append_left, hi]⟩
theorem not_nil {w : World} {base n : Nat} {v : Value} {xs : List Value} {t : TypeId} (h : w.ownsRow base t 1 v n xs) (hn : 0 < n) : v ≠ .slice none 0 0 := by
 rintro rfl
 rcases h.2 with ⟨_, e1⟩ | ⟨_, _, _, e0, _⟩
 ·omega
 ·cases e0
def enc1 (x : Int) : List Value := [.int .i64 x]
theorem Sort_own (base : Nat) (zs : List Int) (n : Nat) (v : Value) (w : World) (h : w.ownsRow base 3 1 v n (zs.map (Value.int .i64))) (hn : 0 < n) (hn2 : n ≤ 1000000) :
  Calls Tryz.prog 131 #[v] w fun e w' => e = .returned (.tuple #[]) ∧ w'.ownsRow base 3 1 v n ((zs.mergeSort fun x y => decide (x ≤ y)).map (Value.int .i64)) ∧ ∀ w0, Below base w0 w → Below base w0 w' := by
 obtain ⟨g, cap, rfl, hg1, hg2, hg3, hg4, hg5, hH⟩ := Lib.holds_of_ownsRow h (not_nil h hn)
 subst hg5
 refine (Tryz.slices_Sort_int g 0 cap zs w hH hg2 (by omega)).mono ?_
 rintro e w' ⟨rfl, n, os, rfl⟩
 have h2 := Lib.ownsRow_putRow (q := n) h (ys := zs.mergeSort fun x y => decide (x ≤ y)) (List.length_mergeSort _) (Nat.le_refl _)
 rw [List.take_of_length_le (by rw [List.length_mergeSort]; exact Nat.le_refl _)] at h2
 refine ⟨rfl, own_on h2 (grow_below _ _), fun w0 hb => ?_⟩
 have h3 := Lib.below_putRow (enc := Value.int .i64) (q := n) (d := (zs.mergeSort fun x y => decide (x ≤ y)).toArray) hb hg1
 exact h3.trans ((grow_below _ os).mono (by simp [Sort.putRow, Sort.mapBlock, Sort.ahead]; omega))
theorem Compact_own (base : Nat) (zs : List Int) (n : Nat) (v : Value) (w : World) (h : w.ownsRow base 3 1 v n (zs.map (Value.int .i64))) (hn : 0 < n) :
  Calls Tryz.prog 132 #[v] w fun e w' => ∃ A c, e = .returned (.slice A (Lib.compact zs).length c) ∧ Rd enc1 1 w' (.slice A (Lib.compact zs).length c) (Lib.compact zs) ∧ ∀ w0, Below base w0 w → Below base w0 w' := by
 obtain ⟨g, cap, rfl, hg1, hg2, hg3, hg4, hg5, hH⟩ := Lib.holds_of_ownsRow h (not_nil h hn)
 subst hg5
 have hcl := Lib.compact_length_le zs
 have hm : maxLen = 9223372036854775807 := rfl
 refine (Tryz.slices_Compact_int g 0 cap zs w hH (by omega) hg3).mono ?_
 rintro e w' ⟨rfl, q, rfl⟩
 have h2 := Lib.ownsRow_putRow (q := q) h (ys := Lib.compact zs ++ List.replicate (zs.length - (Lib.compact zs).length) 0) (by simp; omega) hcl
 rw [List.take_left' rfl] at h2
 rw [← flat_one] at h2
 exact ⟨_, _, rfl, rd_of_own (enc := enc1) (fun _ => rfl) h2 rfl, fun w0 hb => Lib.below_putRow hb hg1⟩
set_option maxRecDepth 100000 in
set_option maxHeartbeats 4000000 in
theorem Spaced_some (rs : List Rule) (b off c : Nat) (w : World) (hl : rs.length ≤ 300000) (h0 : 0 < rs.length) (hb : b < w.heap.size)
  (hc : ∀ j, j < rs.length → ∀ i u, (Rule.cells rs[j]!)[i]? = some u → w.cell? ⟨b, off + j * 11 + i, none⟩ = some u) (ha : allV rs = true) :
  Calls Tryz.prog 117 #[.slice (some ⟨b, off, none⟩) rs.length c] w fun e w' => e = .returned (.bool (spacedF rs)) ∧ Below w.heap.size w w' := by
 obtain ⟨i0, hi0, hz0, hz1, hz2⟩ := info_parts infoI
 have hR : Rd Rule.cells 11 w (.slice (some ⟨b, off, none⟩) rs.length c) rs := .inr ⟨b, off, c, rfl, hb, hc⟩
 have hA := all_any rs _ w (by omega) hR
 rw [ha] at hA
 have HA := Lib.hid hA
 have HR := Lib.hid hR
 have HCB := Lib.hid (fun i (hi : i < (cutsF rs).length) => cutsF_bd (allV_bd ha) hi)
 have HRB := Lib.hid (allV_bd ha)
 have HSP := Lib.hid (spacedF_ok ha)
 have HC := Lib.hid hc
 have hCl := cutsF_len rs
 have hB : ∀ y : Int, 0 ≤ y → y ≤ 10001 → ∀ W : World, Rd Rule.cells 11 W (.slice (some ⟨b, off, none⟩) rs.length c) rs → _ := fun y h1 h2 W h => crowded_any rs y _ W hl (by omega) h
 have HB := Lib.hid hB
 clear hA hR ha hc hB
 go_enter Tryz.func117, Tryz.ntmps117
 go_wp2_with (go_at_call 130; refine HA.out.mono ?_; rintro e w1 ⟨rfl, hb1⟩)
 go_loopw [3, 15] (fun v i wr => ∃ k : Nat, k ≤ rs.length ∧ i = .int .i64 k ∧ wr.ownsRow w.heap.size 3 1 v (2 * k) ((cutsL (rs.take k)).map (Value.int .i64)) ∧ Below w.heap.size w wr) (fun _ i _ => rs.length - (intOf i).toNat)
 case atStart => exact ⟨0, Nat.zero_le _, rfl, ⟨by simp [cutsL], .inl ⟨rfl, by simp [cutsL]⟩⟩, hb1⟩
 case round =>
  obtain ⟨k, hk, rfl, hown, hbw⟩ := hrel
  by_cases hlt : k < rs.length
  ·have hcell : ∀ i u, (Rule.cells rs[k]!)[i]? = some u → wr.cell? ⟨b, off + k * 11 + i, none⟩ = some u := fun i u hu => (hbw.cell (p := ⟨b, off + k * 11 + i, none⟩) hb).trans (HC.out k hlt i u hu)
   have hbd := HRB.out rs[k]! (by rw [getElem!_pos rs k hlt]; exact List.getElem_mem hlt)
   have hcu := cutsL_take rs k hlt
   generalize hrr : rs[k]! = r at *
   have HCU := Lib.hid hcu
   have c0 : wr.cell? ⟨b, off + k * 11, none⟩ = _ := hcell 0 _ rfl
   have c1 := hcell 1 _ rfl
   have c2 := hcell 2 _ rfl
   have c3 := hcell 3 _ rfl
   have c4 := hcell 4 _ rfl
   have c5 := hcell 5 _ rfl
   have c6 := hcell 6 _ rfl
   have c7 := hcell 7 _ rfl
   have c8 := hcell 8 _ rfl
   have c9 := hcell 9 _ rfl
   have c10 := hcell 10 _ rfl
   clear hcell hrr hcu
   have HOWN := Lib.hid hown
   clear hown
   go_wp2_with (at_builtin; go_loud (refine wpList_append_own _ rfl (.tmp 19) (.tmp 25) _ rfl w.heap.size 3 i0 _ 1 8 Tryz.underlying179 hi0 hz0 hz1 hz2 rfl (by decide) _ _ _ rfl ((own_on HOWN.out (alloc_below _ _)).alloc _) ⟨_, 0, none⟩ 2 2 [.int .i64 r.fr, .int .i64 (r.to + 1)] rfl rfl (new_row_at (by simp) _) (two_one _ _) (by simp only [maxLen]; omega) (by omega) (by have := hbw.size; simp; omega) ?_; intro v' w2 hown2 hg2 _))
   have hB1 : Below w.heap.size w ((wr.alloc (.cells (Rule.cells r).toArray 74)).alloc (.cells #[.int .i64 r.fr, .int .i64 (r.to + 1)] 3)) := (hbw.alloc hbw.size _).alloc (by have := hbw.size; simp; omega) _
   have hB2 := below_app HOWN.out (Nat.le_refl _) hB1 hg2
   go_roundw
   case rel => exact ⟨k + 1, by omega, by go_num, by rw [HCU.out, List.map_append, show 2 * (k + 1) = 2 * k + 2 by omega]; exact hown2, hB2⟩
   case measure => simp [intOf]; omega
  ·have hk' : k = rs.length := by omega
   subst hk'
   rw [List.take_length] at hown
   clear HC
   have HS := Lib.hid (Sort_own _ _ _ _ _ hown (by omega) (by omega))
   clear hown
   go_wp2_with (first
    | (go_at_call 131; refine HS.out.mono ?_; rintro e w2 ⟨rfl, hown2, hbl2⟩; have hb2 := hbl2 _ hbw; have HS3 := Lib.hid (Compact_own _ _ _ _ _ hown2 (by omega)); clear hown2 HS)
    | (go_at_call 132; rw [← cutsF_def] at HS3; refine HS3.out.mono ?_; rintro e w3 ⟨A3, c3, rfl, r3, hbl3⟩; have hb3 := hbl3 _ hb2; clear HS3))
   have R3 := Lib.hid r3
   clear r3
   generalize cutsF rs = C at *
   go_loopw [34] (fun i wr => ∃ k : Nat, k ≤ C.length ∧ i = .int .i64 k ∧ badsF rs C k = false ∧ Below w3.heap.size w3 wr ∧ Below w.heap.size w wr) (fun i _ => C.length - (intOf i).toNat)
   case atStart => exact ⟨0, Nat.zero_le _, rfl, rfl, Below.refl _ _, hb3⟩
   case round =>
    obtain ⟨k, hk, rfl, hbd, hb3k, hbk⟩ := hrel
    by_cases hlt : k < C.length
    ·rcases R3.out.on hb3k with ⟨e1, _⟩ | ⟨g, o, cc, e1, hg, hcell⟩
     ·rw [e1] at hlt; exact absurd hlt (by simp)
     cases e1
     have ha := HCB.out k hlt
     have c0 : wr.cell? ⟨g, o + k, none⟩ = some (.int .i64 C[k]!) := by have := hcell k hlt 0 _ rfl; rw [Nat.mul_one] at this; exact this
     have HD := Lib.hid hbd
     have HBD := Lib.hid (badsF_succ rs C k)
     have hBF := fun q hq h => badsF_yes hlt (badF_busy (rs := rs) (C := C) (i := k) (n := q) h hq)
     have hBL := fun h => badsF_yes hlt (badF_last (rs := rs) (C := C) (i := k) h)
     have hBN := fun h1 h2 => badF_no (rs := rs) (C := C) (i := k) h1 h2
     have hS : spanF C k = (min (toF C k) (C[k]! + 402) - C[k]!).toNat := rfl
     generalize spanF C k = S at *
     by_cases h1 : k + 1 < C.length
     ·have c1 : wr.cell? ⟨g, o + (k + 1), none⟩ = some (.int .i64 C[k + 1]!) := by have := hcell (k + 1) h1 0 _ rfl; rw [Nat.mul_one] at this; exact this
      have hT : toF C k = C[k + 1]! := if_pos h1
      rw [hT] at hBL hBN hS
      have hTb := HCB.out (k + 1) h1
      generalize C[k + 1]! = T at *
      generalize C[k]! = a at *
      have HBF := Lib.hid hBF
      have HBL := Lib.hid hBL
      have HBN := Lib.hid hBN
      clear hcell hbd hBF hBL hBN hT
      go_wp2
      rw [show decide ((k : Int) + 1 < (C.length : Int)) = true from decide_eq_true (by omega)]
      go_loopw [9] (fun y wi => ∃ q : Nat, q ≤ S ∧ y = .int .i64 (a + q) ∧ busyF rs a q = false ∧ Below w3.heap.size w3 wi ∧ Below w.heap.size w wi) (fun y _ => (20000 - intOf y).toNat)
      case atStart => exact ⟨0, Nat.zero_le _, by go_num, rfl, hb3k, hbk⟩
      case round =>
       obtain ⟨q, hq, rfl, hbz, hb3i, hbi⟩ := hrel
       by_cases hlq : q < S
       ·have HCR := Lib.hid (HB.out (a + q) (by omega) (by omega) wr (HR.out.on hbi))
        have HBS := Lib.hid (busyF_succ rs a q)
        have HBZ := Lib.hid hbz
        have hmin : a + (q : Int) < min T (a + 402) := by omega
        clear hbz
        cases hcr : crowdF rs (a + q)
        ·rw [hcr] at HCR HBS
         go_wp2_with (go_at_call 133; refine HCR.out.mono ?_; rintro e wj ⟨rfl, hbj⟩)
         go_roundw
         case rel => exact ⟨q + 1, by omega, by go_num, by rw [HBS.out, HBZ.out]; rfl, hb3i.trans (hbj.mono hb3i.size), hbi.trans (hbj.mono hbi.size)⟩
         case measure => simp [intOf]; omega
        ·rw [hcr] at HCR HBS
         go_wp2_with (go_at_call 133; refine HCR.out.mono ?_; rintro e wj ⟨rfl, hbj⟩)
         go_ret
         rw [HSP.out, HBF.out (q + 1) (by omega) (by rw [HBS.out]; simp)]
         exact ⟨rfl, hbi.trans (hbj.mono hbi.size)⟩
       ·have hqS : q = S := by omega
        have hmin : ¬ a + (q : Int) < min T (a + 402) := by omega
        have HCR := Lib.hid (HB.out (T - 1) (by omega) (by omega) wr (HR.out.on hbi))
        have HBZ := Lib.hid hbz
        clear hbz
        cases hcr : crowdF rs (T - 1)
        ·have HCF := Lib.hid hcr
         rw [hcr] at HCR
         clear hcr
         go_wp2_with (go_at_call 133; refine HCR.out.mono ?_; rintro e wj ⟨rfl, hbj⟩)
         have hbj2 : Below w.heap.size w wj := hbi.trans (hbj.mono hbi.size)
         go_roundw
         case rel => exact ⟨k + 1, by omega, by go_num, by rw [HBD.out, HD.out, HBN.out (hqS ▸ HBZ.out) HCF.out]; rfl, hb3i.trans (hbj.mono hb3i.size), hbj2⟩
         case measure => simp [intOf]; omega
        ·have HCF := Lib.hid hcr
         rw [hcr] at HCR
         clear hcr
         go_wp2_with (go_at_call 133; refine HCR.out.mono ?_; rintro e wj ⟨rfl, hbj⟩)
         go_ret
         rw [HSP.out, HBL.out HCF.out]
         exact ⟨rfl, hbi.trans (hbj.mono hbi.size)⟩
     ·have hT : toF C k = C[k]! := if_neg h1
      rw [hT] at hBL hBN hS
      generalize C[k]! = a at *
      have HBF := Lib.hid hBF
      have HBL := Lib.hid hBL
      have HBN := Lib.hid hBN
      clear hcell hbd hBF hBL hBN hT
      go_wp2
      go_loopw [9] (fun y wi => ∃ q : Nat, q ≤ S ∧ y = .int .i64 (a + q) ∧ busyF rs a q = false ∧ Below w3.heap.size w3 wi ∧ Below w.heap.size w wi) (fun y _ => (20000 - intOf y).toNat)
      case atStart => exact ⟨0, Nat.zero_le _, by go_num, rfl, hb3k, hbk⟩
      case round =>
       obtain ⟨q, hq, rfl, hbz, hb3i, hbi⟩ := hrel
       by_cases hlq : q < S
       ·have HCR := Lib.hid (HB.out (a + q) (by omega) (by omega) wr (HR.out.on hbi))
        have HBS := Lib.hid (busyF_succ rs a q)
        have HBZ := Lib.hid hbz
        have hmin : a + (q : Int) < min a (a + 402) := by omega
        clear hbz
        cases hcr : crowdF rs (a + q)
        ·rw [hcr] at HCR HBS
         go_wp2_with (go_at_call 133; refine HCR.out.mono ?_; rintro e wj ⟨rfl, hbj⟩)
         go_roundw
         case rel => exact ⟨q + 1, by omega, by go_num, by rw [HBS.out, HBZ.out]; rfl, hb3i.trans (hbj.mono hb3i.size), hbi.trans (hbj.mono hbi.size)⟩
         case measure => simp [intOf]; omega
        ·rw [hcr] at HCR HBS
         go_wp2_with (go_at_call 133; refine HCR.out.mono ?_; rintro e wj ⟨rfl, hbj⟩)
         go_ret
         rw [HSP.out, HBF.out (q + 1) (by omega) (by rw [HBS.out]; simp)]
         exact ⟨rfl, hbi.trans (hbj.mono hbi.size)⟩
       ·have hqS : q = S := by omega
        have hmin : ¬ a + (q : Int) < min a (a + 402) := by omega
        have HCR := Lib.hid (HB.out (a - 1) (by omega) (by omega) wr (HR.out.on hbi))
        have HBZ := Lib.hid hbz
        clear hbz
        cases hcr : crowdF rs (a - 1)
        ·have HCF := Lib.hid hcr
         rw [hcr] at HCR
         clear hcr
         go_wp2_with (go_at_call 133; refine HCR.out.mono ?_; rintro e wj ⟨rfl, hbj⟩)
         have hbj2 : Below w.heap.size w wj := hbi.trans (hbj.mono hbi.size)
         go_roundw
         case rel => exact ⟨k + 1, by omega, by go_num, by rw [HBD.out, HD.out, HBN.out (hqS ▸ HBZ.out) HCF.out]; rfl, hb3i.trans (hbj.mono hb3i.size), hbj2⟩
         case measure => simp [intOf]; omega
        ·have HCF := Lib.hid hcr
         rw [hcr] at HCR
         clear hcr
         go_wp2_with (go_at_call 133; refine HCR.out.mono ?_; rintro e wj ⟨rfl, hbj⟩)
         go_ret
         rw [HSP.out, HBL.out HCF.out]
         exact ⟨rfl, hbi.trans (hbj.mono hbi.size)⟩
    ·have hk' : k = C.length := by omega
     subst hk'
     have HD := Lib.hid hbd
     clear hbd
     go_wp2
     go_ret
     rw [HSP.out, HD.out]
     exact ⟨rfl, hbk⟩
theorem Spaced_any (rs : List Rule) (v : Value) (w : World) (hl : rs.length ≤ 300000) (h : Rd Rule.cells 11 w v rs) :
  Calls Tryz.prog 117 #[v] w fun e w' => e = .returned (.bool (spacedF rs)) ∧ Below w.heap.size w w' := by
 cases ha : allV rs
 ·exact Spaced_no rs v w hl h ha
 ·by_cases h0 : rs = []
  ·subst h0
   rcases h with ⟨_, A, c, rfl⟩ | ⟨g, off, c, rfl, _⟩
   ·exact Spaced_nil A c w
   ·exact Spaced_nil _ c w
  ·rcases h with ⟨h1, _⟩ | ⟨g, off, c, rfl, hg, hc⟩
   ·exact absurd h1 h0
   ·exact Spaced_some rs g off c w hl (List.length_pos_iff.2 h0) hg hc ha
end Go.Proofs.YtdpbhjaicgkblaaGreatDoor
/- The law's own guard: years. -/
namespace Go.Proofs.YtdpbhjaicgkblaaGreatDoor
set_option linter.unusedSimpArgs false
set_option linter.unusedVariables false
open Go.ChangeShapes Go.WideShapes Go.ChangeAt Go.RowKit
end Go.Proofs.YtdpbhjaicgkblaaGreatDoor
/- The events of the years of a spaced list are far apart. No program in sight. -/
namespace Go.Proofs.YtdpbhjaicgkblaaGreatDoor
set_option linter.unusedSimpArgs false
set_option linter.unusedVariables false
open Go.Sort
theorem first_many {y : Int} (h : 1 ≤ y) : ∀ k : Nat, y + k ≤ 10000 → Cv.first y + 365 * (k : Int) ≤ Cv.first (y + k)
 | 0, _ => by simp
 | k + 1, hk => by
  have h1 := first_many h k (by omega)
  have h2 := first_year (y := y + k) (by omega)
  rw [show y + (k : Int) + 1 = y + ((k + 1 : Nat) : Int) by omega] at h2
  omega
theorem at_farN {r q : Rule} {y z : Int} (hz : y + 2 ≤ z) (h : (r.at y).2 = 0) (h2 : (q.at z).2 = 0) : 604800 ≤ (q.at z).1 - (r.at y).1 := by
 obtain ⟨_, y1, m1, _, b1⟩ := at_month h
 obtain ⟨_, y2, m2, b2, _⟩ := at_month h2
 have f1 := first_many y1.1 (z - y).toNat (by omega)
 rw [show y + ((z - y).toNat : Int) = z by omega] at f1
 omega
theorem mem_yearF {rs : List Rule} {y : Int} {x : Int × Int} (h : x ∈ yearF rs y) : x.1 ∈ tms rs y := mem_year.2 ⟨x, h, rfl⟩
theorem srt_far {l : List (Int × Int)} (h : l.Pairwise farE) : srt l = l := by
 refine List.Perm.eq_of_pairwise (fun a b _ _ h1 h2 => leE_anti h1 h2) (sorted_E _) (h.imp fun {a b} h => ?_) (List.mergeSort_perm _ _)
 have h' : 604800 ≤ b.1 - a.1 := h
 simp [leE, ltE]; omega
end Go.Proofs.YtdpbhjaicgkblaaGreatDoor

/- Events that are far apart: what Spaced says. No program in sight. -/
import Derived.Test.YtjpjmlljgcpbkaaGreatSpacedP
namespace Go.Proofs.YtjpjmlljgcpbkaaGreat
set_option linter.unusedSimpArgs false
set_option linter.unusedVariables false
open Go.Sort

/-! ### bounds on the events of a year -/
theorem ahead_lo {y : Int} (h : 1 ≤ y ∧ y ≤ 9999) : ∀ m : Nat, m ≤ 12 → 28 * (m : Int) ≤ Cv.ahead y m
  | 0, _ => by simp [Cv.ahead]
  | m + 1, hm => by
    have ih := ahead_lo h m (by omega)
    have h2 := Cv.mlen_bd y ((m : Int) + 1)
    have h3 := Cv.lenF_in (y := y) (m := (m : Int) + 1) ⟨h.1, h.2, by omega, by omega⟩
    show 28 * ((m + 1 : Nat) : Int) ≤ Cv.ahead y m + Cv.lenF y ((m : Int) + 1)
    omega
theorem count_month {y m d : Int} (h : Cv.validB y m d = true) : Cv.first y + 28 * (m - 1) ≤ Cv.count y m d ∧ Cv.count y m d ≤ Cv.first y + 31 * m - 1 := by
  obtain ⟨a, b, c, e, f, g⟩ := Cv.validB_iff.1 h
  have h1 := Cv.first_ahead ⟨a, b⟩ c e d
  have h2 := ahead_lo ⟨a, b⟩ (m - 1).toNat (by omega)
  have h3 := Cv.ahead_bd y (m - 1).toNat
  have h4 := Cv.mlen_bd y m
  omega
theorem at_zero {r : Rule} {y : Int} (h : (r.at y).2 = 0) : r.valid = true ∧ r.has y = true ∧ (r.at y).1 = r.loc y := by
  unfold Rule.at at *
  cases hv : r.valid
  · simp [hv] at h
  · cases hh : r.has y
    · simp [hv, hh] at h
    · simp [hv, hh]
theorem at_zero_iff (r : Rule) (y : Int) : (r.at y).2 = 0 ↔ (r.valid = true ∧ r.has y = true) := by
  constructor
  · intro h; exact ⟨(at_zero h).1, (at_zero h).2.1⟩
  · rintro ⟨h1, h2⟩; unfold Rule.at; rw [if_neg (by simp [h1]), if_neg (by simp [h2])]
/-- where an event of a year lies -/
theorem at_month {r : Rule} {y : Int} (h : (r.at y).2 = 0) : (r.fr ≤ y ∧ y ≤ r.to) ∧ (1 ≤ y ∧ y ≤ 9999) ∧ (1 ≤ r.mo ∧ r.mo ≤ 12) ∧ (Cv.first y + 28 * (r.mo - 1) - 6) * 86400 ≤ (r.at y).1 ∧ (r.at y).1 ≤ (Cv.first y + 31 * r.mo + 5) * 86400 + 93600 := by
  obtain ⟨hv, hh, hl⟩ := at_zero h
  have ho := Rule.valid_ok hv
  have f1 := ho.fr
  have f2 := ho.max
  have a0 := ho.at0
  have a1 := ho.at1
  have hm := Cv.fitsB_mo ho.fits
  unfold Rule.has at hh
  simp only [Bool.and_eq_true, decide_eq_true_eq, beq_iff_eq] at hh
  obtain ⟨⟨g1, g2⟩, g3⟩ := hh
  rw [hl]
  unfold Rule.loc
  have hwk : r.k ≠ 1 → 1 ≤ r.wk ∧ r.wk ≤ 7 := fun hk => Cv.fitsB_wk ho.fits hk
  unfold Rule.day Cv.dayF at *
  rw [if_neg (by simp [ho.fits]), if_neg (by omega)] at g3 ⊢
  cases hvb : Cv.validB y r.mo (Cv.onN y r.mo r.k r.d)
  · rw [if_pos hvb] at g3; simp at g3
  · rw [if_neg (by simp [hvb])] at g3 ⊢
    cases hi : Cv.insideB (Cv.onDay r.k r.wk (Cv.count y r.mo (Cv.onN y r.mo r.k r.d)))
    · rw [if_pos hi] at g3; simp at g3
    · rw [if_neg (by simp [hi])]
      have h1 := Cv.onDay_bd (k := r.k) (wk := r.wk) (day := Cv.count y r.mo (Cv.onN y r.mo r.k r.d)) hwk
      have h2 := count_month hvb
      dsimp only
      generalize Cv.onDay r.k r.wk (Cv.count y r.mo (Cv.onN y r.mo r.k r.d)) = X at *
      generalize Cv.count y r.mo (Cv.onN y r.mo r.k r.d) = Z at *
      omega
theorem first_year {y : Int} (h : 1 ≤ y ∧ y ≤ 9999) : Cv.first y + 365 ≤ Cv.first (y + 1) := by
  have := Cv.first_succ h
  have := Cv.lp_bd y
  omega
/-- events of two years that are not neighbours -/
theorem at_far2 {r q : Rule} {y : Int} (h : (r.at (y - 1)).2 = 0) (h2 : (q.at (y + 1)).2 = 0) : 604800 ≤ (q.at (y + 1)).1 - (r.at (y - 1)).1 := by
  obtain ⟨_, y1, m1, _, b1⟩ := at_month h
  obtain ⟨_, y2, m2, b2, _⟩ := at_month h2
  have f1 := first_year y1
  have f2 := first_year (y := y) ⟨by omega, by omega⟩
  rw [show y - 1 + 1 = y by omega] at f1
  omega
/-- events of one rule -/
theorem at_far1 {r : Rule} {y : Int} (h : (r.at y).2 = 0) (h2 : (r.at (y + 1)).2 = 0) : 604800 ≤ (r.at (y + 1)).1 - (r.at y).1 := by
  obtain ⟨_, y1, m1, _, b1⟩ := at_month h
  obtain ⟨_, y2, m2, b2, _⟩ := at_month h2
  have f1 := first_year y1
  omega

/-! ### the times of a year -/
def tm (y : Int) (r : Rule) : Option Int := if (r.at y).2 = 0 then some (r.at y).1 else none
def tms (rs : List Rule) (y : Int) : List Int := rs.filterMap (tm y)
def Apt (a b : Int) : Prop := 604800 ≤ b - a ∨ 604800 ≤ a - b
theorem Apt.symm {a b : Int} (h : Apt a b) : Apt b a := Or.symm h
/-- all events of a year, and of it and the next one, are far apart -/
def FarT (rs : List Rule) (y : Int) : Prop := (tms rs y).Pairwise Apt ∧ ∀ a ∈ tms rs y, ∀ b ∈ tms rs (y + 1), 604800 ≤ b - a
theorem mem_tms {rs : List Rule} {y a : Int} : a ∈ tms rs y ↔ ∃ r ∈ rs, (r.at y).2 = 0 ∧ (r.at y).1 = a := by
  unfold tms tm
  rw [List.mem_filterMap]
  constructor
  · rintro ⟨r, hr, h⟩
    split at h
    · exact ⟨r, hr, by assumption, by injection h⟩
    · cases h
  · rintro ⟨r, hr, h, rfl⟩
    exact ⟨r, hr, if_pos h⟩
theorem evs_tms (y : Int) : ∀ (i : Nat) (rs : List Rule), (evs y i rs).map Prod.fst = tms rs y
  | _, [] => rfl
  | i, r :: rs => by
    rw [evs, List.map_append, evs_tms y (i + 1) rs]
    unfold tms
    rw [List.filterMap_cons]
    unfold ev1 tm
    split <;> rfl
theorem year_perm (rs : List Rule) (y : Int) : ((yearF rs y).map Prod.fst).Perm (tms rs y) := by
  rw [← evs_tms y 0 rs]
  exact (List.mergeSort_perm _ _).map _
theorem leE_trans (a b c : Int × Int) (h1 : leE a b = true) (h2 : leE b c = true) : leE a c = true := by
  simp [leE, ltE] at *; omega
theorem leE_total (a b : Int × Int) : (leE a b || leE b a) = true := by
  simp [leE, ltE]; omega
theorem leE_le {a b : Int × Int} (h : leE a b = true) : a.1 ≤ b.1 := by simp [leE, ltE] at h; omega
theorem leE_anti {a b : Int × Int} (h1 : leE a b = true) (h2 : leE b a = true) : a = b := by
  obtain ⟨a1, a2⟩ := a
  obtain ⟨b1, b2⟩ := b
  simp [leE, ltE] at h1 h2
  have : a1 = b1 := by omega
  have : a2 = b2 := by omega
  simp [*]
theorem sorted_E (l : List (Int × Int)) : (l.mergeSort leE).Pairwise (fun a b => leE a b = true) := List.pairwise_mergeSort leE_trans leE_total l
theorem year_sorted (rs : List Rule) (y : Int) : (yearF rs y).Pairwise (fun a b => a.1 ≤ b.1) := (sorted_E _).imp leE_le
def farE (a b : Int × Int) : Prop := 604800 ≤ b.1 - a.1
theorem closeF_iff (es : List (Int × Int)) : closeF es = false ↔ es.Pairwise farE := by
  constructor
  · intro h
    have hs : ∀ j (h1 : j + 1 < es.length), 604800 ≤ (es[j + 1]'h1).1 - (es[j]'(by omega)).1 := fun j h1 => by
      by_cases hc : (es[j + 1]!).1 - (es[j]!).1 < 604800
      · rw [closeF_yes h1 hc] at h; cases h
      · rw [getElem!_pos es (j + 1) h1, getElem!_pos es j (by omega)] at hc; omega
    have hd : ∀ (d i : Nat) (h1 : i + d + 1 < es.length), 604800 ≤ (es[i + d + 1]'h1).1 - (es[i]'(by omega)).1 := by
      intro d
      induction d with
      | zero => intro i h1; exact hs i h1
      | succ d ih =>
        intro i h1
        have e1 := ih i (by omega)
        have e2 := hs (i + d + 1) (by omega)
        have e3 : i + (d + 1) + 1 = i + d + 1 + 1 := by omega
        simp only [e3]
        omega
    rw [List.pairwise_iff_getElem]
    intro i j hi hj hij
    have := hd (j - i - 1) i (by omega)
    have e3 : i + (j - i - 1) + 1 = j := by omega
    simp only [e3] at this
    exact this
  · intro h
    rw [List.pairwise_iff_getElem] at h
    refine closeF_no fun j hj => ?_
    have := h j (j + 1) (by omega) hj (by omega)
    unfold farE at this
    rw [getElem!_pos es (j + 1) hj, getElem!_pos es j (by omega)]
    omega
theorem year_far (rs : List Rule) (y : Int) : (yearF rs y).Pairwise farE ↔ (tms rs y).Pairwise Apt := by
  rw [← (year_perm rs y).pairwise_iff (fun h => Apt.symm h), List.pairwise_map]
  constructor
  · intro h; exact h.imp fun h => .inl h
  · intro h
    exact (h.and (year_sorted rs y)).imp fun {a b} ⟨h1, h2⟩ => by
      unfold farE
      rcases h1 with h1 | h1 <;> omega
theorem mem_year {rs : List Rule} {y a : Int} : a ∈ tms rs y ↔ ∃ x ∈ yearF rs y, x.1 = a := by
  rw [← (year_perm rs y).mem_iff, List.mem_map]
/-- no two neighbours around a year are close: the events of three years are far apart -/
theorem crowd_iff (rs : List Rule) (y : Int) : crowdF rs y = false ↔ (FarT rs (y - 1) ∧ FarT rs y ∧ (tms rs (y + 1)).Pairwise Apt) := by
  unfold crowdF FarT
  rw [closeF_iff, List.pairwise_append, List.pairwise_append, year_far, year_far, year_far, show y - 1 + 1 = y by omega]
  constructor
  · rintro ⟨⟨h1, h2, h3⟩, h4, h5⟩
    refine ⟨⟨h1, fun a ha b hb => ?_⟩, ⟨h2, fun a ha b hb => ?_⟩, h4⟩
    · obtain ⟨x, hx, rfl⟩ := mem_year.1 ha
      obtain ⟨z, hz, rfl⟩ := mem_year.1 hb
      exact h3 x hx z hz
    · obtain ⟨x, hx, rfl⟩ := mem_year.1 ha
      obtain ⟨z, hz, rfl⟩ := mem_year.1 hb
      exact h5 x (List.mem_append_right _ hx) z hz
  · rintro ⟨⟨h1, h2⟩, ⟨h3, h4⟩, h5⟩
    refine ⟨⟨h1, h3, fun x hx z hz => h2 _ (mem_year.2 ⟨x, hx, rfl⟩) _ (mem_year.2 ⟨z, hz, rfl⟩)⟩, h5, fun x hx z hz => ?_⟩
    rcases List.mem_append.1 hx with hx | hx
    · have ha : x.1 ∈ tms rs (y - 1) := mem_year.2 ⟨x, hx, rfl⟩
      have hb : z.1 ∈ tms rs (y + 1) := mem_year.2 ⟨z, hz, rfl⟩
      obtain ⟨r, _, h6, h7⟩ := mem_tms.1 ha
      obtain ⟨q, _, h8, h9⟩ := mem_tms.1 hb
      unfold farE
      rw [← h7, ← h9]
      exact at_far2 h6 h8
    · exact h4 _ (mem_year.2 ⟨x, hx, rfl⟩) _ (mem_year.2 ⟨z, hz, rfl⟩)
theorem crowd_no {rs : List Rule} (h : ∀ y, FarT rs y) (y : Int) : crowdF rs y = false := (crowd_iff rs y).2 ⟨h _, h _, (h _).1⟩

/-! ### the cuts -/
theorem cuts_sorted (rs : List Rule) : ((cutsL rs).mergeSort fun x y => decide (x ≤ y)).Pairwise (fun a b => a ≤ b) :=
  (List.pairwise_mergeSort (le := fun x y : Int => decide (x ≤ y)) (fun a b c h1 h2 => by simp at *; omega) (fun a b => by simp; omega) _).imp fun h => by simpa using h
theorem compact_sorted {zs : List Int} (h : zs.Pairwise (fun a b => a ≤ b)) : (Lib.compact zs).Pairwise (fun a b => a ≤ b) := by
  unfold Lib.compact Lib.compactUpTo
  rw [List.pairwise_map]
  rw [List.pairwise_iff_getElem] at h
  have hlt : ((List.range zs.length).filter (Lib.keeps zs.toArray)).Pairwise (fun a b => a < b) := List.Pairwise.filter _ List.pairwise_lt_range
  have hm : ∀ j ∈ (List.range zs.length).filter (Lib.keeps zs.toArray), j < zs.length := fun j hj => List.mem_range.1 (List.mem_filter.1 hj).1
  refine List.Pairwise.imp_of_mem (fun {a b} ha hb hab => ?_) hlt
  have h1 := hm a ha
  have h2 := hm b hb
  have := h a b h1 h2 hab
  rw [getElem!_pos zs.toArray a (by simpa using h1), getElem!_pos zs.toArray b (by simpa using h2)]
  simpa using this
theorem compact_mem {zs : List Int} {x : Int} (hx : x ∈ zs) : x ∈ Lib.compact zs := by
  obtain ⟨n, hn, rfl⟩ := List.getElem_of_mem hx
  induction n with
  | zero =>
    unfold Lib.compact Lib.compactUpTo
    refine List.mem_map.2 ⟨0, List.mem_filter.2 ⟨List.mem_range.2 hn, by simp [Lib.keeps]⟩, ?_⟩
    rw [getElem!_pos zs.toArray 0 (by simpa using hn)]; simp
  | succ n ih =>
    by_cases e : zs[n + 1] = zs[n]
    · rw [e]; exact ih (by omega) (List.getElem_mem _)
    · unfold Lib.compact Lib.compactUpTo
      refine List.mem_map.2 ⟨n + 1, List.mem_filter.2 ⟨List.mem_range.2 hn, ?_⟩, ?_⟩
      · unfold Lib.keeps
        rw [getElem!_pos zs.toArray (n + 1) (by simpa using hn)]
        simp only [Nat.add_sub_cancel]
        rw [getElem!_pos zs.toArray n (by simp; omega)]
        simp [e]
      · rw [getElem!_pos zs.toArray (n + 1) (by simpa using hn)]; simp
theorem cutsF_sorted (rs : List Rule) : (cutsF rs).Pairwise (fun a b => a ≤ b) := compact_sorted (cuts_sorted rs)
theorem cutsF_mem {rs : List Rule} {r : Rule} (hr : r ∈ rs) : r.fr ∈ cutsF rs ∧ r.to + 1 ∈ cutsF rs := by
  have h : ∀ x ∈ cutsL rs, x ∈ cutsF rs := fun x hx => compact_mem ((List.mergeSort_perm _ _).mem_iff.2 hx)
  unfold cutsL at h
  exact ⟨h _ (List.mem_flatMap.2 ⟨r, hr, by simp⟩), h _ (List.mem_flatMap.2 ⟨r, hr, by simp⟩)⟩
/-- a year between the first cut and the last one lies in a stretch -/
theorem stretch : ∀ (C : List Int) (y : Int), (∃ a ∈ C, a ≤ y) → (∃ b ∈ C, y < b) → C.Pairwise (fun a b => a ≤ b) → ∃ i, i + 1 < C.length ∧ C[i]! ≤ y ∧ y < C[i + 1]!
  | [], y, ⟨a, ha, _⟩, _, _ => by simp at ha
  | [c], y, ⟨a, ha, h1⟩, ⟨b, hb, h2⟩, _ => by simp at ha hb; omega
  | c :: d :: C, y, ⟨a, ha, h1⟩, ⟨b, hb, h2⟩, hs => by
    have hs2 := List.pairwise_cons.1 hs
    by_cases hd : y < d
    · refine ⟨0, by simp, ?_, by simpa using hd⟩
      have : c ≤ a := by
        rcases List.mem_cons.1 ha with e | e
        · omega
        · exact hs2.1 a e
      simp; omega
    · obtain ⟨i, h3, h4, h5⟩ := stretch (d :: C) y ⟨d, by simp, by omega⟩ ⟨b, by
        rcases List.mem_cons.1 hb with e | e
        · have := hs2.1 d (by simp); omega
        · exact e, h2⟩ hs2.2
      exact ⟨i + 1, by simp at h3 ⊢; omega, by simpa using h4, by simpa using h5⟩
theorem sorted_at {C : List Int} (hs : C.Pairwise (fun a b => a ≤ b)) {i : Nat} (hi : i + 1 < C.length) {x y : Int} (hx : x ∈ C) (h1 : C[i]! ≤ y) (h2 : y < C[i + 1]!) : (x ≤ y → x ≤ C[i]!) ∧ (y < x → C[i + 1]! ≤ x) := by
  rw [List.pairwise_iff_getElem] at hs
  rw [getElem!_pos C i (by omega)] at *
  rw [getElem!_pos C (i + 1) hi] at *
  obtain ⟨j, hj, rfl⟩ := List.getElem_of_mem hx
  constructor
  · intro h
    rcases Nat.lt_or_ge i j with h3 | h3
    · rcases Nat.lt_or_eq_of_le (show i + 1 ≤ j from h3) with h4 | h4
      · have := hs (i + 1) j hi hj h4; omega
      · subst h4; omega
    · rcases Nat.lt_or_eq_of_le h3 with h4 | h4
      · exact hs j i hj (by omega) h4
      · subst h4; omega
  · intro h
    rcases Nat.lt_or_ge i j with h3 | h3
    · rcases Nat.lt_or_eq_of_le (show i + 1 ≤ j from h3) with h4 | h4
      · exact hs (i + 1) j hi hj h4
      · subst h4; omega
    · rcases Nat.lt_or_eq_of_le h3 with h4 | h4
      · have := hs j i hj (by omega) h4; omega
      · subst h4; omega
theorem tms_none {rs : List Rule} {y : Int} (h : ∀ r ∈ rs, ¬ (r.fr ≤ y ∧ y ≤ r.to)) : tms rs y = [] := by
  rw [List.eq_nil_iff_forall_not_mem]
  intro a ha
  obtain ⟨r, hr, h1, _⟩ := mem_tms.1 ha
  exact h r hr (at_month h1).1
theorem far_none {rs : List Rule} {y : Int} (h : tms rs y = []) : FarT rs y := by
  unfold FarT; rw [h]; exact ⟨List.Pairwise.nil, fun a ha => by simp at ha⟩
theorem far_one (r : Rule) (y : Int) : FarT [r] y := by
  refine ⟨?_, fun a ha b hb => ?_⟩
  · have hl : (tms [r] y).length ≤ 1 := List.length_filterMap_le _ _
    match tms [r] y, hl with
    | [], _ => exact List.Pairwise.nil
    | [a], _ => exact List.pairwise_singleton _ _
  · obtain ⟨r1, h1, h2, rfl⟩ := mem_tms.1 ha
    obtain ⟨r2, h3, h4, rfl⟩ := mem_tms.1 hb
    simp at h1 h3
    subst h1 h3
    exact at_far1 h2 h4

/-- WHAT Spaced SAYS: all events are far apart, and in the order of their years. -/
theorem spaced_far {rs : List Rule} (hv : allV rs = true) (hs : rs.length ≤ 1 ∨ ∀ r ∈ rs, r.to - r.fr + 1 ≤ 300) : spacedF rs = true ↔ ∀ y, FarT rs y := by
  rw [spacedF_ok hv]
  constructor
  · intro h y
    have hb : ∀ i, i < (cutsF rs).length → badF rs (cutsF rs) i = false := fun i hi => by
      cases hbi : badF rs (cutsF rs) i
      · rfl
      · rw [badsF_yes hi hbi] at h; cases h
    clear h
    by_cases hone : rs.length ≤ 1
    · match rs, hone with
      | [], _ => exact far_none rfl
      | [r], _ => exact far_one r y
    · have hs : ∀ r ∈ rs, r.to - r.fr + 1 ≤ 300 := hs.resolve_left hone
      by_cases hin : ∃ r ∈ rs, r.fr ≤ y ∧ y ≤ r.to
      · obtain ⟨r, hr, h1, h2⟩ := hin
        have hm := cutsF_mem hr
        obtain ⟨i, h3, h4, h5⟩ := stretch (cutsF rs) y ⟨_, hm.1, h1⟩ ⟨_, hm.2, by omega⟩ (cutsF_sorted rs)
        have hr1 := (sorted_at (cutsF_sorted rs) h3 hm.1 h4 h5).1 h1
        have hr2 := (sorted_at (cutsF_sorted rs) h3 hm.2 h4 h5).2 (by omega)
        have hl := hs r hr
        have hbi := hb i (by omega)
        have hto : toF (cutsF rs) i = (cutsF rs)[i + 1]! := by unfold toF; rw [if_pos h3]
        have hspan : (y - (cutsF rs)[i]!).toNat < spanF (cutsF rs) i := by
          unfold spanF; rw [hto]; omega
        unfold badF busyF at hbi
        rw [Bool.or_eq_false_iff, List.any_eq_false] at hbi
        have := hbi.1 (y - (cutsF rs)[i]!).toNat (List.mem_range.2 hspan)
        rw [show (cutsF rs)[i]! + (((y - (cutsF rs)[i]!).toNat : Nat) : Int) = y by omega, Bool.not_eq_true] at this
        exact ((crowd_iff rs y).1 this).2.1
      · exact far_none (tms_none fun r hr h => hin ⟨r, hr, h⟩)
  · intro h
    have hc := crowd_no h
    have : badsF rs (cutsF rs) (cutsF rs).length = false := by
      unfold badsF
      rw [List.any_eq_false]
      intro i _
      have : badF rs (cutsF rs) i = false := by
        refine badF_no ?_ (hc _)
        unfold busyF
        rw [List.any_eq_false]
        intro k _
        rw [hc]; simp
      rw [this]; simp
    rw [this]; rfl
/-- the order of the rules does not matter -/
theorem far_reverse {rs : List Rule} {y : Int} : FarT rs.reverse y ↔ FarT rs y := by
  unfold FarT tms
  rw [List.filterMap_reverse, List.filterMap_reverse, (List.reverse_perm _).pairwise_iff (fun h => Apt.symm h)]
  simp only [List.mem_reverse]
/-- nor does a rule that is left out -/
theorem far_tail {r : Rule} {rs : List Rule} {y : Int} (h : FarT (r :: rs) y) : FarT rs y := by
  unfold FarT tms at *
  have hs : ∀ y, (rs.filterMap (tm y)).Sublist ((r :: rs).filterMap (tm y)) := fun y => (List.sublist_cons_self r rs).filterMap _
  exact ⟨h.1.sublist (hs y), fun a ha b hb => h.2 a ((hs y).subset ha) b ((hs _).subset hb)⟩

end Go.Proofs.YtjpjmlljgcpbkaaGreat

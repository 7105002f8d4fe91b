/- Joined by merge.py: SpF, RepP. -/
import Derived.Test.YtdpkolnfbimheaaGreatGZoneP
import Derived.Test.YtdpkolnfbimheaaGreatGLa
/- The reference looks at 401 years of a tail: that is enough. No program in sight. -/
namespace Go.Proofs.YtdpkolnfbimheaaGreat
set_option linter.unusedSimpArgs false
set_option linter.unusedVariables false
open Go.Sort

theorem spaced_of_far {rs : List Rule} (hv : allV rs = true) (h : ∀ y, FarT rs y) : spacedF rs = true := by
  have hc : ∀ y, crowdF rs y = false := fun y => (crowd_iff rs y).2 ⟨h (y - 1), h y, (h (y + 1)).1⟩
  have hb : ∀ a n, busyF rs a n = false := fun a n => by
    unfold busyF
    rw [List.any_eq_false]
    intro k _
    rw [hc]; decide
  rw [spacedF_ok hv]
  have hbad : badsF rs (cutsF rs) (cutsF rs).length = false := by
    unfold badsF
    rw [List.any_eq_false]
    intro k _
    rw [badF_no (hb _ _) (hc _)]; decide
  rw [hbad]; rfl
theorem at_perG {r : Rule} {y k : Int} (hk : 0 ≤ k) (hf : r.fr ≤ y) (hy : 1 ≤ y) (hy2 : y ≤ 9998) (h : (r.at (y + 400 * k)).2 = 0) : ((r.at y).2 = 0 ∧ (r.at (y + 400 * k)).1 = (r.at y).1 + 146097 * 86400 * k) ∨ (y = 1 ∧ (r.at (y + 400 * k)).1 ≤ (Cv.first (y + 400 * k) - 1) * 86400 + 93600) := by
  obtain ⟨hv, hh, hl⟩ := at_zero h
  have ho := Rule.valid_ok hv
  have hm := Cv.fitsB_mo ho.fits
  have f2 := ho.max
  have f1 := ho.fr
  have hwk : r.k ≠ 1 → 1 ≤ r.wk ∧ r.wk ≤ 7 := fun hk => Cv.fitsB_wk ho.fits hk
  unfold Rule.has at hh
  simp only [Bool.and_eq_true, decide_eq_true_eq, beq_iff_eq] at hh
  obtain ⟨⟨g1, g2⟩, g3⟩ := hh
  have hyk : 1 ≤ y + 400 * k ∧ y + 400 * k ≤ 9999 := ⟨by omega, by omega⟩
  have hyy : 1 ≤ y ∧ y ≤ 9999 := ⟨by omega, by omega⟩
  have e1 : Cv.onN (y + 400 * k) r.mo r.k r.d = Cv.onN y r.mo r.k r.d := by
    unfold Cv.onN
    rw [Cv.lenF_in ⟨hyk.1, hyk.2, hm.1, hm.2⟩, Cv.lenF_in ⟨hyy.1, hyy.2, hm.1, hm.2⟩, mlen_per y k _ hyy hyk]
  have e2 : Cv.validB (y + 400 * k) r.mo (Cv.onN y r.mo r.k r.d) = Cv.validB y r.mo (Cv.onN y r.mo r.k r.d) := by
    unfold Cv.validB
    rw [Cv.lenF_in ⟨hyk.1, hyk.2, hm.1, hm.2⟩, Cv.lenF_in ⟨hyy.1, hyy.2, hm.1, hm.2⟩, mlen_per y k _ hyy hyk]
  unfold Rule.day Cv.dayF at g3
  rw [if_neg (by simp [ho.fits]), if_neg (by omega), e1, e2] at g3
  cases hvb : Cv.validB y r.mo (Cv.onN y r.mo r.k r.d)
  · rw [if_pos hvb] at g3; simp at g3
  · have h1 := Cv.onDay_bd (k := r.k) (wk := r.wk) (day := Cv.count y r.mo (Cv.onN y r.mo r.k r.d)) hwk
    have h2 := count_month hvb
    have b2 := Cv.first_bd (y := y) (by omega) (by omega)
    rw [if_neg (by simp [hvb])] at g3
    have hin2 : Cv.insideB (Cv.onDay r.k r.wk (Cv.count (y + 400 * k) r.mo (Cv.onN y r.mo r.k r.d))) = true := by
      cases hi : Cv.insideB (Cv.onDay r.k r.wk (Cv.count (y + 400 * k) r.mo (Cv.onN y r.mo r.k r.d)))
      · rw [if_pos hi] at g3; simp at g3
      · rfl
    have d2 : r.day (y + 400 * k) = (Cv.onDay r.k r.wk (Cv.count y r.mo (Cv.onN y r.mo r.k r.d)) + 146097 * k, 0) := by
      unfold Rule.day Cv.dayF
      rw [if_neg (by simp [ho.fits]), if_neg (by omega), e1, e2, if_neg (by simp [hvb]), if_neg (by simp [hin2]), count_per, onDay_per]
    cases hin : Cv.insideB (Cv.onDay r.k r.wk (Cv.count y r.mo (Cv.onN y r.mo r.k r.d)))
    · right
      unfold Cv.insideB at hin
      rw [decide_eq_false_iff_not] at hin
      have hy1 : y = 1 := by
        by_cases hc : 2 ≤ y
        · exfalso
          have b0 := first_year (y := y - 1) ⟨by omega, by omega⟩
          have b1 := Cv.first_bd (y := y - 1) (by omega) (by omega)
          rw [show y - 1 + 1 = y by omega] at b0
          omega
        · omega
      refine ⟨hy1, ?_⟩
      rw [hl]
      unfold Rule.loc
      rw [d2]
      dsimp only
      have hat := ho.at1
      have hfk : Cv.first (y + 400 * k) = -719162 + 146097 * k := by rw [hy1]; unfold Cv.first; omega
      rw [hfk]
      omega
    · left
      have d1 : r.day y = (Cv.onDay r.k r.wk (Cv.count y r.mo (Cv.onN y r.mo r.k r.d)), 0) := by
        unfold Rule.day Cv.dayF
        rw [if_neg (by simp [ho.fits]), if_neg (by omega), if_neg (by simp [hvb]), if_neg (by simp [hin])]
      have hy0 : (r.at y).2 = 0 := by
        rw [at_zero_iff]
        refine ⟨hv, ?_⟩
        unfold Rule.has
        rw [d1]
        simp
        omega
      refine ⟨hy0, ?_⟩
      rw [hl, (at_zero hy0).2.2]
      unfold Rule.loc
      rw [d1, d2]
      dsimp only
      omega
/-- the events of some years, as the reference sees them one after the other -/
def farP (a b : Int × Int × Int) : Prop := 604800 ≤ b.2.1 - a.2.1
theorem far_seg {rs : List Rule} {Z : Int} {n : Nat} (h : (evT rs Z n).Pairwise farP) {y : Int} (h1 : Z ≤ y) (h2 : y < Z + n) : (tms rs y).Pairwise Apt ∧ (y + 1 < Z + n → ∀ a ∈ tms rs y, ∀ b ∈ tms rs (y + 1), 604800 ≤ b - a) := by
  have e : n = (y - Z).toNat + (1 + (Z + n - y - 1).toNat) := by omega
  rw [e, evT_add, evT_add, show Z + ((y - Z).toNat : Int) = y by omega] at h
  have hp := (List.pairwise_append.1 h).2.1
  have hq := List.pairwise_append.1 hp
  have e1 : evT rs y 1 = (yearF rs y).map fun x => (y, x) := by
    rw [evT, evT, List.nil_append]
    simp
  rw [e1] at hq
  refine ⟨(year_far rs y).1 ?_, fun h3 a ha b hb => ?_⟩
  · have := hq.1
    rw [List.pairwise_map] at this
    exact this
  · obtain ⟨xa, hxa, rfl⟩ := mem_year.1 ha
    obtain ⟨xb, hxb, rfl⟩ := mem_year.1 hb
    have h4 := hq.2.2 (y, xa) (List.mem_map.2 ⟨xa, hxa, rfl⟩) (y + 1, xb) (mem_evT.2 ⟨⟨by dsimp only; omega, by dsimp only; omega⟩, hxb⟩)
    exact h4
theorem tms_out {rs : List Rule} {y : Int} (h : 9999 < y) : tms rs y = [] := by
  rw [List.eq_nil_iff_forall_not_mem]
  intro a ha
  obtain ⟨r, _, h1, _⟩ := mem_tms.1 ha
  have := (at_month h1).2.1
  omega
theorem apt_sh {a b c : Int} (h : Apt a b) : Apt (a + c) (b + c) := by unfold Apt at *; omega
theorem far_all {rs : List Rule} {Z : Int} {n : Nat} (hZ : 1 ≤ Z ∧ Z ≤ 9999) (hr : ∀ r ∈ rs, r.fr ≤ Z ∧ r.to = 9999) (hn : (n : Int) = min (Z + 400) 9999 - Z + 1) (h : (evT rs Z n).Pairwise farP) (y : Int) (hy : Z ≤ y) : FarT rs y := by
  by_cases h9 : 9999 < y
  · unfold FarT
    rw [tms_out h9]
    exact ⟨List.Pairwise.nil, fun a ha => by cases ha⟩
  · refine ⟨?_, ?_⟩
    · by_cases hc : y ≤ Z + 400
      · exact (far_seg h hy (by omega)).1
      · have hk : 0 ≤ (y - Z - 1) / 400 := by omega
        obtain ⟨k, hk2⟩ : ∃ k, k = (y - Z - 1) / 400 := ⟨_, rfl⟩
        obtain ⟨y0, hy0⟩ : ∃ y0, y0 = y - 400 * k := ⟨_, rfl⟩
        have e : y = y0 + 400 * k := by omega
        have hb : Z + 1 ≤ y0 ∧ y0 ≤ Z + 400 := by omega
        have hs := (far_seg h (y := y0) (by omega) (by omega)).1
        unfold tms at hs ⊢
        rw [List.pairwise_filterMap] at hs ⊢
        refine hs.imp_of_mem fun {a b} ha hb' hab x hx x' hx' => ?_
        unfold tm at hx hx'
        split at hx
        · rename_i hx1
          split at hx'
          · rename_i hx2
            injection hx with hx
            injection hx' with hx'
            rw [e] at hx1 hx2 hx hx'
            rcases at_perG (by omega) (by have := (hr a ha).1; omega) (by omega) (by omega) hx1 with ⟨p1, p2⟩ | ⟨p1, _⟩
            · rcases at_perG (by omega) (by have := (hr b hb').1; omega) (by omega) (by omega) hx2 with ⟨q1, q2⟩ | ⟨q1, _⟩
              · rw [← hx, ← hx', p2, q2]
                exact apt_sh (hab _ (by unfold tm; rw [if_pos p1]) _ (by unfold tm; rw [if_pos q1]))
              · omega
            · omega
          · cases hx'
        · cases hx
    · intro a ha b hb
      by_cases h99 : 9999 < y + 1
      · rw [tms_out h99] at hb; cases hb
      · by_cases hc : y + 1 ≤ Z + 400
        · exact (far_seg h hy (by omega)).2 (by omega) a ha b hb
        · obtain ⟨k, hk2⟩ : ∃ k, k = (y - Z) / 400 := ⟨_, rfl⟩
          obtain ⟨y0, hy0⟩ : ∃ y0, y0 = y - 400 * k := ⟨_, rfl⟩
          have e : y = y0 + 400 * k := by omega
          have e' : y + 1 = (y0 + 1) + 400 * k := by omega
          have hbd : Z ≤ y0 ∧ y0 ≤ Z + 399 := by omega
          obtain ⟨r, hr1, hr2, rfl⟩ := mem_tms.1 ha
          obtain ⟨q, hq1, hq2, rfl⟩ := mem_tms.1 hb
          have hq3 := (at_month hq2).2.2.2.1
          have hqm := (at_month hq2).2.2.1
          have hfy := first_year (y := y) ⟨by omega, by omega⟩
          rcases at_perG (r := r) (y := y0) (k := k) (by omega) (by have := (hr r hr1).1; omega) (by omega) (by omega) (by rw [← e]; exact hr2) with ⟨p1, p2⟩ | ⟨p1, p2⟩
          · rcases at_perG (r := q) (y := y0 + 1) (k := k) (by omega) (by have := (hr q hq1).1; omega) (by omega) (by omega) (by rw [← e']; exact hq2) with ⟨q1, q2⟩ | ⟨q1, _⟩
            · have := (far_seg h (y := y0) (by omega) (by omega)).2 (by omega) _ (mem_tms.2 ⟨r, hr1, p1, rfl⟩) _ (mem_tms.2 ⟨q, hq1, q1, rfl⟩)
              rw [← e] at p2
              rw [← e'] at q2
              omega
            · omega
          · rw [← e] at p2
            omega
/-- the reference's check is enough -/
theorem ref_spaced {z : Zn} (h1 : 1 ≤ z.year) (h2 : z.year ≤ 9999) (hr : z.tail.all z.ruleB = true) {n : Nat} (hn : (n : Int) = min (z.year + 400) 9999 - z.year + 1) (h : (evT z.tail z.year n).Pairwise farP) : spacedF z.rules0 = true := by
  have hv : allV z.rules0 = true := List.all_eq_true.2 fun r hr2 => by
    obtain ⟨q, hq, rfl⟩ := List.mem_map.1 hr2
    obtain ⟨g1, g2, g3, _⟩ := all_rules hr hq
    exact valid0 g1 h1 (by omega)
  have hF := far_all ⟨h1, h2⟩ (fun r hr2 => ⟨(all_rules hr hr2).2.2.1, (all_rules hr hr2).2.1⟩) hn h
  have e : ∀ x, z.year ≤ x → tms z.rules0 x = tms z.tail x := fun x hx => by
    unfold tms Zn.rules0
    rw [List.filterMap_map]
    refine fm_congr fun r hr2 => ?_
    obtain ⟨g1, g2, g3, _⟩ := all_rules hr hr2
    show tm x _ = tm x _
    unfold tm
    rw [at0 g1 h1 (by omega) g3 hx]
  refine spaced_of_far hv fun y => ?_
  by_cases hy : z.year ≤ y
  · have := hF y hy
    unfold FarT at *
    rw [e y hy, e (y + 1) (by omega)]
    exact this
  · have he : tms z.rules0 y = [] := by
      rw [List.eq_nil_iff_forall_not_mem]
      intro a ha
      obtain ⟨r, hr2, h3, _⟩ := mem_tms.1 ha
      obtain ⟨q, hq, rfl⟩ := List.mem_map.1 hr2
      have := (at_month h3).1.1
      dsimp only at this
      omega
    unfold FarT
    rw [he]
    exact ⟨List.Pairwise.nil, fun a ha => by cases ha⟩

theorem ref_behind {z : Zn} (ok : TailOk z) {n : Nat} (hn : (n : Int) = min (z.year + 12) 9999 - z.year + 1) (h : z.table = [] ∨ z.happ z.lastT.sv (evT z.tail z.year n) = [] ∨ ∃ x xs, z.happ z.lastT.sv (evT z.tail z.year n) = x :: xs ∧ z.lastAt < x.2.at_) : z.behindB = true := by
  have y1 := ok.y1
  have y2 := ok.y2
  unfold Zn.behindB
  rcases h with h | h
  · rw [h]; rfl
  · have e : (10000 - z.year).toNat = n + (10000 - z.year - n).toNat := by omega
    have eH : z.HF = z.happ z.lastT.sv (evT z.tail z.year n) ++ z.happ (z.aft z.lastT.sv (evT z.tail z.year n)) (evT z.tail (z.year + n) (10000 - z.year - n).toNat) := by
      unfold Zn.HF
      rw [e, evT_add, happ_append]
    rcases h with h | ⟨x, xs, h, hx⟩
    · by_cases hc : z.year + 12 ≤ 9999
      · exfalso
        obtain ⟨r, hr⟩ := List.exists_mem_of_ne_nil _ ok.ne
        obtain ⟨x0, h1, h2, _⟩ := evT_rule ok (u := max z.year 2) (n := 8) (by omega) (by omega) (by omega) (by omega) hr
        obtain ⟨g1, g2⟩ := mem_evT.1 h1
        have hm : x0 ∈ evT z.tail z.year n := mem_evT.2 ⟨⟨by omega, by omega⟩, g2⟩
        obtain ⟨t, ht, _⟩ := mem_happ_of ok ⟨ok.s1, ok.s2⟩ evT_in x0 hm (by omega) (by omega)
        rw [h] at ht
        cases ht
      · have : (10000 - z.year - n).toNat = 0 := by omega
        rw [eH, h, this, evT]
        simp [Zn.happ]
    · rw [eH, h, List.cons_append]
      simp [hx]

end Go.Proofs.YtdpkolnfbimheaaGreat

/- The tail repeats after 400 years. No program in sight. -/
namespace Go.Proofs.YtdpkolnfbimheaaGreat
set_option linter.unusedSimpArgs false
set_option linter.unusedVariables false
open Go.Sort

theorem at_later {r : Rule} {y : Int} (hf : r.fr ≤ y) (hto : r.to = 9999) (hy : 3 ≤ y) (hy2 : y + 400 ≤ 9998) (h : (r.at y).2 = 0) : (r.at (y + 400 * 1)).2 = 0 := by
  obtain ⟨hv, hh, hl⟩ := at_zero h
  have ho := Rule.valid_ok hv
  have hm := Cv.fitsB_mo ho.fits
  have f1 := ho.fr
  have hwk : r.k ≠ 1 → 1 ≤ r.wk ∧ r.wk ≤ 7 := fun hk => Cv.fitsB_wk ho.fits hk
  unfold Rule.has at hh
  simp only [Bool.and_eq_true, decide_eq_true_eq, beq_iff_eq] at hh
  obtain ⟨⟨g1, g2⟩, g3⟩ := hh
  have hyk : 1 ≤ y + 400 * 1 ∧ y + 400 * 1 ≤ 9999 := ⟨by omega, by omega⟩
  have hyy : 1 ≤ y ∧ y ≤ 9999 := ⟨by omega, by omega⟩
  have e1 : Cv.onN (y + 400 * 1) r.mo r.k r.d = Cv.onN y r.mo r.k r.d := by
    unfold Cv.onN
    rw [Cv.lenF_in ⟨hyk.1, hyk.2, hm.1, hm.2⟩, Cv.lenF_in ⟨hyy.1, hyy.2, hm.1, hm.2⟩, mlen_per y 1 _ hyy hyk]
  have e2 : Cv.validB (y + 400 * 1) r.mo (Cv.onN y r.mo r.k r.d) = Cv.validB y r.mo (Cv.onN y r.mo r.k r.d) := by
    unfold Cv.validB
    rw [Cv.lenF_in ⟨hyk.1, hyk.2, hm.1, hm.2⟩, Cv.lenF_in ⟨hyy.1, hyy.2, hm.1, hm.2⟩, mlen_per y 1 _ hyy hyk]
  unfold Rule.day Cv.dayF at g3
  rw [if_neg (by simp [ho.fits]), if_neg (by omega)] at g3
  cases hvb : Cv.validB y r.mo (Cv.onN y r.mo r.k r.d)
  · rw [if_pos hvb] at g3; simp at g3
  · have h1 := Cv.onDay_bd (k := r.k) (wk := r.wk) (day := Cv.count (y + 400 * 1) r.mo (Cv.onN y r.mo r.k r.d)) hwk
    have h2 := count_month (y := y + 400 * 1) (e2.trans hvb)
    have b0 := first_year (y := y + 400 * 1 - 1) ⟨by omega, by omega⟩
    have b1 := Cv.first_bd (y := y + 400 * 1 - 1) (by omega) (by omega)
    have b2 := Cv.first_bd (y := y + 400 * 1) (by omega) (by omega)
    rw [show y + 400 * 1 - 1 + 1 = y + 400 * 1 by omega] at b0
    have hin : Cv.insideB (Cv.onDay r.k r.wk (Cv.count (y + 400 * 1) r.mo (Cv.onN y r.mo r.k r.d))) = true := by
      unfold Cv.insideB
      rw [decide_eq_true_eq]
      omega
    rw [at_zero_iff]
    refine ⟨hv, ?_⟩
    unfold Rule.has
    have d2 : r.day (y + 400 * 1) = (Cv.onDay r.k r.wk (Cv.count (y + 400 * 1) r.mo (Cv.onN y r.mo r.k r.d)), 0) := by
      unfold Rule.day Cv.dayF
      rw [if_neg (by simp [ho.fits]), if_neg (by omega), e1, e2, if_neg (fun h => by rw [hvb] at h; cases h), if_neg (fun h => by rw [hin] at h; cases h)]
    rw [d2]
    simp
    omega
def PER : Int := 12622780800
def shE (x : Int × Int) : Int × Int := (x.1 + PER, x.2)
def shT (x : Int × Int × Int) : Int × Int × Int := (x.1 + 400, shE x.2)
def shX (x : Trn) : Trn := ⟨x.at_ + PER, x.ty⟩
def shH (x : Int × Trn) : Int × Trn := (x.1 + 400, shX x.2)
theorem ev1_sh {r : Rule} {y : Int} (i : Nat) (hf : r.fr ≤ y) (hto : r.to = 9999) (hy : 3 ≤ y) (hy2 : y + 400 ≤ 9998) : ev1 (y + 400) i r = (ev1 y i r).map shE := by
  unfold ev1
  by_cases h : (r.at y).2 = 0
  · have h2 := at_later hf hto hy hy2 h
    have h3 := (at_per (k := 1) (by omega) hf hy (by omega) h2).2
    rw [show y + 400 * 1 = y + 400 by omega] at h2 h3
    rw [if_pos h, if_pos h2, h3]
    simp only [List.map_cons, List.map_nil, shE, PER]
    rfl
  · rw [if_neg h, if_neg fun h2 => h (at_per (k := 1) (by omega) hf hy (by omega) (by rw [show y + 400 * 1 = y + 400 by omega]; exact h2)).1]
    rfl
theorem evs_sh {y : Int} (hy : 3 ≤ y) (hy2 : y + 400 ≤ 9998) : ∀ (i : Nat) (rs : List Rule), (∀ r ∈ rs, r.fr ≤ y ∧ r.to = 9999) → evs (y + 400) i rs = (evs y i rs).map shE
  | _, [], _ => rfl
  | i, r :: rs, h => by
    have h1 := h r List.mem_cons_self
    rw [evs, evs, ev1_sh i h1.1 h1.2 hy hy2, evs_sh hy hy2 (i + 1) rs (fun q hq => h q (List.mem_cons_of_mem _ hq)), List.map_append]
theorem yearF_sh {rs : List Rule} {y : Int} (hy : 3 ≤ y) (hy2 : y + 400 ≤ 9998) (h : ∀ r ∈ rs, r.fr ≤ y ∧ r.to = 9999) : yearF rs (y + 400) = (yearF rs y).map shE := by
  unfold yearF
  rw [evs_sh hy hy2 0 rs h]
  symm
  refine List.map_mergeSort fun a _ b _ => ?_
  unfold leE ltE shE
  rw [Bool.eq_iff_iff]
  simp
  try omega
theorem evT_sh {rs : List Rule} {u : Int} : ∀ n : Nat, 3 ≤ u → u + n + 399 ≤ 9998 → (∀ r ∈ rs, r.fr ≤ u ∧ r.to = 9999) → evT rs (u + 400) n = (evT rs u n).map shT
  | 0, _, _, _ => rfl
  | n + 1, h3, hn, h => by
    rw [evT, evT, evT_sh n h3 (by omega) h, List.map_append, show u + 400 + (n : Int) = (u + n) + 400 by omega, yearF_sh (by omega) (by omega) (fun r hr => ⟨by have := (h r hr).1; omega, (h r hr).2⟩), List.map_map, List.map_map]
    rfl
theorem hap1_sh (z : Zn) (s : Int) (x : Int × Int × Int) : z.hap1 s (shT x) = shH (z.hap1 s x) := by
  unfold Zn.hap1 shT shH shX shE
  dsimp only
  congr 2
  omega
theorem happ_sh {z : Zn} (ok : TailOk z) : ∀ {s : Int} {xs : List (Int × Int × Int)}, (-10800 ≤ s ∧ s ≤ 10800) → (∀ x ∈ xs, x.2 ∈ yearF z.tail x.1 ∧ 3 ≤ x.1 ∧ x.1 + 400 ≤ 9998 ∧ (shT x).2 ∈ yearF z.tail (x.1 + 400)) → z.happ s (xs.map shT) = (z.happ s xs).map shH
  | s, [], _, _ => rfl
  | s, x :: xs, hs, h => by
    obtain ⟨h1, h2, h3, h4⟩ := h x List.mem_cons_self
    have hr := rule_mem h1
    rw [List.map_cons, Zn.happ, Zn.happ, ev_kept ok hs h1 (by omega) (by omega), ev_kept ok hs (x := shT x) h4 (by show 2 ≤ x.1 + 400; omega) (by show x.1 + 400 ≤ 9998; omega), if_neg (by decide), if_neg (by decide), List.map_cons, hap1_sh]
    exact congrArg _ (happ_sh ok (sv_bd ok hr) fun y hy => h y (List.mem_cons_of_mem _ hy))
theorem typL_head {o p : Typ} {x : Trn} {l : List Trn} {t : Int} (h : x.at_ ≤ t) : typL o (x :: l) t = typL p (x :: l) t := by rw [typL, typL, if_pos h, if_pos h]
theorem typL_sh : ∀ (o : Typ) (l : List Trn) (t : Int), typL o (l.map shX) (t + PER) = typL o l t
  | _, [], _ => rfl
  | o, x :: l, t => by
    rw [List.map_cons, typL, typL]
    unfold shX
    by_cases h : x.at_ ≤ t
    · rw [if_pos h, if_pos (by dsimp only; omega)]; exact typL_sh _ l t
    · rw [if_neg h, if_neg (by dsimp only; omega)]; exact typL_sh _ l t
theorem typL_trans {t : Int} : ∀ {b : Typ} {xs : List (Int × Trn)}, xs.Pairwise Asc → typL b ((trans b true xs).map Prod.snd) t = typL b (xs.map Prod.snd) t
  | b, [], _ => rfl
  | b, x :: xs, h => by
    obtain ⟨h1, h2⟩ := List.pairwise_cons.1 h
    rw [trans]
    by_cases hb : x.2.ty = b
    · rw [if_neg (by simp [hb]), List.map_cons, typL, hb, typL_trans h2, ite_self]
    · rw [if_pos ⟨rfl, hb⟩, List.map_cons, List.map_cons, typL, typL]
      by_cases ht : x.2.at_ ≤ t
      · rw [if_pos ht, if_pos ht]; exact typL_trans h2
      · have hl : ∀ y ∈ xs.map Prod.snd, t < y.at_ := fun y hy => by
          obtain ⟨u, hu, rfl⟩ := List.mem_map.1 hy
          have := (h1 u hu).2
          omega
        rw [if_neg ht, if_neg ht, typL_late hl, typL_late fun y hy => ?_]
        obtain ⟨u, hu, rfl⟩ := List.mem_map.1 hy
        exact hl _ (List.mem_map.2 ⟨u, (trans_sub _ _ _).subset hu, rfl⟩)
/-- the table lies ahead of all happenings -/
theorem tab_before {z : Zn} (h : z.valid = true) (hn : z.tail ≠ []) : ∀ x ∈ z.table, ∀ t ∈ z.HF, x.at_ < t.2.at_ := fun x hx t hm => by
  obtain ⟨h1, h2⟩ := valid_parts h
  obtain ⟨h3, h4⟩ := tab_asc (head_tab h1).1
  have ok := valid_tail h hn
  unfold Zn.tailB at h2
  rw [if_neg hn] at h2
  simp only [Bool.and_eq_true] at h2
  have hb := h2.2.2.2
  have hA := HF_asc ok
  unfold Zn.behindB at hb
  have hl : z.table.isEmpty = false := by cases e : z.table with
    | nil => rw [e] at hx; cases hx
    | cons => rfl
  rw [hl, Bool.false_or] at hb
  have hlast : x.at_ ≤ z.lastAt := by
    unfold Zn.lastAt
    obtain ⟨i, hi, rfl⟩ := List.getElem_of_mem hx
    rw [getElem!_pos z.table (z.table.length - 1) (by omega)]
    rcases Nat.lt_or_eq_of_le (show i ≤ z.table.length - 1 by omega) with h5 | h5
    · exact Int.le_of_lt ((List.pairwise_iff_getElem.1 h3) i _ hi (by omega) h5)
    · simp only [h5]; exact Int.le_refl _
  cases e : z.HF with
  | nil => rw [e] at hm; cases hm
  | cons u l =>
    rw [e] at hb hm hA
    simp only [decide_eq_true_eq] at hb
    rcases List.mem_cons.1 hm with rfl | hm
    · omega
    · have := (List.pairwise_cons.1 hA).1 t hm
      unfold Asc at this
      omega
/-- what a window of eight years and more shows is what is in force -/
theorem typF_win {z : Zn} (hv : z.valid = true) (hn : z.tail ≠ []) {t u : Int} {n : Nat} (hu : z.year ≤ u) (hun : u + n ≤ 10000) (hne : ∃ x xs, evT z.tail u n = x :: xs ∧ ∀ s, (-10800 ≤ s ∧ s ≤ 10800) → (z.hap1 s x).2.at_ ≤ t ∧ outT (z.hap1 s x).2.at_ = false)
    (hl : ∀ x ∈ z.HF, u + n ≤ x.1 → t < x.2.at_) (p : Typ) (s : Int) (hs : -10800 ≤ s ∧ s ≤ 10800) (hs2 : ∀ x xs, evT z.tail u n = x :: xs → (z.hap1 s x).2.at_ ≤ t) : z.typF t = typL p ((z.happ s (evT z.tail u n)).map Prod.snd) t := by
  have ok := valid_tail hv hn
  have y1 := ok.y1
  have e0 : (10000 - z.year).toNat = (u - z.year).toNat + (n + (10000 - u - n).toNat) := by omega
  have e1 : z.HF = z.happ z.lastT.sv (evT z.tail z.year (u - z.year).toNat) ++ (z.happ (z.aft z.lastT.sv (evT z.tail z.year (u - z.year).toNat)) (evT z.tail u n) ++ z.happ (z.aft (z.aft z.lastT.sv (evT z.tail z.year (u - z.year).toNat)) (evT z.tail u n)) (evT z.tail (u + n) (10000 - u - n).toNat)) := by
    unfold Zn.HF
    rw [e0, evT_add, evT_add, happ_append, happ_append, show z.year + ((u - z.year).toNat : Int) = u by omega]
  have hA := HF_asc ok
  obtain ⟨x, xs, hx, hx1⟩ := hne
  have hsa := aft_bd ok ⟨ok.s1, ok.s2⟩ (evT_in (rs := z.tail) (a := z.year) (n := (u - z.year).toNat))
  have hB : ∀ s, (-10800 ≤ s ∧ s ≤ 10800) → z.happ s (evT z.tail u n) = z.hap1 s x :: z.happ (z.rule x.2.2).sv xs := fun s hs => by
    rw [hx, Zn.happ, (hx1 s hs).2, if_neg (by decide)]
  have hm : z.hap1 (z.aft z.lastT.sv (evT z.tail z.year (u - z.year).toNat)) x ∈ z.HF := by
    rw [e1, hB _ hsa]
    simp
  have ht := (hx1 _ hsa).1
  have hsb : -10800 ≤ z.aft (z.aft z.lastT.sv (evT z.tail z.year (u - z.year).toNat)) (evT z.tail u n) ∧ z.aft (z.aft z.lastT.sv (evT z.tail z.year (u - z.year).toNat)) (evT z.tail u n) ≤ 10800 := aft_bd ok hsa evT_in
  rw [typF_L]
  unfold Zn.T
  rw [if_neg hn, typL_append]
  unfold Zn.TT
  have hb : typL z.first z.table t = z.lastT := by
    have hall : ∀ y ∈ z.table, y.at_ ≤ t := fun y hy => by have := tab_before hv hn y hy _ hm; omega
    unfold Zn.lastT
    rw [typL_rev]
    by_cases h0 : z.table = []
    · rw [if_pos h0, h0]; rfl
    · have hp : 0 < z.table.length := List.length_pos_iff.2 h0
      rw [if_neg h0, getElem!_pos z.table (z.table.length - 1) (by omega)]
      have hr : z.table.reverse = z.table[z.table.length - 1]'(by omega) :: (z.table.dropLast).reverse := by
        conv => lhs; rw [← List.dropLast_concat_getLast h0]
        rw [List.reverse_append, List.getLast_eq_getElem]
        rfl
      rw [hr, List.find?_cons_of_pos]
      exact decide_eq_true (hall _ (List.getElem_mem _))
  rw [hb, typL_trans hA, e1, List.map_append, List.map_append, typL_append, typL_append]
  rw [typL_late (B := (z.happ (z.aft (z.aft z.lastT.sv (evT z.tail z.year (u - z.year).toNat)) (evT z.tail u n)) (evT z.tail (u + n) (10000 - u - n).toNat)).map Prod.snd)]
  · rw [hB _ hsa, hB _ hs, List.map_cons, List.map_cons, typL, typL, if_pos ht, if_pos (hs2 x xs hx)]
    rfl
  · intro y hy
    obtain ⟨q, hq, rfl⟩ := List.mem_map.1 hy
    have hq1 := happ_yr ok hsb q hq
    exact hl q (by rw [e1]; exact List.mem_append_right _ (List.mem_append_right _ hq)) (by omega)
theorem HF_bd {z : Zn} (ok : TailOk z) {x : Int × Trn} (hx : x ∈ z.HF) : z.year ≤ x.1 ∧ x.1 ≤ 9999 ∧ loL x.1 - 68400 ≤ x.2.at_ ∧ x.2.at_ ≤ hiL x.1 + 68400 := by
  obtain ⟨y, hy, h1, _, h2, h3, h4, h5⟩ := mem_happ ok ⟨ok.s1, ok.s2⟩ evT_in x hx
  obtain ⟨h6, h7⟩ := mem_evT.1 hy
  obtain ⟨_, h8, h9, h10⟩ := ev_bd h7
  rw [h1]
  exact ⟨h6.1, h8, by omega, by omega⟩
theorem evT_head {z : Zn} (ok : TailOk z) {u : Int} {n : Nat} (hu : z.year ≤ u) (hu2 : 2 ≤ u) (hn : 8 ≤ n) (hu8 : u + 7 ≤ 9998) : ∃ x xs, evT z.tail u n = x :: xs ∧ u ≤ x.1 ∧ x.1 ≤ u + 7 ∧ x.2 ∈ yearF z.tail x.1 := by
  obtain ⟨r, hr⟩ := List.exists_mem_of_ne_nil _ ok.ne
  obtain ⟨x0, h1, h2, _⟩ := evT_rule ok hu hu2 hn hu8 hr
  have hf := evT_far (rs := z.tail) (a := u) (fun y hy => ok.far y (by omega)) n
  cases e : evT z.tail u n with
  | nil => rw [e] at h1; cases h1
  | cons x xs =>
    have hx : x ∈ evT z.tail u n := by rw [e]; exact List.mem_cons_self
    obtain ⟨g1, g2⟩ := mem_evT.1 hx
    rw [e] at h1 hf
    refine ⟨x, xs, rfl, g1.1, ?_, g2⟩
    rcases List.mem_cons.1 h1 with rfl | h1
    · exact h2
    · have := ((List.pairwise_cons.1 hf).1 _ h1).1
      omega
theorem year_of (t : Int) (h1 : -62135596800 ≤ t) (h2 : t < 253402300800) : ∃ Y, YearOf t Y := by
  have key : ∀ n : Nat, ∀ Y : Int, Y = (n : Int) + 1 → Y ≤ 9999 → t < Cv.first (Y + 1) * 86400 → ∃ Y, YearOf t Y := by
    intro n
    induction n with
    | zero =>
      intro Y hY h9 ht
      refine ⟨Y, by omega, h9, ?_, ht⟩
      have : Cv.first Y = -719162 := by rw [hY]; decide
      omega
    | succ n ih =>
      intro Y hY h9 ht
      by_cases hl : Cv.first Y * 86400 ≤ t
      · exact ⟨Y, by omega, h9, hl, ht⟩
      · exact ih (Y - 1) (by omega) (by omega) (by rw [show Y - 1 + 1 = Y by omega]; omega)
  refine key 9998 9999 (by decide) (by decide) ?_
  have : Cv.first (9999 + 1) = 2932897 := by decide
  omega
/-- THE TAIL REPEATS -/
theorem tail_repeats {z : Zn} (hv : z.valid = true) (hn : z.tail ≠ []) {t : Int} (h1 : -62135596800 ≤ t) (h2 : t < 253402300800 - PER - 34560000) (h3 : (z.year + 11) * 31557600 - 62168000000 ≤ t) : z.typF t = z.typF (t + PER) := by
  have ok := valid_tail hv hn
  have y1 := ok.y1
  unfold PER at h2
  obtain ⟨Y, hY⟩ := year_of t h1 (by omega)
  have hy1 := hY.y1
  have hy2 := hY.y2
  have hlo := hY.lo
  have hhi := hY.hi
  have hYZ : z.year + 10 ≤ Y := by
    unfold Cv.first at hhi
    omega
  have hY9 : Y ≤ 9598 := by
    unfold Cv.first at hlo
    omega
  -- the window
  obtain ⟨u, hu⟩ : ∃ u, u = max 3 (Y - 9) := ⟨_, rfl⟩
  obtain ⟨E, hE⟩ : ∃ E, E = min (Y + 1) 9598 := ⟨_, rfl⟩
  have hun : ((E - u + 1).toNat : Int) = E - u + 1 := by omega
  have hn8 : 8 ≤ (E - u + 1).toNat := by omega
  obtain ⟨x, xs, hx, hx1, hx2, hx3⟩ := evT_head ok (u := u) (n := (E - u + 1).toNat) (by omega) (by omega) hn8 (by omega)
  have hb := ev_bd hx3
  have hxt : hiL x.1 + 68400 ≤ t := by
    unfold hiL
    rcases Int.le_total 12 Y with hc | hc
    · have f1 := first_many (y := x.1) (by omega) (Y - x.1).toNat (by omega)
      rw [show x.1 + ((Y - x.1).toNat : Int) = Y by omega] at f1
      omega
    · have f1 := first_many (y := x.1) (by omega) (11 - x.1).toNat (by omega)
      rw [show x.1 + ((11 - x.1).toNat : Int) = 11 by omega] at f1
      have f2 : Cv.first 11 = -715510 := by decide
      omega
  have hx0 : ∀ s, (-10800 ≤ s ∧ s ≤ 10800) → (z.hap1 s x).2.at_ ≤ t ∧ outT (z.hap1 s x).2.at_ = false := fun s hs => by
    refine ⟨?_, ev_kept ok hs hx3 (by omega) (by omega)⟩
    have := shift_bd ok hs (z.rule x.2.2)
    unfold Zn.hap1
    dsimp only
    omega
  have hl : ∀ y ∈ z.HF, u + ((E - u + 1).toNat : Int) ≤ y.1 → t < y.2.at_ := fun y hy hyu => by
    obtain ⟨g1, g2, g3, g4⟩ := HF_bd ok hy
    unfold loL at g3
    have f1 := first_many (y := E + 1) (by omega) (y.1 - (E + 1)).toNat (by omega)
    rw [show E + 1 + ((y.1 - (E + 1)).toNat : Int) = y.1 by omega] at f1
    by_cases hc : Y + 1 ≤ 9598
    · have e3 : E = Y + 1 := by omega
      have f2 := first_many (y := Y + 1) (by omega) 1 (by omega)
      rw [show Y + 1 + ((1 : Nat) : Int) = E + 1 by omega] at f2
      omega
    · have e3 : E = 9598 := by omega
      have f2 : Cv.first (9598 + 1) = 2786435 := by decide
      rw [e3] at f1
      omega
  have hs0 : (-10800 : Int) ≤ 0 ∧ (0 : Int) ≤ 10800 := by omega
  rw [typF_win hv hn (u := u) (n := (E - u + 1).toNat) (by omega) (by omega) ⟨x, xs, hx, hx0⟩ hl z.first 0 hs0 fun x' xs' h' => by rw [hx] at h'; injection h' with h4 h5; subst h4; exact (hx0 0 hs0).1]
  have hrs : ∀ r ∈ z.tail, r.fr ≤ u ∧ r.to = 9999 := fun r hr => ⟨by have := (ok.rv r hr).2.2; omega, (ok.rv r hr).2.1⟩
  have hsh := evT_sh (rs := z.tail) (u := u) (E - u + 1).toNat (by omega) (by omega) hrs
  have hshx : evT z.tail (u + 400) (E - u + 1).toNat = shT x :: xs.map shT := by rw [hsh, hx]; rfl
  have hx0' : ∀ s, (-10800 ≤ s ∧ s ≤ 10800) → (z.hap1 s (shT x)).2.at_ ≤ t + PER ∧ outT (z.hap1 s (shT x)).2.at_ = false := fun s hs => by
    have hm : shT x ∈ evT z.tail (u + 400) (E - u + 1).toNat := by rw [hshx]; exact List.mem_cons_self
    refine ⟨?_, ev_kept ok hs (mem_evT.1 hm).2 (by show 2 ≤ x.1 + 400; omega) (by show x.1 + 400 ≤ 9998; omega)⟩
    rw [hap1_sh]
    show (z.hap1 s x).2.at_ + PER ≤ t + PER
    have := (hx0 s hs).1
    omega
  have hl' : ∀ y ∈ z.HF, u + 400 + ((E - u + 1).toNat : Int) ≤ y.1 → t + PER < y.2.at_ := fun y hy hyu => by
    obtain ⟨g1, g2, g3, g4⟩ := HF_bd ok hy
    unfold loL at g3
    unfold PER
    have f1 := first_many (y := E + 401) (by omega) (y.1 - (E + 401)).toNat (by omega)
    rw [show E + 401 + ((y.1 - (E + 401)).toNat : Int) = y.1 by omega] at f1
    by_cases hc : Y + 1 ≤ 9598
    · have e3 : E = Y + 1 := by omega
      have f2 := first_many (y := Y + 401) (by omega) 1 (by omega)
      rw [show Y + 401 + ((1 : Nat) : Int) = E + 401 by omega] at f2
      have f3 : Cv.first (Y + 401) = Cv.first (Y + 1) + 146097 := by unfold Cv.first; omega
      omega
    · have e3 : E = 9598 := by omega
      have f2 : Cv.first (9598 + 401) = 2932532 := by decide
      rw [e3] at f1
      omega
  rw [typF_win hv hn (t := t + PER) (u := u + 400) (n := (E - u + 1).toNat) (by omega) (by omega) ⟨_, _, hshx, hx0'⟩ hl' z.first 0 hs0 fun x' xs' h' => by rw [hshx] at h'; injection h' with h4 h5; subst h4; exact (hx0' 0 hs0).1]
  rw [hsh, happ_sh ok hs0 (fun y hy => ?_), show ((z.happ 0 (evT z.tail u (E - u + 1).toNat)).map shH).map Prod.snd = ((z.happ 0 (evT z.tail u (E - u + 1).toNat)).map Prod.snd).map shX by rw [List.map_map, List.map_map]; rfl, typL_sh]
  obtain ⟨k1, k2⟩ := mem_evT.1 hy
  refine ⟨k2, by omega, by omega, ?_⟩
  have hm : shT y ∈ evT z.tail (u + 400) (E - u + 1).toNat := by rw [hsh]; exact List.mem_map.2 ⟨y, hy, rfl⟩
  exact (mem_evT.1 hm).2

end Go.Proofs.YtdpkolnfbimheaaGreat

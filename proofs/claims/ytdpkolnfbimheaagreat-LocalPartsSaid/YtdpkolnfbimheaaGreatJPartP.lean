/- Mapping is pointwise: the plain law of LocalParts. No program in sight. -/
import Derived.Test.YtdpkolnfbimheaaGreatJInv
import Derived.Test.YtdpkolnfbimheaaGreatJCombP
import Derived.Test.YtdpkolnfbimheaaGreatGLa
namespace Go.Proofs.YtdpkolnfbimheaaGreat
set_option linter.unusedSimpArgs false
set_option linter.unusedVariables false

/-- the pieces that matter to a span -/
def Zn.pcS (z : Zn) (s : Spn) : List Piece := z.pieces (wideA s.fr) (wideB s.to)
/-- the instants of sets of local times, span by span -/
def Zn.mapL (z : Zn) (l : List Spn) : List Spn := l.flatMap fun s => invs s (z.pcS s)
def tSpn (s : Spn) : Prop := -62135596800 ≤ s.fr ∧ s.fr < s.to ∧ s.to ≤ 253402300800
theorem tSpn_ok {s : Spn} (h : tSpn s) : s.ok = true := Spn.ok_iff.2 ⟨by unfold tSpn at h; omega, by unfold tSpn at h; omega, h.2.1⟩
theorem wide_lt {s : Spn} (h : tSpn s) : wideA s.fr < wideB s.to := by unfold tSpn at h; unfold wideA wideB; omega
theorem inv_has {z : Zn} (hv : z.valid = true) {s : Spn} (hs : tSpn s) (t : Int) : hasL (invs s (z.pcS s)) t ↔ (-62135596800 ≤ t ∧ t < 253402300800) ∧ s.has (t + z.offF t) := by
  have hok := tSpn_ok hs
  unfold Zn.pcS
  constructor
  · rintro ⟨x, hx, h1, h2⟩
    unfold invs at hx
    obtain ⟨p, hp, hpx⟩ := List.mem_filterMap.1 hx
    unfold invP at hpx
    split at hpx
    · injection hpx with e
      have hP := pcs_of hv (wide_lt hs)
      have hb := (contig_bd hP.ct).1 p hp
      have := hP.lo
      have := hP.hi
      have hh : s.has (t + p.off) ∧ p.img.has (t + p.off) := by
        refine meet_has.1 ?_
        rw [← e] at h1 h2
        unfold Spn.has
        dsimp only at h1 h2
        omega
      have hpt : p.fr ≤ t ∧ t < p.to := by
        have := hh.2
        unfold Spn.has Piece.img at this
        dsimp only at this
        omega
      have ho := (pieces_ok hv (wideA s.fr) (wideB s.to)).off p hp t hpt.1 hpt.2
      rw [ho]
      exact ⟨by omega, hh.1⟩
    · cases hpx
  · rintro ⟨ht, hh⟩
    have hmem : t ∈ z.insts (t + z.offF t) := (mem_insts hv).2 ⟨ht, rfl⟩
    have hs2 := hs
    unfold tSpn at hs2
    unfold Spn.has at hh
    obtain ⟨p, hp, hpi, htp⟩ := (inst_piece hv hs2.1 hs2.2.2 ⟨hh.1, hh.2⟩).1 hmem
    have hP := pcs_of hv (wide_lt hs)
    have hpo : p.img.ok = true := img_ok hP _ (List.mem_map.2 ⟨p, hp, rfl⟩)
    have hm : meetB s p.img = true := by
      cases h : meetB s p.img
      · exact absurd ⟨hh, hpi⟩ (meet_none hok hpo h _)
      · rfl
    refine ⟨⟨(meetF s p.img).fr - p.off, (meetF s p.img).to - p.off⟩, List.mem_filterMap.2 ⟨p, hp, if_pos hm⟩, ?_⟩
    have := meet_has.2 (And.intro (show s.has (t + z.offF t) from hh) hpi)
    unfold Spn.has at this ⊢
    dsimp only
    omega
theorem map_has {z : Zn} (hv : z.valid = true) {l : List Spn} (hl : ∀ s ∈ l, tSpn s) (t : Int) : hasL (z.mapL l) t ↔ (-62135596800 ≤ t ∧ t < 253402300800) ∧ hasL l (t + z.offF t) := by
  unfold Zn.mapL hasL
  constructor
  · rintro ⟨x, hx, h⟩
    obtain ⟨s, hs, hxs⟩ := List.mem_flatMap.1 hx
    have := (inv_has hv (hl s hs) t).1 ⟨x, hxs, h⟩
    exact ⟨this.1, s, hs, this.2⟩
  · rintro ⟨ht, s, hs, h⟩
    obtain ⟨x, hx, hh⟩ := (inv_has hv (hl s hs) t).2 ⟨ht, h⟩
    exact ⟨x, List.mem_flatMap.2 ⟨s, hs, hx⟩, hh⟩
theorem invs_ok {z : Zn} (hv : z.valid = true) {s : Spn} (hs : tSpn s) : ∀ x ∈ invs s (z.pcS s), x.ok = true := fun x hx => by
  have hP := pcs_of hv (wide_lt hs)
  unfold invs at hx
  obtain ⟨p, hp, hpx⟩ := List.mem_filterMap.1 hx
  unfold invP at hpx
  split at hpx
  · rename_i hm
    injection hpx with e
    have hb := (contig_bd hP.ct).1 p hp
    have := hP.lo
    have := hP.hi
    have ho := hP.off p hp
    unfold meetB at hm
    simp only [Bool.and_eq_true, decide_eq_true_eq] at hm
    have hm3 := hm.2.2
    rw [← e]
    unfold meetF Piece.img at *
    dsimp only at hm3 ⊢
    exact Spn.ok_iff.2 ⟨by dsimp only; omega, by dsimp only; omega, by dsimp only; omega⟩
  · cases hpx
theorem mapL_ok {z : Zn} (hv : z.valid = true) {l : List Spn} (hl : ∀ s ∈ l, tSpn s) : ∀ x ∈ z.mapL l, x.ok = true := fun x hx => by
  obtain ⟨s, hs, hxs⟩ := List.mem_flatMap.1 hx
  exact invs_ok hv (hl s hs) x hxs
/-- what Map returns of sets, as a set -/
theorem un_has {z : Zn} (hv : z.valid = true) {l out : List Spn} (hl : ∀ s ∈ l, tSpn s) (h : UnionOk ⟨-62135596800, 253402300800⟩ (z.mapL l) out) (t : Int) : hasL out t ↔ (-62135596800 ≤ t ∧ t < 253402300800) ∧ hasL l (t + z.offF t) := by
  rw [h.m t, map_has hv hl]
  unfold Spn.has
  dsimp only
  constructor
  · exact fun h => h.1
  · exact fun h => ⟨h, h.1⟩
/-- a set, what is left of its hull, and the hull: the images -/
theorem parts_union {z : Zn} (hv : z.valid = true) {l set rest : List Spn} {hull : Spn} {a b c both : List Spn} (hl : ∀ s ∈ l, tSpn s) (hr : ∀ s ∈ rest, tSpn s) (hh : tSpn hull) (hin : ∀ s ∈ l, hull.fr ≤ s.fr ∧ s.to ≤ hull.to)
    (hset : ∀ x, hasL set x ↔ hasL l x) (hrest : ∀ x, hasL rest x ↔ hull.has x ∧ ¬ hasL set x)
    (ha : UnionOk ⟨-62135596800, 253402300800⟩ (z.mapL l) a) (hb : UnionOk ⟨-62135596800, 253402300800⟩ (z.mapL rest) b) (hc : UnionOk ⟨-62135596800, 253402300800⟩ (z.mapL [hull]) c)
    (hbc : Canon both) (hbm : ∀ x, hasL both x ↔ hasL a x ∨ hasL b x) : both = c := by
  refine canon_ext hbc hc.c fun x => ?_
  rw [hbm, un_has hv hl ha, un_has hv hr hb, un_has hv (fun s hs => by rw [List.mem_singleton.1 hs]; exact hh) hc, hrest, hset, hasL_one]
  constructor
  · rintro (⟨h1, s, hs, h2⟩ | ⟨h1, h2, _⟩)
    · refine ⟨h1, ?_⟩
      have := hin s hs
      unfold Spn.has at h2 ⊢
      omega
    · exact ⟨h1, h2⟩
  · rintro ⟨h1, h2⟩
    by_cases h3 : hasL l (x + z.offF x)
    · exact .inl ⟨h1, h3⟩
    · exact .inr ⟨h1, h2, h3⟩
theorem parts_meet {z : Zn} (hv : z.valid = true) {l set rest a b common : List Spn} {hull : Spn} (hl : ∀ s ∈ l, tSpn s) (hr : ∀ s ∈ rest, tSpn s)
    (hset : ∀ x, hasL set x ↔ hasL l x) (hrest : ∀ x, hasL rest x ↔ hull.has x ∧ ¬ hasL set x)
    (ha : UnionOk ⟨-62135596800, 253402300800⟩ (z.mapL l) a) (hb : UnionOk ⟨-62135596800, 253402300800⟩ (z.mapL rest) b)
    (hcc : Canon common) (hcm : ∀ x, hasL common x ↔ hasL a x ∧ hasL b x) : common = [] := by
  cases common with
  | nil => rfl
  | cons s L =>
    exfalso
    have hn := hcc.ne s List.mem_cons_self
    obtain ⟨h1, h2⟩ := (hcm s.fr).1 ⟨s, List.mem_cons_self, Int.le_refl _, hn⟩
    have h3 := ((un_has hv hl ha _).1 h1).2
    have h4 := ((hrest _).1 ((un_has hv hr hb _).1 h2).2).2
    exact h4 ((hset _).2 h3)

end Go.Proofs.YtdpkolnfbimheaaGreat

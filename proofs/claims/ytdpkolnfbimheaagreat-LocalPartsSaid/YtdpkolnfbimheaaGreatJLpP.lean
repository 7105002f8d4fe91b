/- LocalParts: the hull, what is left of it, and the points, in plain words. -/
import Derived.Test.YtdpkolnfbimheaaGreatJMap
import Derived.Test.YtdpkolnfbimheaaGreatJShiftP
import Derived.Test.YtdpkolnfbimheaaGreatJNotW
namespace Go.Proofs.YtdpkolnfbimheaaGreat
set_option linter.unusedSimpArgs false
set_option linter.unusedVariables false

/-- what the loop over the spans knows of the hull -/
structure HullI (l : List Spn) (k : Nat) (f t : Int) : Prop where
  a : ∀ s ∈ l.take k, tSpn s ∧ f ≤ s.fr ∧ s.to ≤ t
  b : 0 < k → -62135596800 ≤ f ∧ f < t ∧ t ≤ 253402300800
  c : k = 0 → f = (l[0]!).fr ∧ t = (l[0]!).to
theorem hull_start (l : List Spn) : HullI l 0 (l[0]!).fr (l[0]!).to := ⟨fun s hs => by simp at hs, fun h => absurd h (Nat.lt_irrefl _), fun _ => ⟨rfl, rfl⟩⟩
theorem hull_step {l : List Spn} {k : Nat} {f t : Int} (h : HullI l k f t) (hk : k < l.length) (hs : tSpn l[k]!) : HullI l (k + 1) (min f (l[k]!).fr) (max t (l[k]!).to) := by
  have hs2 := hs
  unfold tSpn at hs2
  refine ⟨fun s hm => ?_, fun _ => ?_, fun h => by omega⟩
  · rw [List.take_succ_eq_append_getElem hk, List.mem_append, List.mem_singleton, ← getElem!_pos l k hk] at hm
    rcases hm with hm | rfl
    · have := h.a s hm
      exact ⟨this.1, by omega, by omega⟩
    · exact ⟨hs, by omega, by omega⟩
  · by_cases h0 : k = 0
    · have := h.c h0
      subst h0
      omega
    · have := h.b (by omega)
      omega
theorem rest_has {hull : Spn} {set rest : List Spn} (h : CombOk (fun u v => u && !v) [hull] set rest) (hset : Canon set) (x : Int) : hasL rest x ↔ hull.has x ∧ ¬ hasL set x := by
  rw [h.m x]
  unfold Rul
  constructor
  · intro hr
    have key : ∀ u v : Bool, (u = true ↔ hull.has x) → (v = true ↔ hasL set x) → (u && !v) = true := fun u v hu hv => hr u v (by rw [hu, hasL_one]) hv
    by_cases h1 : hull.has x
    · by_cases h2 : hasL set x
      · have := key true true (by simp [h1]) (by simp [h2])
        exact absurd this (by decide)
      · exact ⟨h1, h2⟩
    · by_cases h2 : hasL set x
      · have := key false true (by simp [h1]) (by simp [h2])
        exact absurd this (by decide)
      · have := key false false (by simp [h1]) (by simp [h2])
        exact absurd this (by decide)
  · rintro ⟨h1, h2⟩ u v hu hv
    rw [hasL_one] at hu
    have e1 : u = true := hu.2 h1
    have e2 : v = false := by
      cases v
      · rfl
      · exact absurd (hv.1 rfl) h2
    rw [e1, e2]; rfl
theorem rul_or {a b out : List Spn} (h : CombOk (fun u v => u || v) a b out) (x : Int) : hasL out x ↔ hasL a x ∨ hasL b x := by
  rw [h.m x]
  unfold Rul
  constructor
  · intro hr
    by_cases h1 : hasL a x
    · exact .inl h1
    · by_cases h2 : hasL b x
      · exact .inr h2
      · exact absurd (hr false false (by simp [h1]) (by simp [h2])) (by decide)
  · intro hx u v hu hv
    rcases hx with h1 | h2
    · rw [hu.2 h1]; rfl
    · rw [hv.2 h2]; cases u <;> rfl
theorem rul_and {a b out : List Spn} (h : CombOk (fun u v => u && v) a b out) (x : Int) : hasL out x ↔ hasL a x ∧ hasL b x := by
  rw [h.m x]
  unfold Rul
  constructor
  · intro hr
    by_cases h1 : hasL a x
    · by_cases h2 : hasL b x
      · exact ⟨h1, h2⟩
      · exact absurd (hr true false (by simp [h1]) (by simp [h2])) (by decide)
    · by_cases h2 : hasL b x
      · exact absurd (hr false true (by simp [h1]) (by simp [h2])) (by decide)
      · exact absurd (hr false false (by simp [h1]) (by simp [h2])) (by decide)
  · rintro ⟨h1, h2⟩ u v hu hv
    rw [hu.2 h1, hv.2 h2]; rfl
theorem rest_in {hull : Spn} {set rest : List Spn} (hh : mSpn hull) (hc : Canon rest) (h : ∀ x, hasL rest x ↔ hull.has x ∧ ¬ hasL set x) : ∀ s ∈ rest, mSpn s := fun s hs => by
  have hn := hc.ne s hs
  have h1 := ((h s.fr).1 ⟨s, hs, Int.le_refl _, hn⟩).1
  have h2 := ((h (s.to - 1)).1 ⟨s, hs, by omega, by omega⟩).1
  obtain ⟨⟨g1, g2, g3⟩, g4⟩ := hh
  unfold Spn.has at h1 h2
  exact ⟨⟨by omega, hn, by omega⟩, by omega⟩
theorem union_validR {l out : List Spn} (h : UnionOk ⟨-62135596800, 253402300800⟩ l out) (hl : out.length ≤ 2000) : validR out = true := by
  unfold validR
  rw [Bool.and_eq_true, decide_eq_true_eq]
  refine ⟨hl, canon_runsB h.c fun s hs => ?_⟩
  have hn := h.c.ne s hs
  have h1 := ((h.m s.fr).1 ⟨s, hs, Int.le_refl _, hn⟩).2
  have h2 := ((h.m (s.to - 1)).1 ⟨s, hs, by omega, by omega⟩).2
  unfold Spn.has at h1 h2
  dsimp only at h1 h2
  exact Spn.ok_iff.2 ⟨by omega, by omega, hn⟩
theorem ofV_okP {z : Zn} {t : Int} (h : (z.ofV t).2 = 0) : z.valid = true ∧ inTB t = true ∧ inTB (t + z.offF t) = true ∧ z.ofV t = (t + z.offF t, 0) := by
  unfold Zn.ofV at h ⊢
  cases hv : z.valid
  · rw [hv] at h; simp at h
  · cases h1 : inTB t
    · rw [hv, h1] at h; simp at h
    · cases h2 : inTB (t + z.offF t)
      · rw [hv, h1, h2] at h; simp at h
      · simp
/-- the points -/
theorem of_point {z : Zn} (hv : z.valid = true) {l set a : List Spn} (hl : ∀ s ∈ l, tSpn s) (hset : ∀ x, hasL set x ↔ hasL l x) (hvs : validR set = true) (ha : UnionOk ⟨-62135596800, 253402300800⟩ (z.mapL l) a) (hva : validR a = true) {t : Int} (h : (z.ofV t).2 = 0) :
    hasB a t = hasB set (z.ofV t).1 := by
  rw [Bool.eq_iff_iff, hasB_iff hva, hasB_iff hvs, un_has hv hl ha, hset]
  have e : (-62135596800 ≤ t ∧ t < 253402300800) ∧ (z.ofV t).1 = t + z.offF t := by
    obtain ⟨_, h2, _, h4⟩ := ofV_okP h
    unfold inTB at h2
    rw [decide_eq_true_eq] at h2
    exact ⟨h2, by rw [h4]⟩
  rw [e.2]
  exact ⟨fun h => h.2, fun h => ⟨e.1, h⟩⟩

end Go.Proofs.YtdpkolnfbimheaaGreat

/- What version.Instants finds: the pieces of a span between cuts, and those at which two zones differ. No program in sight. -/
import Derived.Test.YtoonaidpmahgcaaGreatGLa
namespace Go.Proofs.YtoonaidpmahgcaaGreat
set_option linter.unusedSimpArgs false
set_option linter.unusedVariables false

theorem typ_const {z : Zn} (hv : z.valid = true) {f t : Int} (h : f ≤ t) (hno : ∀ x ∈ z.betF f (t + 1), x.at_ ≤ f) : z.typF t = z.typF f := by
  have e1 := typF_bet hv (a := f) (b := t + 1) (t := t) h (by omega)
  have e2 := typF_bet hv (a := f) (b := t + 1) (t := f) (Int.le_refl _) (by omega)
  exact e1.trans ((typL_early (fun x hx => by have := hno x hx; omega) hno).trans e2.symm)

/-- the pieces of a span from f to b between ascending cuts -/
def piecesC (b : Int) : Int → List Int → List Spn
  | _, [] => []
  | f, c :: l => if f < c ∧ c ≤ b then ⟨f, c⟩ :: piecesC b c l else piecesC b f l

/-- where the fold stands behind some cuts -/
def lastC (b : Int) : Int → List Int → Int
  | f, [] => f
  | f, c :: l => if f < c ∧ c ≤ b then lastC b c l else lastC b f l
theorem piecesC_snoc (b c : Int) : ∀ (f : Int) (l : List Int), piecesC b f (l ++ [c]) = piecesC b f l ++ (if lastC b f l < c ∧ c ≤ b then [⟨lastC b f l, c⟩] else []) ∧ lastC b f (l ++ [c]) = if lastC b f l < c ∧ c ≤ b then c else lastC b f l
  | f, [] => ⟨rfl, rfl⟩
  | f, d :: l => by
    rw [List.cons_append]
    by_cases h : f < d ∧ d ≤ b
    · have e1 : lastC b f (d :: l) = lastC b d l := if_pos h
      have e2 : lastC b f (d :: (l ++ [c])) = lastC b d (l ++ [c]) := if_pos h
      have e3 : piecesC b f (d :: l) = ⟨f, d⟩ :: piecesC b d l := if_pos h
      have e4 : piecesC b f (d :: (l ++ [c])) = ⟨f, d⟩ :: piecesC b d (l ++ [c]) := if_pos h
      obtain ⟨h1, h2⟩ := piecesC_snoc b c d l
      rw [e1, e2, e3, e4, h1, h2]
      exact ⟨rfl, rfl⟩
    · have e1 : lastC b f (d :: l) = lastC b f l := if_neg h
      have e2 : lastC b f (d :: (l ++ [c])) = lastC b f (l ++ [c]) := if_neg h
      have e3 : piecesC b f (d :: l) = piecesC b f l := if_neg h
      have e4 : piecesC b f (d :: (l ++ [c])) = piecesC b f (l ++ [c]) := if_neg h
      obtain ⟨h1, h2⟩ := piecesC_snoc b c f l
      rw [e1, e2, e3, e4, h1, h2]
      exact ⟨rfl, rfl⟩
theorem piecesC_len (b : Int) : ∀ (f : Int) (l : List Int), (piecesC b f l).length ≤ l.length
  | f, [] => Nat.le_refl _
  | f, d :: l => by
    rw [piecesC]
    have h1 := piecesC_len b d l
    have h2 := piecesC_len b f l
    split <;> simp <;> omega
theorem lastC_bd (b : Int) : ∀ (f : Int) (l : List Int), f ≤ b → f ≤ lastC b f l ∧ lastC b f l ≤ b
  | f, [], h => ⟨Int.le_refl _, h⟩
  | f, d :: l, h => by
    rw [lastC]
    split
    · rename_i hc
      have := lastC_bd b d l hc.2
      omega
    · exact lastC_bd b f l h
theorem piecesC_ok (b : Int) : ∀ {f : Int} {l : List Int}, l.Pairwise (· ≤ ·) → f ≤ b →
    (∀ s ∈ piecesC b f l, (f ≤ s.fr ∧ s.fr < s.to ∧ s.to ≤ b) ∧ ∀ c ∈ l, ¬ (s.fr < c ∧ c < s.to)) ∧ (piecesC b f l).Pairwise (fun s t => s.to ≤ t.fr) ∧ (b ∈ l → ∀ t, f ≤ t → t < b → hasL (piecesC b f l) t)
  | f, [], _, _ => ⟨fun s h => (by cases h), List.Pairwise.nil, fun h => (by cases h)⟩
  | f, d :: l, hA, hf => by
    rw [piecesC]
    obtain ⟨hd, hl⟩ := List.pairwise_cons.1 hA
    by_cases h : f < d ∧ d ≤ b
    · rw [if_pos h]
      obtain ⟨g1, g2, g3⟩ := piecesC_ok b (f := d) hl h.2
      refine ⟨fun s hs => ?_, List.pairwise_cons.2 ⟨fun t ht => (g1 t ht).1.1, g2⟩, fun hb t h1 h2 => ?_⟩
      · rcases List.mem_cons.1 hs with rfl | hs
        · refine ⟨⟨Int.le_refl _, h.1, h.2⟩, fun c hc => ?_⟩
          dsimp only
          rcases List.mem_cons.1 hc with rfl | hc
          · omega
          · have := hd c hc; omega
        · obtain ⟨k1, k2⟩ := g1 s hs
          refine ⟨by omega, fun c hc => ?_⟩
          rcases List.mem_cons.1 hc with rfl | hc
          · omega
          · exact k2 c hc
      · rw [hasL_cons]
        by_cases hc : t < d
        · exact .inl ⟨h1, hc⟩
        · right
          rcases List.mem_cons.1 hb with rfl | hb
          · omega
          · exact g3 hb t (by omega) h2
    · rw [if_neg h]
      obtain ⟨g1, g2, g3⟩ := piecesC_ok b (f := f) hl hf
      refine ⟨fun s hs => ?_, g2, fun hb t h1 h2 => ?_⟩
      · obtain ⟨k1, k2⟩ := g1 s hs
        refine ⟨k1, fun c hc => ?_⟩
        rcases List.mem_cons.1 hc with rfl | hc
        · omega
        · exact k2 c hc
      · rcases List.mem_cons.1 hb with rfl | hb
        · omega
        · exact g3 hb t h1 h2

/-- the instants of a list of transitions -/
def atsF (l : List Trn) : List Int := l.map Trn.at_
/-- the pieces at which two zones differ -/
def difF (z q : Zn) (ps : List Spn) : List Spn := ps.filter fun s => decide (z.typF s.fr ≠ q.typF s.fr)
theorem difF_snoc (z q : Zn) (ps : List Spn) (s : Spn) : difF z q (ps ++ [s]) = difF z q ps ++ (if z.typF s.fr ≠ q.typF s.fr then [s] else []) := by
  unfold difF
  rw [List.filter_append]
  by_cases h : z.typF s.fr ≠ q.typF s.fr
  · rw [if_pos h]; simp [h]
  · rw [if_neg h]; simp [h]
theorem difF_same (z : Zn) (ps : List Spn) : difF z z ps = [] := by
  unfold difF
  rw [List.filter_eq_nil_iff]
  intro s _
  simp
theorem difF_comm (z q : Zn) (ps : List Spn) : difF z q ps = difF q z ps := by
  unfold difF
  exact List.filter_congr fun s _ => by rw [decide_eq_decide]; exact ne_comm
theorem difF_len (z q : Zn) (ps : List Spn) : (difF z q ps).length ≤ ps.length := List.length_filter_le _ _

theorem dif_has {z q : Zn} (hz : z.valid = true) (hq : q.valid = true) {a b : Int} (hab : a < b) {l : List Int} (hA : l.Pairwise (· ≤ ·)) (hb : b ∈ l) (h1 : ∀ x ∈ z.betF a b, x.at_ ∈ l) (h2 : ∀ x ∈ q.betF a b, x.at_ ∈ l) (t : Int) :
    hasL (difF z q (piecesC b a l)) t ↔ (a ≤ t ∧ t < b) ∧ z.typF t ≠ q.typF t := by
  obtain ⟨g1, g2, g3⟩ := piecesC_ok b (f := a) hA (by omega)
  have key : ∀ s ∈ piecesC b a l, s.has t → ∀ p : Zn, p.valid = true → (∀ x ∈ p.betF a b, x.at_ ∈ l) → p.typF t = p.typF s.fr := fun s hs hh p hp hm => by
    obtain ⟨k1, k2⟩ := g1 s hs
    obtain ⟨k3, k4⟩ := hh
    refine typ_const hp k3 fun x hx => ?_
    have hx1 := bet_mem x hx
    refine Int.not_lt.1 fun hlt => ?_
    have hx2 : x ∈ p.betF a b := by
      unfold Zn.betF at hx ⊢
      rw [List.mem_filter] at hx ⊢
      exact ⟨hx.1, decide_eq_true (by omega)⟩
    exact k2 _ (hm x hx2) (by omega)
  unfold difF
  constructor
  · rintro ⟨s, hs, hh⟩
    obtain ⟨hs1, hs2⟩ := List.mem_filter.1 hs
    have k := (g1 s hs1).1
    obtain ⟨k3, k4⟩ := hh
    refine ⟨⟨by omega, by omega⟩, ?_⟩
    rw [key s hs1 ⟨k3, k4⟩ z hz h1, key s hs1 ⟨k3, k4⟩ q hq h2]
    simpa using hs2
  · rintro ⟨⟨k1, k2⟩, hne⟩
    obtain ⟨s, hs, hh⟩ := g3 hb t k1 k2
    refine ⟨s, List.mem_filter.2 ⟨hs, decide_eq_true ?_⟩, hh⟩
    rw [← key s hs hh z hz h1, ← key s hs hh q hq h2]
    exact hne

end Go.Proofs.YtoonaidpmahgcaaGreat

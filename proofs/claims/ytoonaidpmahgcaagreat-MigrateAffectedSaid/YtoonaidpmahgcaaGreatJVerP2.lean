/- version.Instants and version.Locals: how many pieces, and where two zones differ. No program in sight. -/
import Derived.Test.YtoonaidpmahgcaaGreatJResP
import Derived.Test.YtoonaidpmahgcaaGreatGVp
namespace Go.Proofs.YtoonaidpmahgcaaGreat
set_option linter.unusedSimpArgs false
set_option linter.unusedVariables false
open Go.Sort

/-- a few years have few transitions -/
theorem tail_countN {z : Zn} (ok : TailOk z) {R Y : Nat} (hl : z.tail.length ≤ R) {a b : Int} (hY : b - a + 2000000 ≤ 31536000 * (Y : Int)) : (z.TT.filter fun x => decide (inAB a b x)).length ≤ R * (Y + 1) := by
  cases h : z.TT.filter fun x => decide (inAB a b x) with
  | nil => exact Nat.zero_le _
  | cons x0 l =>
    have hA := (TT_asc ok).filter fun x => decide (inAB a b x)
    rw [h] at hA
    have hx0 : x0 ∈ z.TT.filter fun x => decide (inAB a b x) := by rw [h]; exact List.mem_cons_self
    obtain ⟨m0, i0⟩ := List.mem_filter.1 hx0
    have i0 : inAB a b x0 := of_decide_eq_true i0
    have b0 := TT_bd ok m0
    have y1 := ok.y1
    have key : ∀ x ∈ z.TT.filter (fun x => decide (inAB a b x)), x0.1 ≤ x.1 ∧ x.1 ≤ x0.1 + Y := fun x hx => by
      obtain ⟨m1, i1⟩ := List.mem_filter.1 hx
      have i1 : inAB a b x := of_decide_eq_true i1
      have b1 := TT_bd ok m1
      have hle : x0.1 ≤ x.1 := by
        rw [h] at hx
        rcases List.mem_cons.1 hx with rfl | hx
        · exact Int.le_refl _
        · exact ((List.pairwise_cons.1 hA).1 x hx).1
      refine ⟨hle, ?_⟩
      by_cases hle2 : x.1 ≤ x0.1 + Y
      · exact hle2
      · exfalso
        have hf := first_mono' (a := x0.1) (b := x.1) (by omega) hle
        unfold inAB at i0 i1
        unfold loL hiL at b0 b1
        omega
    have h2 : (z.TT.filter fun x => decide (inAB a b x)).length ≤ (z.TT.filter fun x => decide (x0.1 ≤ x.1 ∧ x.1 ≤ x0.1 + Y)).length := by
      have e : z.TT.filter (fun x => decide (inAB a b x)) = (z.TT.filter (fun x => decide (inAB a b x))).filter (fun x => decide (x0.1 ≤ x.1 ∧ x.1 ≤ x0.1 + Y)) := (List.filter_eq_self.2 fun x hx => decide_eq_true (key x hx)).symm
      rw [e, List.filter_filter]
      rw [show (z.TT.filter fun x => (decide (x0.1 ≤ x.1 ∧ x.1 ≤ x0.1 + Y) && decide (inAB a b x))) = (z.TT.filter fun x => decide (x0.1 ≤ x.1 ∧ x.1 ≤ x0.1 + Y)).filter fun x => decide (inAB a b x) by rw [List.filter_filter]; congr 1; funext x; exact Bool.and_comm _ _]
      exact List.length_filter_le _ _
    have h3 := TT_win z x0.1 (x0.1 + Y)
    have h4 : z.tail.length * (x0.1 + Y + 1 - x0.1).toNat ≤ R * (Y + 1) := by
      rw [show (x0.1 + (Y : Int) + 1 - x0.1).toNat = Y + 1 by omega]
      exact Nat.mul_le_mul_right _ hl
    rw [h] at h2
    omega
theorem bet_countN {z : Zn} (hv : z.valid = true) {T R Y : Nat} (ht : z.table.length ≤ T) (hl : z.tail.length ≤ R) {a b : Int} (hY : b - a + 2000000 ≤ 31536000 * (Y : Int)) : (z.betF a b).length ≤ T + R * (Y + 1) := by
  have h0 := List.length_filter_le (fun x : Trn => decide (a ≤ x.at_ ∧ x.at_ < b)) z.table
  by_cases hn : z.tail = []
  · unfold Zn.betF Zn.T
    rw [if_pos hn, List.append_nil]
    omega
  · rw [betF_tail hn, List.length_append, List.length_map]
    have := tail_countN (valid_tail hv hn) hl hY
    omega
theorem cutA_le {a b : Int} (hab : a < b) (h1 : -62135596800 ≤ a) (h2 : b ≤ 253402300800) : cutA a < cutB b := by unfold cutA cutB; omega
theorem chainC_len : ∀ (o : Int) (l : List Trn), (chainC o l).length = 4 * l.length
  | o, [] => rfl
  | o, x :: xs => by rw [chainC, List.length_append, chainC_len]; simp; omega
theorem zcuts_len (z : Zn) (a b : Int) : (z.cutsF a b).length = 4 + 4 * (z.betF (cutA a) (cutB b)).length := by
  unfold Zn.cutsF
  rw [List.length_append, chainC_len]
  rfl

theorem flat_has {h : Spn → List Spn} {x : Int} {ps : List Spn} : hasL (ps.flatMap h) x ↔ ∃ s ∈ ps, hasL (h s) x := by
  unfold hasL
  constructor
  · rintro ⟨s, hs, hx⟩
    obtain ⟨p, hp, hsp⟩ := List.mem_flatMap.1 hs
    exact ⟨p, hp, s, hsp, hx⟩
  · rintro ⟨p, hp, s, hsp, hx⟩
    exact ⟨s, List.mem_flatMap.2 ⟨p, hp, hsp⟩, hx⟩
theorem flat_two {h : Spn → List Spn} {k : Nat} (hk : ∀ s, (h s).length ≤ k) : ∀ ps : List Spn, (ps.flatMap h).length ≤ k * ps.length
  | [] => Nat.zero_le _
  | s :: ps => by
    have := flat_two hk ps
    have := hk s
    rw [List.flatMap_cons, List.length_append, List.length_cons, Nat.mul_succ]
    omega
theorem part_len (r q : Int → Int × Int) (s : Spn) : (partF r q s).length ≤ 2 := by
  unfold partF
  dsimp only
  repeat' split
  all_goals simp
theorem part_in {r q : Int → Int × Int} {s : Spn} (hs : s.fr < s.to) : ∀ p ∈ partF r q s, s.fr ≤ p.fr ∧ p.fr < p.to ∧ p.to ≤ s.to := by
  unfold partF
  dsimp only
  have h1 : ∀ p ∈ [s], s.fr ≤ p.fr ∧ p.fr < p.to ∧ p.to ≤ s.to := fun p hp => by rw [List.mem_singleton.1 hp]; omega
  have h0 : ∀ p ∈ ([] : List Spn), s.fr ≤ p.fr ∧ p.fr < p.to ∧ p.to ≤ s.to := fun p hp => by cases hp
  split
  · exact h1
  split
  · exact h0
  split
  · split
    · exact h1
    · exact h0
  generalize (if (r (s.to - 1)).1 - (r s.fr).1 = s.to - 1 - s.fr then s.fr + (q s.fr).1 - (r s.fr).1 else s.fr + (r s.fr).1 - (q s.fr).1) = e
  split
  · exact h1
  · intro p hp
    rcases List.mem_append.1 hp with hp | hp
    · split at hp
      · rw [List.mem_singleton.1 hp]; dsimp only; omega
      · cases hp
    · split at hp
      · rw [List.mem_singleton.1 hp]; dsimp only; omega
      · cases hp
theorem quiet_of {z : Zn} (hv : z.valid = true) {a b : Int} (h1 : -62135596800 ≤ a) (hab : a < b) (h2 : b ≤ 253402300800) {l : List Int} (hA : l.Pairwise (· ≤ ·)) (hz : ∀ c ∈ z.cutsF a b, c ∈ l) {s : Spn} (hs : s ∈ piecesC b a l) : Quiet z a b s.fr s.to := by
  obtain ⟨g1, _, _⟩ := piecesC_ok b (f := a) hA (by omega)
  obtain ⟨k1, k2⟩ := g1 s hs
  exact ⟨hv, h1, h2, k1.1, k1.2.2, fun c hc => k2 c (hz c hc)⟩
/-- a local time is in what Locals puts down exactly if both zones resolve it differently -/
theorem loc_has {z q : Zn} (hz : z.valid = true) (hq : q.valid = true) {a b : Int} (h1 : -62135596800 ≤ a) (hab : a < b) (h2 : b ≤ 253402300800) {l : List Int} (hA : l.Pairwise (· ≤ ·)) (hb : b ∈ l) (hzc : ∀ c ∈ z.cutsF a b, c ∈ l) (hqc : ∀ c ∈ q.cutsF a b, c ∈ l) (g f x : Int) :
    hasL ((piecesC b a l).flatMap (partF (fun y => z.resV y g f) (fun y => q.resV y g f))) x ↔ (a ≤ x ∧ x < b) ∧ z.resV x g f ≠ q.resV x g f := by
  obtain ⟨g1, _, g3⟩ := piecesC_ok b (f := a) hA (by omega)
  rw [flat_has]
  have key : ∀ s ∈ piecesC b a l, hasL (partF (fun y => z.resV y g f) (fun y => q.resV y g f) s) x ↔ s.has x ∧ z.resV x g f ≠ q.resV x g f := fun s hs =>
    part_has (g1 s hs).1.2.1 (res_shape (quiet_of hz h1 hab h2 hA hzc hs) g f) (res_shape (quiet_of hq h1 hab h2 hA hqc hs) g f) x
  constructor
  · rintro ⟨s, hs, hx⟩
    obtain ⟨k1, k2⟩ := (key s hs).1 hx
    have := (g1 s hs).1
    unfold Spn.has at k1
    exact ⟨by omega, k2⟩
  · rintro ⟨hx, hne⟩
    obtain ⟨s, hs, hh⟩ := g3 hb x hx.1 hx.2
    exact ⟨s, hs, (key s hs).2 ⟨hh, hne⟩⟩

end Go.Proofs.YtoonaidpmahgcaaGreat

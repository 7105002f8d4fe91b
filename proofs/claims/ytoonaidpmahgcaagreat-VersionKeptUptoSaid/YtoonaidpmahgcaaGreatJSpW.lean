/- Lists of spans: ContainsFunc, Clone, Equal; the small functions on spans. -/
import Derived.Test.YtoonaidpmahgcaaGreatGUn
namespace Go.Proofs.YtoonaidpmahgcaaGreat
set_option linter.unusedSimpArgs false
set_option linter.unusedVariables false
open Go.ChangeShapes Go.WideShapes Go.ChangeAt Go.RowKit Go.Sort Go.Lib

theorem noneS_if (A : Option Addr) (c : Nat) (g : Value) (w : World) : Calls Tryz.prog 149 #[.slice A 0 c, g] w fun e w' => e = .returned (.int .i64 (-1)) ∧ w = w' := by
  go_enter Tryz.func149, Tryz.ntmps149
  go_wp2
  go_loop [8] (fun i => i = .int .i64 0) (fun _ => 0)
  case atStart => rfl
  case round =>
    obtain rfl := hrel
    go_wp2
    go_ret
    exact ⟨rfl, rfl⟩
theorem noneS_cf (A : Option Addr) (c : Nat) (g : Value) (w : World) : Calls Tryz.prog 73 #[.slice A 0 c, g] w fun e w' => e = .returned (.bool false) ∧ w = w' := by
  go_enter Tryz.func73, Tryz.ntmps73
  go_wp2_with (go_at_call 149; refine (noneS_if _ _ _ _).mono ?_; rintro e w' ⟨rfl, rfl⟩)
  go_ret
  exact ⟨rfl, rfl⟩
/-- runs.Of$1: a span that is not valid -/
theorem of1_any (s : Spn) (w : World) (hs : s.ok = true) : Calls Tryz.prog 125 #[.agg (encN s).toArray] w fun e w' => e = .returned (.bool false) ∧ Below w.heap.size w w' := by
  have HI := Lib.hid (fun W => iv_any s.fr s.to W)
  rw [iv_ok s, hs] at HI
  have hB : Below w.heap.size w (w.alloc (.cells #[.int .i64 s.fr, .int .i64 s.to] 29)) := (Below.refl _ _).alloc (Nat.le_refl _) _
  clear hs
  unfold encN
  go_enter Tryz.func125, Tryz.ntmps125
  go_wp2_with fail
  refine (HI.out _).mono ?_
  rintro e w1 ⟨rfl, hb1⟩
  go_wp2
  go_ret
  exact ⟨rfl, hB.trans (hb1.mono hB.size)⟩
/-- a predicate that fails at all elements of a list -/
theorem cfS_no (g : Nat) (eg : ∀ args w, (callFunc g args).run Tryz.prog w = .ok (.enter g args) w) (v : Value) (l : List Spn) (w : World) (P : Spn → Prop) (hP : ∀ s ∈ l, P s) (d : Spn) (hd : P d) (hp : ∀ (W : World) (s : Spn), P s → Calls Tryz.prog g #[.agg (encN s).toArray] W fun e w' => e = .returned (.bool false) ∧ Below W.heap.size W w') (hl : l.length ≤ 1000000) (hR : Rd encN 2 w v l) :
    Calls Tryz.prog 73 #[v, .func (.func g) #[] #[]] w fun e w' => e = .returned (.bool false) ∧ Below w.heap.size w w' := by
  rcases hR with ⟨rfl, A, c, rfl⟩ | ⟨b, off, c, rfl, hb, hc⟩
  · exact (noneS_cf A c _ w).mono fun e w' ⟨h1, h2⟩ => ⟨h1, h2 ▸ Below.refl _ _⟩
  · -- the elements, as values of a type that holds the property
    let T := { s : Spn // P s }
    have : Inhabited T := ⟨⟨d, hd⟩⟩
    let L : List T := l.attach.map fun s => ⟨s.1, hP s.1 s.2⟩
    have hLl : L.length = l.length := by simp [L]
    have hLv : ∀ j, j < l.length → (L[j]!).1 = l[j]! := fun j hj => by
      rw [getElem!_pos L j (by rw [hLl]; exact hj), getElem!_pos l j hj]
      simp [L]
    have h := Tryz.slices_ContainsFunc_f73 (α := T) 2 isAggS sizeOfS (fun s => encN s.1) (fun s => encN_len s.1) (fun _ => false) g #[] eg b off l.length c L w (fun W x hb => (hp W x.1 x.2).mono fun e w' ⟨h1, h2⟩ => ⟨h1, (hb.trans (h2.mono hb.size))⟩) (Nat.le_of_eq hLl.symm) (by omega) hb (fun j hj i v hv => hc j (by rwa [hLl] at hj) i v (by rw [← hLv j (by rwa [hLl] at hj)]; exact hv))
    have e : ((L.take l.length).any fun _ => false) = false := by simp
    rw [e] at h
    exact h
theorem rd_flatS {l : List Spn} {w : World} {b off : Nat} (hc : ∀ j, j < l.length → ∀ i u, (encN l[j]!)[i]? = some u → w.cell? ⟨b, off + j * 2 + i, none⟩ = some u) : ∀ j u, (l.flatMap encN)[j]? = some u → w.cell? ⟨b, off + j, none⟩ = some u := fun j u hu => by
  have hj : j < l.length * 2 := by rw [← flat_len encN_len l]; exact (List.getElem?_eq_some_iff.1 hu).1
  have := flat_get encN_len l (j / 2) (j % 2) (by omega) (by omega)
  rw [show j / 2 * 2 + j % 2 = j by omega, hu] at this
  have e := hc (j / 2) (by omega) (j % 2) u (by rw [List.getElem?_eq_getElem (by rw [encN_len]; omega)]; rw [getElem!_pos _ (j % 2) (by rw [encN_len]; omega)] at this; exact this.symm)
  rwa [show off + j / 2 * 2 + j % 2 = off + j by omega] at e
theorem flat_oneS (l : List Spn) : ∀ u ∈ l.flatMap encN, u.oneCell' = true := fun u hu => by
  obtain ⟨x, _, hx⟩ := List.mem_flatMap.1 hu
  exact encN_one x u hx
theorem clone_S (v : Value) (l : List Spn) (w : World) (h0 : 0 < l.length) (hl : l.length ≤ 1000000) (hR : Rd encN 2 w v l) : Calls Tryz.prog 126 #[v] w fun e w' => ∃ v', e = .returned v' ∧ w'.ownsRow w.heap.size 29 2 v' l.length (l.flatMap encN) ∧ v' ≠ .slice none 0 0 ∧ Below w.heap.size w w' := by
  obtain ⟨i0, hi0, hz0, hz1, hz2⟩ := info_parts info_span
  rcases hR with ⟨rfl, A, c, rfl⟩ | ⟨b, off, c, rfl, _, hc⟩
  · exact absurd h0 (by simp)
  · exact Tryz.slices_Clone_f126 i0 _ 2 16 hi0 hz0 hz1 hz2 rfl (by decide) sizeOfS b off l.length c (l.flatMap encN) w (flat_len encN_len l) (by unfold maxLen; omega) (by omega) (rd_flatS hc) (flat_oneS l)
/-- runs.Of$2 -/
theorem ocmp_any (x y : BSpn) (w : World) : Calls Tryz.prog 128 #[.agg (encG x).toArray, .agg (encG y).toArray] w fun e w' => e = .returned (.int .i64 (cmpB x y)) ∧ ∃ q os', w' = Sort.grow (w.drewN q) os' := by
  obtain ⟨⟨a, b⟩, h1, h2⟩ := x
  obtain ⟨⟨c, d⟩, h3, h4⟩ := y
  unfold cmpB encG encN
  have g1 : -4398046511104 ≤ a ∧ a ≤ 4398046511104 := ⟨h1, h2⟩
  have g2 : -4398046511104 ≤ c ∧ c ≤ 4398046511104 := ⟨h3, h4⟩
  have hw : wrap64 (a - c) = a - c := by unfold wrap64; omega
  dsimp only at *
  go_enter Tryz.func128, Tryz.ntmps128
  go_wp2
  go_ret
  exact ⟨rfl, 0, #[.cells #[.int .i64 a, .int .i64 b] 29, .cells #[.int .i64 c, .int .i64 d] 29], by rw [Sort.alloc_eq_grow, Sort.alloc_eq_grow, Sort.grow_grow]; rfl⟩
theorem sortO (l : List BSpn) (g cap : Nat) (w : World) (hH : Sort.HoldsK encG 2 w g 0 l.toArray) (hg : g < w.heap.size) (hl : l.length ≤ 4000000) :
    Calls Tryz.prog 127 #[.slice (some ⟨g, 0, none⟩) l.length cap, .func (.func 128) #[] #[]] w (SortEnd l g cap w) := by
  have h := Tryz.slices_SortFunc_f127 2 isAggS sizeOfS encG encG_len encG_one cmpB swoB 128 #[] g 0 cap l.toArray w (enters_of Tryz.func128 (by kernel_rfl) rfl) (fun _ _ _ _ x y => ocmp_any x y _) hH hg (by simp; omega)
  refine h.mono ?_
  rintro e' w' ⟨rfl, d', n, os, hp, hs, rfl⟩
  obtain ⟨s1, s2, s3⟩ := sort_of hp hs
  refine ⟨rfl, d'.toList, s1, s2, s3, ?_, fun B w0 hb hB hB2 => below_sorted hb hB hB2, fun j hj hl => other_sorted hj hl⟩
  have := rd_sorted (ys := d'.toList) (n := n) (os := os) encG_len hH s1 hg (cap := cap)
  simpa using this
/-- runs.done -/
theorem done_any (A : Option Addr) (n c : Nat) (w : World) (h : n ≤ 2000) : Calls Tryz.prog 129 #[.slice A n c] w fun e w' => e = .returned (.tuple #[.slice A n c, .int .i64 0]) ∧ w' = w := by
  have d : decide ((2000 : Int) < (n : Int)) = false := decide_eq_false (by omega)
  go_enter Tryz.func129, Tryz.ntmps129
  go_wp2
  go_ret2
  exact ⟨rfl, rfl⟩
theorem done_full (A : Option Addr) (n c : Nat) (w : World) (h : 2000 < n) : Calls Tryz.prog 129 #[.slice A n c] w fun e w' => e = .returned (.tuple #[.slice none 0 0, .int .i64 5]) ∧ w' = w := by
  have d : decide ((2000 : Int) < (n : Int)) = true := decide_eq_true (by omega)
  go_enter Tryz.func129, Tryz.ntmps129
  go_wp2
  go_ret2
  exact ⟨rfl, rfl⟩

end Go.Proofs.YtoonaidpmahgcaaGreat

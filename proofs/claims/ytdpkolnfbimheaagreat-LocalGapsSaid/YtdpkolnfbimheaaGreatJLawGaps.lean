/- The law LocalGaps. Printed by gen_lawgaps.py. -/
import Derived.Test.YtdpkolnfbimheaaGreatGGa
import Derived.Test.YtdpkolnfbimheaaGreatGLc
import Derived.Test.YtdpkolnfbimheaaGreatJEncU
import Derived.BigQuiet
import Derived.Deep.AppendLies
import Derived.Deep.RegionHeld3
namespace Go.Proofs.YtdpkolnfbimheaaGreat
set_option linter.unusedSimpArgs false
set_option linter.unusedVariables false
open Go.ChangeShapes Go.WideShapes Go.ChangeAt Go.RowKit

theorem rd_atU {w : World} {A : Option Addr} {n c : Nat} {l : List Int} (h : Rd encU 1 w (.slice A n c) l) : n = l.length ∧ ((l = [] ) ∨ ∃ g o, A = some ⟨g, o, none⟩ ∧ g < w.heap.size ∧ ∀ k, k < l.length → w.cell? ⟨g, o + k, none⟩ = some (.int .u32 l[k]!)) := by
  rcases h with ⟨e, A', c', hv⟩ | ⟨g, o, c', hv, hg, hc⟩
  · injection hv with _ hn _
    subst e
    exact ⟨hn, .inl rfl⟩
  · injection hv with e1 hn _
    refine ⟨hn, .inr ⟨g, o, e1, hg, fun k hk => ?_⟩⟩
    have := hc k hk 0 _ rfl
    rwa [Nat.add_zero, Nat.mul_one] at this
theorem int_rowG {W : World} {base : Nat} {A : Option Addr} {n c : Nat} {IL : List Int} (h : W.ownsRow base 3 1 (.slice A n c) IL.length (IL.map encI)) (hn : 0 < IL.length) : ∃ g off, A = some ⟨g, off, none⟩ ∧ n = IL.length ∧ g < W.heap.size ∧ ∀ j, j < IL.length → W.cell? ⟨g, off + j, none⟩ = some (.int .i64 IL[j]!) := by
  have e : ∀ l : List Int, l.map encI = l.flatMap (fun t => [encI t]) := fun l => by
    induction l with
    | nil => rfl
    | cons x l ih => rw [List.map_cons, List.flatMap_cons, ih]; rfl
  rw [e IL] at h
  rcases rd_of_own (enc := fun t : Int => [encI t]) (fun _ => rfl) h rfl with ⟨h1, _⟩ | ⟨g, off, c', hv, hg, hc⟩
  · subst h1; simp at hn
  · injection hv with h1 h2 h3
    refine ⟨g, off, h1, h2, hg, fun j hj => ?_⟩
    have := hc j hj 0 (encI IL[j]!) rfl
    rwa [Nat.mul_one, Nat.add_zero] at this
theorem four_one (a b c d : Int) : ∀ u ∈ [Value.int .i64 a, .int .i64 b, .int .i64 c, .int .i64 d], u.oneCell' = true := by
  intro v hv
  simp at hv
  rcases hv with rfl | rfl | rfl | rfl <;> rfl
def tSpanB (a b : Int) : Bool := decide (-62135596800 ≤ a) && (decide (a < b) && decide (b ≤ 253402300800))
theorem refSpan_any (a b : Int) (w : World) : Calls Tryz.prog 29 #[.agg #[.int .i64 a, .int .i64 b]] w fun e w' => e = .returned (.bool (tSpanB a b)) ∧ Below w.heap.size w w' := by
  have hB : Below w.heap.size w (w.alloc (.cells #[.int .i64 a, .int .i64 b] 34)) := (Below.refl _ _).alloc (Nat.le_refl _) _
  unfold tSpanB
  by_cases h1 : -62135596800 ≤ a
  · by_cases h2 : a < b
    · rw [decide_eq_true h1, decide_eq_true h2]
      go_enter Tryz.func29, Tryz.ntmps29
      go_wp2
      go_ret
      exact ⟨ret1 (vbool (by simp)), hB⟩
    · rw [decide_eq_true h1, decide_eq_false h2]
      go_enter Tryz.func29, Tryz.ntmps29
      go_wp2
      go_ret
      exact ⟨rfl, hB⟩
  · rw [decide_eq_false h1]
    go_enter Tryz.func29, Tryz.ntmps29
    go_wp2
    go_ret
    exact ⟨rfl, hB⟩
theorem years40_any (w : World) : Calls Tryz.prog 30 #[.int .i64 40] w fun e w' => e = .returned (.int .i64 1262278080) ∧ Below w.heap.size w w' := by
  go_enter Tryz.func30, Tryz.ntmps30
  go_wp2
  go_ret
  exact ⟨rfl, Below.refl _ _⟩
theorem union_valid {a b : Int} {l out : List Spn} (h : UnionOk ⟨a, b⟩ l out) (hl : out.length ≤ 2000) (ha : -62135596800 ≤ a) (hb : b ≤ 253402300800) : validR out = true := by
  unfold validR
  rw [Bool.and_eq_true, decide_eq_true_eq]
  refine ⟨hl, canon_runsB h.c fun s hs => ?_⟩
  have hn := h.c.ne s hs
  have h1 := ((h.m s.fr).1 ⟨s, hs, Int.le_refl _, hn⟩).2
  have h2 := ((h.m (s.to - 1)).1 ⟨s, hs, by omega, by omega⟩).2
  unfold Spn.has at h1 h2
  dsimp only at h1 h2
  exact Spn.ok_iff.2 ⟨by omega, by omega, hn⟩
set_option maxRecDepth 100000 in
set_option maxHeartbeats 8000000 in
theorem law_LocalGaps (z : Zn) (vT vR : Value) (a b : Int) (vA : Value) (xs : List Int) (w : World) (hT : Rd Trn.cells 4 w vT z.table) (hR : Rd Rule.cells 11 w vR z.tail) (hA : Rd encU 1 w vA xs) (hm : HasMax w) :
    Calls Tryz.prog 8 #[z.v vT vR, .agg #[.int .i64 a, .int .i64 b], vA] w fun e w' => e = .returned (.bool true) ∧ Below w.heap.size w w' := by
  have HA := Lib.hid (fun W (hb : Below w.heap.size w W) => awake23_any W (hm.on hb))
  have HF0 := Lib.hid (fun W (hb : Below w.heap.size w W) => few_any z vT vR W (hT.on hb) (hR.on hb))
  have HG0 := Lib.hid (fun hfs hll htl h1 h2 h3 h4 W (hb : Below w.heap.size w W) => Gaps_any z vT vR a b W (hm.on hb) (hT.on hb) (hR.on hb) hfs hll htl h1 h2 h3 h4)
  have HD0 := Lib.hid (fun hfs hll htl h1 h2 h3 h4 W (hb : Below w.heap.size w W) => Folds_any z vT vR a b W (hm.on hb) (hT.on hb) (hR.on hb) hfs hll htl h1 h2 h3 h4)
  have HIN0 := Lib.hid (fun hfs hll htl l W (hb : Below w.heap.size w W) => Instants_any z vT vR l W (hm.on hb) (hT.on hb) (hR.on hb) hfs hll htl)
  have HX := Lib.hid (fun W (hb : Below w.heap.size w W) => hA.on hb)
  obtain ⟨AT, cT, rfl⟩ := rd_vf hT
  obtain ⟨AR, cR, rfl⟩ := rd_vf hR
  obtain ⟨AA, cA, rfl⟩ := rd_vf hA
  clear hT hR hA hm
  have b0 := (Blk.new w #[.string z.nm, .int .i64 z.first.off, .int .i64 z.first.sv, .string z.first.nm, .slice AT z.table.length cT, .slice AR z.tail.length cR, .int .i64 z.off, .string z.form, .int .i64 z.year] 27).alloc (.cells #[.int .i64 a, .int .i64 b] 34)
  have b1 := Blk.new (w.alloc (.cells #[.string z.nm, .int .i64 z.first.off, .int .i64 z.first.sv, .string z.first.nm, .slice AT z.table.length cT, .slice AR z.tail.length cR, .int .i64 z.off, .string z.form, .int .i64 z.year] 27)) #[.int .i64 a, .int .i64 b] 34
  rw [World.size_alloc] at b1
  have hB1 : Below w.heap.size w ((w.alloc (.cells #[.string z.nm, .int .i64 z.first.off, .int .i64 z.first.sv, .string z.first.nm, .slice AT z.table.length cT, .slice AR z.tail.length cR, .int .i64 z.off, .string z.form, .int .i64 z.year] 27)).alloc (.cells #[.int .i64 a, .int .i64 b] 34)) := ((Below.refl _ _).alloc (Nat.le_refl _) _).alloc (by simp) _
  unfold Zn.v at HF0 HG0 HD0 HIN0 ⊢
  go_enter Tryz.func8, Tryz.ntmps8
  go_wp2_with fail
  generalize ((w.alloc (.cells #[.string z.nm, .int .i64 z.first.off, .int .i64 z.first.sv, .string z.first.nm, .slice AT z.table.length cT, .slice AR z.tail.length cR, .int .i64 z.off, .string z.form, .int .i64 z.year] 27)).alloc (.cells #[.int .i64 a, .int .i64 b] 34)) = W at *
  have hw : w.heap.size ≤ W.heap.size := hB1.size
  refine (HA.out W hB1).mono ?_
  rintro e w1 ⟨rfl, hb1⟩
  clear HA
  have KZ := b0.below hb1 b0.lt
  have KI := b1.below hb1 b1.lt
  have KL := KZ.lt
  have KIL := KI.lt
  have z0 := KZ.cl 0 _ rfl
  have z1 := KZ.cl 1 _ rfl
  have z2 := KZ.cl 2 _ rfl
  have z3 := KZ.cl 3 _ rfl
  have z4 := KZ.cl 4 _ rfl
  have z5 := KZ.cl 5 _ rfl
  have z6 := KZ.cl 6 _ rfl
  have z7 := KZ.cl 7 _ rfl
  have z8 := KZ.cl 8 _ rfl
  have i0 := KI.cl 0 _ rfl
  have i1 := KI.cl 1 _ rfl
  have HF := Lib.hid (fun W' (hb : Below W.heap.size W W') => HF0.out W' (hB1.trans (hb.mono hw)))
  clear HF0
  go_wp2_with fail

  have pz0 : ∀ q : Bel w1.heap.size w1, q.w1.cell? ⟨w.heap.size, 0, none⟩ = some (.string z.nm) := fun q => (bel_cell q _ _ KL).trans z0
  have pz1 : ∀ q : Bel w1.heap.size w1, q.w1.cell? ⟨w.heap.size, 1, none⟩ = some (.int .i64 z.first.off) := fun q => (bel_cell q _ _ KL).trans z1
  have pz2 : ∀ q : Bel w1.heap.size w1, q.w1.cell? ⟨w.heap.size, 2, none⟩ = some (.int .i64 z.first.sv) := fun q => (bel_cell q _ _ KL).trans z2
  have pz3 : ∀ q : Bel w1.heap.size w1, q.w1.cell? ⟨w.heap.size, 3, none⟩ = some (.string z.first.nm) := fun q => (bel_cell q _ _ KL).trans z3
  have pz4 : ∀ q : Bel w1.heap.size w1, q.w1.cell? ⟨w.heap.size, 4, none⟩ = some (.slice AT z.table.length cT) := fun q => (bel_cell q _ _ KL).trans z4
  have pz5 : ∀ q : Bel w1.heap.size w1, q.w1.cell? ⟨w.heap.size, 5, none⟩ = some (.slice AR z.tail.length cR) := fun q => (bel_cell q _ _ KL).trans z5
  have pz6 : ∀ q : Bel w1.heap.size w1, q.w1.cell? ⟨w.heap.size, 6, none⟩ = some (.int .i64 z.off) := fun q => (bel_cell q _ _ KL).trans z6
  have pz7 : ∀ q : Bel w1.heap.size w1, q.w1.cell? ⟨w.heap.size, 7, none⟩ = some (.string z.form) := fun q => (bel_cell q _ _ KL).trans z7
  have pz8 : ∀ q : Bel w1.heap.size w1, q.w1.cell? ⟨w.heap.size, 8, none⟩ = some (.int .i64 z.year) := fun q => (bel_cell q _ _ KL).trans z8
  have pi0 : ∀ q : Bel w1.heap.size w1, q.w1.cell? ⟨w.heap.size + 1, 0, none⟩ = some (.int .i64 a) := fun q => (bel_cell q _ _ KIL).trans i0
  have pi1 : ∀ q : Bel w1.heap.size w1, q.w1.cell? ⟨w.heap.size + 1, 1, none⟩ = some (.int .i64 b) := fun q => (bel_cell q _ _ KIL).trans i1
  have HFp := Lib.hid (fun q : Bel w1.heap.size w1 => HF.out q.w1 (hb1.trans (q.h.mono hb1.size)))
  have HSp := Lib.hid (fun W => refSpan_any a b W)
  clear HF z0 z1 z2 z3 z4 z5 z6 z7 z8 i0 i1
  cases hf : z.fewB
  · rw [hf] at HFp
    refine wp_region_bel (by kernel_rfl) (by kernel_rfl) ?_
    repeat (go_big_quiet_step ((first | (go_at_call 24; exact bel_of (Nat.le_refl _) (HFp.out _)) | (go_at_call 29; exact bel_of (Nat.le_refl _) (HSp.out _)) | (go_at_call 30; exact bel_of (Nat.le_refl _) (years40_any _)))))
    refine wpQuiet_nil ?_
    intro w3 hw'
    obtain ⟨⟨w3', hb3⟩, hw''⟩ := hw'
    subst hw''
    have hb3 := hb1.trans (hb3.mono hb1.size)
    clear pz0 pz1 pz2 pz3 pz4 pz5 pz6 pz7 pz8 pi0 pi1 HFp HSp KZ KI KL KIL
    go_wp2
    go_ret
    exact ⟨rfl, hB1.trans (hb3.mono hw)⟩
  · rw [hf] at HFp
    obtain ⟨htl, hll, hfs0⟩ := few_parts hf
    have hfs : z.form.size < 4294967281 := by omega
    cases hs : tSpanB a b
    · rw [hs] at HSp
      refine wp_region_bel (by kernel_rfl) (by kernel_rfl) ?_
      repeat (go_big_quiet_step ((first | (go_at_call 24; exact bel_of (Nat.le_refl _) (HFp.out _)) | (go_at_call 29; exact bel_of (Nat.le_refl _) (HSp.out _)) | (go_at_call 30; exact bel_of (Nat.le_refl _) (years40_any _)))))
      refine wpQuiet_nil ?_
      intro w3 hw'
      obtain ⟨⟨w3', hb3⟩, hw''⟩ := hw'
      subst hw''
      have hb3 := hb1.trans (hb3.mono hb1.size)
      clear pz0 pz1 pz2 pz3 pz4 pz5 pz6 pz7 pz8 pi0 pi1 HFp HSp KZ KI KL KIL
      go_wp2
      go_ret
      exact ⟨rfl, hB1.trans (hb3.mono hw)⟩
    · rw [hs] at HSp
      obtain ⟨s1, s2, s3⟩ : -62135596800 ≤ a ∧ a < b ∧ b ≤ 253402300800 := by unfold tSpanB at hs; simpa using hs
      have hwd : wrap64 (b - a) = b - a := by unfold wrap64; omega
      by_cases hd40 : b - a ≤ 1262278080
      · have d40 : decide (1262278080 < b - a) = false := decide_eq_false (by omega)
        by_cases h20 : xs.length ≤ 20
        · have d20 : decide ((20 : Int) < (xs.length : Int)) = false := decide_eq_false (by omega)
          refine wp_region_bel (by kernel_rfl) (by kernel_rfl) ?_
          repeat (go_big_quiet_step ((first | (go_at_call 24; exact bel_of (Nat.le_refl _) (HFp.out _)) | (go_at_call 29; exact bel_of (Nat.le_refl _) (HSp.out _)) | (go_at_call 30; exact bel_of (Nat.le_refl _) (years40_any _)))))
          refine wpQuiet_nil ?_
          intro w3 hw'
          obtain ⟨⟨w3', hb3⟩, hw''⟩ := hw'
          subst hw''
          have hb3 := hb1.trans (hb3.mono hb1.size)
          clear pz0 pz1 pz2 pz3 pz4 pz5 pz6 pz7 pz8 pi0 pi1 HFp HSp KZ KI KL KIL
          have HG := Lib.hid (fun W' (hb : Below W.heap.size W W') => HG0.out hfs hll htl s1 s2 s3 (by omega) W' (hB1.trans (hb.mono hw)))
          have HD := Lib.hid (fun W' (hb : Below W.heap.size W W') => HD0.out hfs hll htl s1 s2 s3 (by omega) W' (hB1.trans (hb.mono hw)))
          have HIN := Lib.hid (fun l W' (hb : Below W.heap.size W W') => HIN0.out hfs hll htl l W' (hB1.trans (hb.mono hw)))
          clear HG0 HD0 HIN0
          unfold GapsV at HG
          unfold FoldsV at HD
          have KZ := b0.below hb3 b0.lt
          have KI := b1.below hb3 b1.lt
          have KL := KZ.lt
          have KIL := KI.lt
          have z0 := KZ.cl 0 _ rfl
          have z1 := KZ.cl 1 _ rfl
          have z2 := KZ.cl 2 _ rfl
          have z3 := KZ.cl 3 _ rfl
          have z4 := KZ.cl 4 _ rfl
          have z5 := KZ.cl 5 _ rfl
          have z6 := KZ.cl 6 _ rfl
          have z7 := KZ.cl 7 _ rfl
          have z8 := KZ.cl 8 _ rfl
          have i0 := KI.cl 0 _ rfl
          have i1 := KI.cl 1 _ rfl
          cases hv : z.valid
          · have HGn := Lib.hid (fun W' (hb : Below W.heap.size W W') => (HG.out W' hb).mono fun (e : Ending) (w' : World) ⟨h1, h2⟩ => show e = Ending.returned (.tuple #[.slice none 0 0, .int .i64 1]) ∧ Below W'.heap.size W' w' from ⟨(by rcases h2 with ⟨_, h⟩ | ⟨h, _⟩; exact h; rw [hv] at h; cases h), h1⟩)
            have HDn := Lib.hid (fun W' (hb : Below W.heap.size W W') => (HD.out W' hb).mono fun (e : Ending) (w' : World) ⟨h1, h2⟩ => show e = Ending.returned (.tuple #[.slice none 0 0, .int .i64 1]) ∧ Below W'.heap.size W' w' from ⟨(by rcases h2 with ⟨_, h⟩ | ⟨h, _⟩; exact h; rw [hv] at h; cases h), h1⟩)
            clear HG HD HIN
            go_wp2_with (first
              | (go_at_call 31; refine (HGn.out w3 hb3).mono ?_; rintro e w4 ⟨rfl, hb4⟩; have hb4 := hb3.trans (hb4.mono hb3.size); clear KZ KI KL KIL z0 z1 z2 z3 z4 z5 z6 z7 z8 i0 i1; have KZ := b0.below hb4 b0.lt; have KI := b1.below hb4 b1.lt; have KL := KZ.lt; have KIL := KI.lt; have z0 := KZ.cl 0 _ rfl; have z1 := KZ.cl 1 _ rfl; have z2 := KZ.cl 2 _ rfl; have z3 := KZ.cl 3 _ rfl; have z4 := KZ.cl 4 _ rfl; have z5 := KZ.cl 5 _ rfl; have z6 := KZ.cl 6 _ rfl; have z7 := KZ.cl 7 _ rfl; have z8 := KZ.cl 8 _ rfl; have i0 := KI.cl 0 _ rfl; have i1 := KI.cl 1 _ rfl)
              | (go_at_call 32; refine (HDn.out w4 hb4).mono ?_; rintro e w5 ⟨rfl, hb5⟩; have hb5 := hb4.trans (hb5.mono hb4.size)))
            go_ret
            exact ⟨ret1 (vbool (by simp)), hB1.trans (hb5.mono hw)⟩
          · go_wp2_with fail
            refine (HG.out w3 hb3).mono ?_
            rintro e w4 ⟨hb4, ⟨hv0, _⟩ | ⟨_, G1, P1, u1, hG1, hU1, hl1, rfl, hr1⟩⟩
            · rw [hv] at hv0; cases hv0
            have hb40 := hb4
            have hb4 := hb3.trans (hb4.mono hb3.size)
            clear KZ KI KL KIL z0 z1 z2 z3 z4 z5 z6 z7 z8 i0 i1
            have KZ := b0.below hb4 b0.lt; have KI := b1.below hb4 b1.lt; have KL := KZ.lt; have KIL := KI.lt; have z0 := KZ.cl 0 _ rfl; have z1 := KZ.cl 1 _ rfl; have z2 := KZ.cl 2 _ rfl; have z3 := KZ.cl 3 _ rfl; have z4 := KZ.cl 4 _ rfl; have z5 := KZ.cl 5 _ rfl; have z6 := KZ.cl 6 _ rfl; have z7 := KZ.cl 7 _ rfl; have z8 := KZ.cl 8 _ rfl; have i0 := KI.cl 0 _ rfl; have i1 := KI.cl 1 _ rfl
            go_wp2_with fail
            refine (HD.out w4 hb4).mono ?_
            rintro e w5 ⟨hb5, ⟨hv0, _⟩ | ⟨_, G2, P2, u2, hG2, hU2, hl2, rfl, hr2⟩⟩
            · rw [hv] at hv0; cases hv0
            have hR1 := (rd_of_own encN_len hr1 rfl).on hb5
            have hR2 := rd_of_own encN_len hr2 rfl
            have hb5 := hb4.trans (hb5.mono hb4.size)
            clear KZ KI KL KIL z0 z1 z2 z3 z4 z5 z6 z7 z8 i0 i1
            have KZ := b0.below hb5 b0.lt; have KI := b1.below hb5 b1.lt; have KL := KZ.lt; have KIL := KI.lt; have z0 := KZ.cl 0 _ rfl; have z1 := KZ.cl 1 _ rfl; have z2 := KZ.cl 2 _ rfl; have z3 := KZ.cl 3 _ rfl; have z4 := KZ.cl 4 _ rfl; have z5 := KZ.cl 5 _ rfl; have z6 := KZ.cl 6 _ rfl; have z7 := KZ.cl 7 _ rfl; have z8 := KZ.cl 8 _ rfl; have i0 := KI.cl 0 _ rfl; have i1 := KI.cl 1 _ rfl
            obtain ⟨AU1, cu1, rfl⟩ := rd_vf hR1
            obtain ⟨AU2, cu2, rfl⟩ := rd_vf hR2
            have HV1 := Lib.hid (fun W' (hb : Below w5.heap.size w5 W') => rValid_any _ P1 W' (hR1.on hb))
            have HV2 := Lib.hid (fun W' (hb : Below w5.heap.size w5 W') => rValid_any _ P2 W' (hR2.on hb))
            have hvv1 := union_valid hU1 hl1 s1 s3
            have hvv2 := union_valid hU2 hl2 s1 s3
            rw [hvv1] at HV1
            rw [hvv2] at HV2
            have HMK := Lib.hid (fun l (hl : a ≤ l ∧ l < b) => marks (g := hasB P1 l) (f := hasB P2 l) hv s1 s3 hl hG1 hG2 ((hasB_iff hvv1 l).trans (by rw [hU1.m l]; exact ⟨fun h => h.1, fun h => ⟨h, hl⟩⟩)) ((hasB_iff hvv2 l).trans (by rw [hU2.m l]; exact ⟨fun h => h.1, fun h => ⟨h, hl⟩⟩)))
            have HV1p := Lib.hid (fun q : Bel w5.heap.size w5 => HV1.out q.w1 q.h)
            have HV2p := Lib.hid (fun q : Bel w5.heap.size w5 => HV2.out q.w1 q.h)
            clear HG HD
            go_wp2_with fail
            by_cases q1 : P1.length ≤ 200
            · have d1 : decide ((200 : Int) < (P1.length : Int)) = false := decide_eq_false (by omega)
              by_cases q2 : P2.length ≤ 200
              · have d2 : decide ((200 : Int) < (P2.length : Int)) = false := decide_eq_false (by omega)
                refine (HV1.out w5 (Below.refl _ _)).mono ?_
                rintro e w6 ⟨rfl, hb6⟩
                go_wp2_with fail
                refine (HV2.out w6 hb6).mono ?_
                rintro e w7 ⟨rfl, hb7⟩
                have hb7 := hb6.trans (hb7.mono hb6.size)
                clear HV1p HV2p
                go_wp2_with fail
                have bA := Blk.new w7 #[.slice AU1 P1.length cu1, .slice AU2 P2.length cu2] 46
                have hbA : Below w5.heap.size w5 (w7.alloc (.cells #[.slice AU1 P1.length cu1, .slice AU2 P2.length cu2] 46)) := hb7.alloc hb7.size _
                generalize w7.alloc (.cells #[.slice AU1 P1.length cu1, .slice AU2 P2.length cu2] 46) = WA at *
                generalize hB7 : w7.heap.size = B7 at *
                have HARR := Lib.hid (fun n (hn : n < 2) => show ∃ AX PL cx, (∀ wr, Below WA.heap.size WA wr → wr.cell? ⟨B7, n, none⟩ = some (.slice AX (List.length (α := Spn) PL) cx) ∧ Rd encN 2 wr (.slice AX PL.length cx) PL) ∧ PL.length ≤ 200 from by
                  have q := fun wr (hb : Below WA.heap.size WA wr) => bA.below hb bA.lt
                  have hh := fun wr (hb : Below WA.heap.size WA wr) => hbA.trans (hb.mono hbA.size)
                  match n, hn with
                  | 0, _ => exact ⟨AU1, P1, cu1, fun wr hb => ⟨(q wr hb).cl 0 _ rfl, hR1.on (hh wr hb)⟩, q1⟩
                  | 1, _ => exact ⟨AU2, P2, cu2, fun wr hb => ⟨(q wr hb).cl 1 _ rfl, hR2.on (hh wr hb)⟩, q2⟩)
                have HBW := Lib.hid (fun wr (hb : Below WA.heap.size WA wr) => show Below W.heap.size W wr from hb5.trans ((hbA.trans (hb.mono hbA.size)).mono hb5.size))
                have HI := Lib.hid (fun wr (hb : Below WA.heap.size WA wr) => b1.below (HBW.out wr hb) b1.lt)
                obtain ⟨i0, hi0, hz0, hz1, hz2⟩ := info_parts info_int
                have hsA := hbA.size
                clear HV1 HV2
                go_loopw [11, 102] (fun v11 v102 wr => ∃ (n : Nat) (L : List Int), n ≤ 2 ∧ v102 = .int .i64 n ∧ L.length ≤ 800 * n ∧ wr.ownsRow WA.heap.size 3 1 v11 L.length (L.map encI) ∧ Below WA.heap.size WA wr) (fun _ v102 _ => 2 - (intOf v102).toNat)
                case atStart => exact ⟨0, [], Nat.zero_le _, rfl, Nat.zero_le _, World.ownsRow_nil _ _ _ _, Below.refl _ _⟩
                case round =>
                  obtain ⟨n, L, hn, rfl, hL, hown, hbr⟩ := hrel
                  have hszr := hbr.size
                  obtain ⟨A5, c5, rfl⟩ := own_formN hown
                  by_cases hlt : n < 2
                  · obtain ⟨AX, PL, cx, hE0, hPL⟩ := HARR.out n hlt
                    have e0 := (hE0 wr hbr).1
                    have HRX := Lib.hid (fun wv (hb : Below WA.heap.size WA wv) => (hE0 wv hb).2)
                    have HO := Lib.hid hown
                    clear hE0 hown
                    go_wp2
                    clear e0
                    generalize hq : wr = wq at *
                    clear hq
                    go_loopw [11, 108] (fun v11 v108 wv => ∃ (m : Nat) (M : List Int), m ≤ PL.length ∧ v108 = .int .i64 m ∧ M.length ≤ 800 * n + 4 * m ∧ wv.ownsRow WA.heap.size 3 1 v11 M.length (M.map encI) ∧ Below WA.heap.size WA wv) (fun _ v108 _ => PL.length - (intOf v108).toNat)
                    case atStart => exact ⟨0, L, Nat.zero_le _, rfl, by omega, HO.out, hbr⟩
                    case round =>
                      obtain ⟨m, M, hm, rfl, hM, hown, hbv⟩ := hrel
                      obtain ⟨A6, c6, rfl⟩ := own_formN hown
                      have hszv := hbv.size
                      by_cases hml : m < PL.length
                      · obtain ⟨_, hP0 | ⟨g, o, rfl, hg, hcs⟩⟩ := rd_at (HRX.out wr hbv)
                        · rw [hP0] at hml; exact absurd hml (Nat.not_lt_zero _)
                        · obtain ⟨e1, e2⟩ := hcs m hml
                          obtain ⟨s, hs⟩ : ∃ s, PL[m]! = s := ⟨_, rfl⟩
                          rw [hs] at e1 e2
                          clear hcs hs
                          have HO6 := Lib.hid hown
                          clear hown
                          have bs := Blk.new wr #[.int .i64 s.fr, .int .i64 s.to] 34
                          have hbS : Below WA.heap.size WA (wr.alloc (.cells #[.int .i64 s.fr, .int .i64 s.to] 34)) := hbv.alloc hbv.size _
                          have s0 := bs.cl 0 _ rfl
                          have s1' := bs.cl 1 _ rfl
                          go_wp2_with (at_builtin; go_loud (refine wpList_append_own _ rfl (.tmp 112) (.tmp 123) _ rfl WA.heap.size 3 i0 _ 1 8 Tryz.underlying58 hi0 hz0 hz1 hz2 rfl (by decide) _ _ _ rfl ((HO6.out.alloc _).alloc _) ⟨_, 0, none⟩ 4 4 [.int .i64 (wrap64 (s.fr - 1)), .int .i64 s.fr, .int .i64 (wrap64 (s.to - 1)), .int .i64 s.to] rfl rfl (new_row_at (by simp) _) (four_one _ _ _ _) (by simp only [maxLen]; omega) (by omega) (by simp; omega) ?_); intro v' w8 hown8 hg8 _)
                          have hB8 : Below WA.heap.size WA w8 := below_app HO6.out (Nat.le_refl _) (hbS.alloc (by simp; omega) _) hg8
                          go_roundw
                          case rel =>
                            refine ⟨_, _, _, ⟨m + 1, by omega, ?_, M ++ [wrap64 (s.fr - 1), s.fr, wrap64 (s.to - 1), s.to], by rw [List.length_append]; simp; omega, ?_, hB8⟩, rfl, rfl, rfl⟩
                            · go_num
                            · rw [List.length_append, List.map_append]; exact hown8
                          case measure => simp [intOf]; omega
                      · go_wp2
                        go_roundw
                        case rel => exact ⟨n + 1, M, by omega, by go_num, by omega, hown, hbv⟩
                        case measure => simp [intOf]; omega
                  · go_wp2
                    have HO := Lib.hid hown
                    clear hown
                    generalize hq : wr = wq at *
                    clear hq
                    go_loopw [11, 129] (fun v11 v129 wv => ∃ (m : Nat) (M : List Int), m ≤ xs.length ∧ v129 = .int .i64 m ∧ M.length ≤ 1600 + m ∧ wv.ownsRow WA.heap.size 3 1 v11 M.length (M.map encI) ∧ Below WA.heap.size WA wv) (fun _ v129 _ => xs.length - (intOf v129).toNat)
                    case atStart => exact ⟨0, L, Nat.zero_le _, rfl, by omega, HO.out, hbr⟩
                    case round =>
                      obtain ⟨m, M, hm, rfl, hM, hown, hbv⟩ := hrel
                      obtain ⟨A6, c6, rfl⟩ := own_formN hown
                      have hszv := hbv.size
                      by_cases hml : m < xs.length
                      · obtain ⟨_, hP0 | ⟨g, o, rfl, hg, hcs⟩⟩ := rd_atU (HX.out wr (hB1.trans ((HBW.out wr hbv).mono hw)))
                        · rw [hP0] at hml; exact absurd hml (Nat.not_lt_zero _)
                        · have e1 := hcs m hml
                          obtain ⟨x, hx⟩ : ∃ x, xs[m]! = x := ⟨_, rfl⟩
                          rw [hx] at e1
                          clear hcs hx
                          have HO6 := Lib.hid hown
                          clear hown
                          have c0 := (HI.out wr hbv).cl 0 _ rfl
                          have c1 := (HI.out wr hbv).cl 1 _ rfl
                          have hne : b - a ≠ 0 := by omega
                          have hne2 : (b - a == 0) = false := by simp; omega
                          have hwi : IntKind.i64.wrap (b - a) = b - a := by simp only [IntKind.wrap, IntKind.bits, IntKind.signed]; first | omega | (simp; omega)
                          have hne3 : ¬ b = a := by omega
                          have hne4 : ¬ a = b := by omega
                          have hne5 : (b == a) = false := by simp; omega
                          have hdr : Below WA.heap.size WA wr.drew := below_drewN hbv 1
                          have hdr1 : Below wr.heap.size wr wr.drew := below_drewN (Below.refl _ _) 1
                          have HO7 := Lib.hid (own_on HO6.out hdr1)
                          have HS := Lib.hid (fun w' (hb : Below WA.heap.size WA w') => And.intro hb (And.intro ((HI.out w' hb).cl 0 _ rfl) ((HI.out w' hb).cl 1 _ rfl)))
                          go_wp2_with fail
                          go_region_held3 (fun w' => Below WA.heap.size WA w' ∧ w'.cell? ⟨w.heap.size + 1, 0, none⟩ = some (.int .i64 a) ∧ w'.cell? ⟨w.heap.size + 1, 1, none⟩ = some (.int .i64 b)) (first | exact HS.out _ hdr | exact HS.out _ K8 | exact HS.out _ (hdr.alloc hdr.size _) | go_keep)
                            ((refine step_append_lies _ (by rfl) _ _ _ (by rfl) WA.heap.size 3 i0 _ 1 8 Tryz.underlying58 hi0 hz0 hz1 hz2 rfl (by omega) _ _ _ (by rfl) (HO7.out.alloc _) ⟨_, 0, none⟩ 1 1 [.int .i64 (IntKind.i64.wrap (a + (IntKind.i64.wrap x).tmod (b - a)))] (by rfl) (by rfl) (World.news_of_block (cs := #[.int .i64 (IntKind.i64.wrap (a + (IntKind.i64.wrap x).tmod (b - a)))]) (t := 3) (fr := (0, 0)) (heap_alloc_new _ _)) (fun u hu => by rw [List.mem_singleton] at hu; subst hu; rfl) (by omega) (by simp only [maxLen]; omega) (by omega) (by simp; omega) _ rfl ?_; intro gg cap w8 hown8 hg8 hat8 hlt8; have K8 : Below WA.heap.size WA w8 := below_app HO6.out (Nat.le_refl _) (hdr.alloc hdr.size _) hg8))
                          go_wp2
                          go_roundw
                          case rel => exact ⟨m + 1, M ++ [IntKind.i64.wrap (a + (IntKind.i64.wrap x).tmod (b - a))], by omega, by go_num, by simp; omega, by rw [List.length_append, List.map_append]; exact hown8, K8⟩
                          case measure => simp [intOf]; omega
                      · obtain rfl : m = xs.length := by omega
                        have HOQ := Lib.hid hown
                        clear hown HX HARR
                        go_wp2
                        generalize hq : wr = wq at *
                        clear hq
                        go_loopw [150] (fun v150 wv => ∃ k : Nat, k ≤ M.length ∧ v150 = .int .i64 k ∧ Below wq.heap.size wq wv) (fun v150 _ => M.length - (intOf v150).toNat)
                        case atStart => exact ⟨0, Nat.zero_le _, rfl, Below.refl _ _⟩
                        case round =>
                          obtain ⟨k, hk, rfl, hbx⟩ := hrel
                          have hAX := hbv.trans (hbx.mono hbv.size)
                          have hWX := HBW.out wr hAX
                          have h5X := hbA.trans (hAX.mono hbA.size)
                          by_cases hlt : k < M.length
                          · have hrr := own_on HOQ.out hbx
                            obtain ⟨gI, oI, rfl, _, hgI, hcI⟩ := int_rowG hrr (by omega)
                            have ek := hcI k hlt
                            obtain ⟨l, hl⟩ : ∃ l, M[k]! = l := ⟨_, rfl⟩
                            rw [hl] at ek
                            clear hcI hl hrr
                            have KZ := b0.below hWX b0.lt
                            have KI := b1.below hWX b1.lt
                            have KL := KZ.lt
                            have KIL := KI.lt
                            have z0 := KZ.cl 0 _ rfl
                            have z1 := KZ.cl 1 _ rfl
                            have z2 := KZ.cl 2 _ rfl
                            have z3 := KZ.cl 3 _ rfl
                            have z4 := KZ.cl 4 _ rfl
                            have z5 := KZ.cl 5 _ rfl
                            have z6 := KZ.cl 6 _ rfl
                            have z7 := KZ.cl 7 _ rfl
                            have z8 := KZ.cl 8 _ rfl
                            have i0 := KI.cl 0 _ rfl
                            have i1 := KI.cl 1 _ rfl
                            by_cases c1 : l < a
                            · have d3 : decide (l < a) = true := decide_eq_true c1
                              go_wp2
                              go_roundw
                              case rel => exact ⟨k + 1, by omega, by go_num, hbx⟩
                              case measure => simp [intOf]; omega
                            · have d3 : decide (l < a) = false := decide_eq_false c1
                              by_cases c2 : b ≤ l
                              · have d4 : decide (b ≤ l) = true := decide_eq_true c2
                                go_wp2
                                go_roundw
                                case rel => exact ⟨k + 1, by omega, by go_num, hbx⟩
                                case measure => simp [intOf]; omega
                              · have d4 : decide (b ≤ l) = false := decide_eq_false c2
                                obtain ⟨m1, m2, m3⟩ := HMK.out l ⟨by omega, by omega⟩
                                have hiv : z.insV l = (z.insts l, 0) := by
                                  unfold Zn.insV inT
                                  rw [if_neg (by simp [hv]), if_neg (by simp; omega)]
                                have HI2 := Lib.hid (HIN.out l)
                                rw [hiv] at HI2
                                have HH1 := Lib.hid (fun W' (hb : Below wr.heap.size wr W') => Has_any P1 l _ W' (hR1.on (h5X.trans (hb.mono h5X.size))))
                                have HH2 := Lib.hid (fun W' (hb : Below wr.heap.size wr W') => Has_any P2 l _ W' (hR2.on (h5X.trans (hb.mono h5X.size))))
                                clear hiv
                                generalize z.insts l = IL at *
                                generalize hg0 : hasB P1 l = gb at *
                                generalize hf0 : hasB P2 l = fb at *
                                clear hg0 hf0
                                by_cases c3 : l < -62135409600
                                · have d5 : decide (l < -62135409600) = true := decide_eq_true c3
                                  cases gb
                                  · cases fb
                                    · have n1 : ¬ 1 < IL.length := fun h => Bool.false_ne_true (m2.2 h)
                                      have e1 : decide ((1 : Int) < (IL.length : Int)) = false := decide_eq_false (by omega)
                                      skip
                                      clear m1 m2 m3
                                      go_wp2_with fail
                                      refine (HI2.out wr hWX).mono ?_
                                      rintro e w9 ⟨vI, rfl, hrI, hb9⟩
                                      obtain ⟨AI, cI, rfl⟩ := own_formN hrI
                                      clear hrI HI2
                                      go_wp2_with fail
                                      refine (HH1.out w9 hb9).mono ?_
                                      rintro e w10 ⟨rfl, hb10⟩
                                      have hb10 := hb9.trans (hb10.mono hb9.size)
                                      go_wp2_with fail
                                      refine (HH2.out w10 hb10).mono ?_
                                      rintro e w11 ⟨rfl, hb11⟩
                                      have hb11 := hb10.trans (hb11.mono hb10.size)
                                      clear HH1 HH2 HIN HMK HOQ
                                      go_wp2
                                      go_roundw
                                      case rel => exact ⟨k + 1, by omega, by go_num, hbx.trans (hb11.mono hbx.size)⟩
                                      case measure => simp [intOf]; omega
                                    · have n1 : 1 < IL.length := m2.1 rfl
                                      have e1 : decide ((1 : Int) < (IL.length : Int)) = true := decide_eq_true (by omega)
                                      have e0 : ((IL.length : Int) == 0) = false := beq_eq_false_iff_ne.2 (by omega)
                                      clear m1 m2 m3
                                      go_wp2_with fail
                                      refine (HI2.out wr hWX).mono ?_
                                      rintro e w9 ⟨vI, rfl, hrI, hb9⟩
                                      obtain ⟨AI, cI, rfl⟩ := own_formN hrI
                                      clear hrI HI2
                                      go_wp2_with fail
                                      refine (HH1.out w9 hb9).mono ?_
                                      rintro e w10 ⟨rfl, hb10⟩
                                      have hb10 := hb9.trans (hb10.mono hb9.size)
                                      go_wp2_with fail
                                      refine (HH2.out w10 hb10).mono ?_
                                      rintro e w11 ⟨rfl, hb11⟩
                                      have hb11 := hb10.trans (hb11.mono hb10.size)
                                      clear HH1 HH2 HIN HMK HOQ
                                      go_wp2
                                      go_roundw
                                      case rel => exact ⟨k + 1, by omega, by go_num, hbx.trans (hb11.mono hbx.size)⟩
                                      case measure => simp [intOf]; omega
                                  · have hnil := m1 rfl
                                    subst hnil
                                    cases fb
                                    · clear m1 m2 m3
                                      go_wp2_with fail
                                      refine (HI2.out wr hWX).mono ?_
                                      rintro e w9 ⟨vI, rfl, hrI, hb9⟩
                                      obtain ⟨AI, cI, rfl⟩ := own_formN hrI
                                      clear hrI HI2
                                      go_wp2_with fail
                                      refine (HH1.out w9 hb9).mono ?_
                                      rintro e w10 ⟨rfl, hb10⟩
                                      have hb10 := hb9.trans (hb10.mono hb9.size)
                                      go_wp2_with fail
                                      refine (HH2.out w10 hb10).mono ?_
                                      rintro e w11 ⟨rfl, hb11⟩
                                      have hb11 := hb10.trans (hb11.mono hb10.size)
                                      clear HH1 HH2 HIN HMK HOQ
                                      go_wp2
                                      go_roundw
                                      case rel => exact ⟨k + 1, by omega, by go_num, hbx.trans (hb11.mono hbx.size)⟩
                                      case measure => simp [intOf]; omega
                                    · exact absurd (m2.1 rfl) (by simp)
                                · have d5 : decide (l < -62135409600) = false := decide_eq_false c3
                                  by_cases c4 : 253402113600 ≤ l
                                  · have d6 : decide ((253402113600 : Int) ≤ l) = true := decide_eq_true c4
                                    cases gb
                                    · cases fb
                                      · have n1 : ¬ 1 < IL.length := fun h => Bool.false_ne_true (m2.2 h)
                                        have e1 : decide ((1 : Int) < (IL.length : Int)) = false := decide_eq_false (by omega)
                                        skip
                                        clear m1 m2 m3
                                        go_wp2_with fail
                                        refine (HI2.out wr hWX).mono ?_
                                        rintro e w9 ⟨vI, rfl, hrI, hb9⟩
                                        obtain ⟨AI, cI, rfl⟩ := own_formN hrI
                                        clear hrI HI2
                                        go_wp2_with fail
                                        refine (HH1.out w9 hb9).mono ?_
                                        rintro e w10 ⟨rfl, hb10⟩
                                        have hb10 := hb9.trans (hb10.mono hb9.size)
                                        go_wp2_with fail
                                        refine (HH2.out w10 hb10).mono ?_
                                        rintro e w11 ⟨rfl, hb11⟩
                                        have hb11 := hb10.trans (hb11.mono hb10.size)
                                        clear HH1 HH2 HIN HMK HOQ
                                        go_wp2
                                        go_roundw
                                        case rel => exact ⟨k + 1, by omega, by go_num, hbx.trans (hb11.mono hbx.size)⟩
                                        case measure => simp [intOf]; omega
                                      · have n1 : 1 < IL.length := m2.1 rfl
                                        have e1 : decide ((1 : Int) < (IL.length : Int)) = true := decide_eq_true (by omega)
                                        have e0 : ((IL.length : Int) == 0) = false := beq_eq_false_iff_ne.2 (by omega)
                                        clear m1 m2 m3
                                        go_wp2_with fail
                                        refine (HI2.out wr hWX).mono ?_
                                        rintro e w9 ⟨vI, rfl, hrI, hb9⟩
                                        obtain ⟨AI, cI, rfl⟩ := own_formN hrI
                                        clear hrI HI2
                                        go_wp2_with fail
                                        refine (HH1.out w9 hb9).mono ?_
                                        rintro e w10 ⟨rfl, hb10⟩
                                        have hb10 := hb9.trans (hb10.mono hb9.size)
                                        go_wp2_with fail
                                        refine (HH2.out w10 hb10).mono ?_
                                        rintro e w11 ⟨rfl, hb11⟩
                                        have hb11 := hb10.trans (hb11.mono hb10.size)
                                        clear HH1 HH2 HIN HMK HOQ
                                        go_wp2
                                        go_roundw
                                        case rel => exact ⟨k + 1, by omega, by go_num, hbx.trans (hb11.mono hbx.size)⟩
                                        case measure => simp [intOf]; omega
                                    · have hnil := m1 rfl
                                      subst hnil
                                      cases fb
                                      · clear m1 m2 m3
                                        go_wp2_with fail
                                        refine (HI2.out wr hWX).mono ?_
                                        rintro e w9 ⟨vI, rfl, hrI, hb9⟩
                                        obtain ⟨AI, cI, rfl⟩ := own_formN hrI
                                        clear hrI HI2
                                        go_wp2_with fail
                                        refine (HH1.out w9 hb9).mono ?_
                                        rintro e w10 ⟨rfl, hb10⟩
                                        have hb10 := hb9.trans (hb10.mono hb9.size)
                                        go_wp2_with fail
                                        refine (HH2.out w10 hb10).mono ?_
                                        rintro e w11 ⟨rfl, hb11⟩
                                        have hb11 := hb10.trans (hb11.mono hb10.size)
                                        clear HH1 HH2 HIN HMK HOQ
                                        go_wp2
                                        go_roundw
                                        case rel => exact ⟨k + 1, by omega, by go_num, hbx.trans (hb11.mono hbx.size)⟩
                                        case measure => simp [intOf]; omega
                                      · exact absurd (m2.1 rfl) (by simp)
                                  · have d6 : decide ((253402113600 : Int) ≤ l) = false := decide_eq_false c4
                                    cases gb
                                    · cases fb
                                      · have n1 : ¬ 1 < IL.length := fun h => Bool.false_ne_true (m2.2 h)
                                        have e1 : decide ((1 : Int) < (IL.length : Int)) = false := decide_eq_false (by omega)
                                        have e0 : ((IL.length : Int) == 0) = false := beq_eq_false_iff_ne.2 (by have := List.length_pos_iff.2 (m3 rfl (by omega) (by omega)); omega)
                                        clear m1 m2 m3
                                        go_wp2_with fail
                                        refine (HI2.out wr hWX).mono ?_
                                        rintro e w9 ⟨vI, rfl, hrI, hb9⟩
                                        obtain ⟨AI, cI, rfl⟩ := own_formN hrI
                                        clear hrI HI2
                                        go_wp2_with fail
                                        refine (HH1.out w9 hb9).mono ?_
                                        rintro e w10 ⟨rfl, hb10⟩
                                        have hb10 := hb9.trans (hb10.mono hb9.size)
                                        go_wp2_with fail
                                        refine (HH2.out w10 hb10).mono ?_
                                        rintro e w11 ⟨rfl, hb11⟩
                                        have hb11 := hb10.trans (hb11.mono hb10.size)
                                        clear HH1 HH2 HIN HMK HOQ
                                        go_wp2
                                        go_roundw
                                        case rel => exact ⟨k + 1, by omega, by go_num, hbx.trans (hb11.mono hbx.size)⟩
                                        case measure => simp [intOf]; omega
                                      · have n1 : 1 < IL.length := m2.1 rfl
                                        have e1 : decide ((1 : Int) < (IL.length : Int)) = true := decide_eq_true (by omega)
                                        have e0 : ((IL.length : Int) == 0) = false := beq_eq_false_iff_ne.2 (by omega)
                                        clear m1 m2 m3
                                        go_wp2_with fail
                                        refine (HI2.out wr hWX).mono ?_
                                        rintro e w9 ⟨vI, rfl, hrI, hb9⟩
                                        obtain ⟨AI, cI, rfl⟩ := own_formN hrI
                                        clear hrI HI2
                                        go_wp2_with fail
                                        refine (HH1.out w9 hb9).mono ?_
                                        rintro e w10 ⟨rfl, hb10⟩
                                        have hb10 := hb9.trans (hb10.mono hb9.size)
                                        go_wp2_with fail
                                        refine (HH2.out w10 hb10).mono ?_
                                        rintro e w11 ⟨rfl, hb11⟩
                                        have hb11 := hb10.trans (hb11.mono hb10.size)
                                        clear HH1 HH2 HIN HMK HOQ
                                        go_wp2
                                        go_roundw
                                        case rel => exact ⟨k + 1, by omega, by go_num, hbx.trans (hb11.mono hbx.size)⟩
                                        case measure => simp [intOf]; omega
                                    · have hnil := m1 rfl
                                      subst hnil
                                      cases fb
                                      · clear m1 m2 m3
                                        go_wp2_with fail
                                        refine (HI2.out wr hWX).mono ?_
                                        rintro e w9 ⟨vI, rfl, hrI, hb9⟩
                                        obtain ⟨AI, cI, rfl⟩ := own_formN hrI
                                        clear hrI HI2
                                        go_wp2_with fail
                                        refine (HH1.out w9 hb9).mono ?_
                                        rintro e w10 ⟨rfl, hb10⟩
                                        have hb10 := hb9.trans (hb10.mono hb9.size)
                                        go_wp2_with fail
                                        refine (HH2.out w10 hb10).mono ?_
                                        rintro e w11 ⟨rfl, hb11⟩
                                        have hb11 := hb10.trans (hb11.mono hb10.size)
                                        clear HH1 HH2 HIN HMK HOQ
                                        go_wp2
                                        go_roundw
                                        case rel => exact ⟨k + 1, by omega, by go_num, hbx.trans (hb11.mono hbx.size)⟩
                                        case measure => simp [intOf]; omega
                                      · exact absurd (m2.1 rfl) (by simp)
                          · go_wp2
                            go_ret
                            exact ⟨rfl, hB1.trans (hWX.mono hw)⟩
              · have d2 : decide ((200 : Int) < (P2.length : Int)) = true := decide_eq_true (by omega)
                refine (HV1.out w5 (Below.refl _ _)).mono ?_
                rintro e w6 ⟨rfl, hb6⟩
                go_wp2_with fail
                refine (HV2.out w6 hb6).mono ?_
                rintro e w7 ⟨rfl, hb7⟩
                have hb7 := hb6.trans (hb7.mono hb6.size)
                clear HV1p HV2p
                go_wp2_with fail
                refine (HV1.out w7 hb7).mono ?_
                rintro e w8 ⟨rfl, hb8⟩
                have hb8 := hb7.trans (hb8.mono hb7.size)
                go_wp2_with fail
                refine (HV2.out w8 hb8).mono ?_
                rintro e w9 ⟨rfl, hb9⟩
                have hb9 := hb8.trans (hb9.mono hb8.size)
                go_wp2
                go_ret
                exact ⟨ret1 (vbool (by simp)), hB1.trans ((hb5.trans (hb9.mono hb5.size)).mono hw)⟩
            · have d1 : decide ((200 : Int) < (P1.length : Int)) = true := decide_eq_true (by omega)
              refine (HV1.out w5 (Below.refl _ _)).mono ?_
              rintro e w6 ⟨rfl, hb6⟩
              go_wp2_with fail
              refine (HV2.out w6 hb6).mono ?_
              rintro e w7 ⟨rfl, hb7⟩
              have hb7 := hb6.trans (hb7.mono hb6.size)
              clear HV1p HV2p
              go_wp2_with fail
              refine (HV1.out w7 hb7).mono ?_
              rintro e w8 ⟨rfl, hb8⟩
              have hb8 := hb7.trans (hb8.mono hb7.size)
              go_wp2_with fail
              refine (HV2.out w8 hb8).mono ?_
              rintro e w9 ⟨rfl, hb9⟩
              have hb9 := hb8.trans (hb9.mono hb8.size)
              go_wp2
              go_ret
              exact ⟨ret1 (vbool (by simp)), hB1.trans ((hb5.trans (hb9.mono hb5.size)).mono hw)⟩
        · have d20 : decide ((20 : Int) < (xs.length : Int)) = true := decide_eq_true (by omega)
          refine wp_region_bel (by kernel_rfl) (by kernel_rfl) ?_
          repeat (go_big_quiet_step ((first | (go_at_call 24; exact bel_of (Nat.le_refl _) (HFp.out _)) | (go_at_call 29; exact bel_of (Nat.le_refl _) (HSp.out _)) | (go_at_call 30; exact bel_of (Nat.le_refl _) (years40_any _)))))
          refine wpQuiet_nil ?_
          intro w3 hw'
          obtain ⟨⟨w3', hb3⟩, hw''⟩ := hw'
          subst hw''
          have hb3 := hb1.trans (hb3.mono hb1.size)
          clear pz0 pz1 pz2 pz3 pz4 pz5 pz6 pz7 pz8 pi0 pi1 HFp HSp KZ KI KL KIL
          go_wp2
          go_ret
          exact ⟨rfl, hB1.trans (hb3.mono hw)⟩
      · have d40 : decide (1262278080 < b - a) = true := decide_eq_true (by omega)
        refine wp_region_bel (by kernel_rfl) (by kernel_rfl) ?_
        repeat (go_big_quiet_step ((first | (go_at_call 24; exact bel_of (Nat.le_refl _) (HFp.out _)) | (go_at_call 29; exact bel_of (Nat.le_refl _) (HSp.out _)) | (go_at_call 30; exact bel_of (Nat.le_refl _) (years40_any _)))))
        refine wpQuiet_nil ?_
        intro w3 hw'
        obtain ⟨⟨w3', hb3⟩, hw''⟩ := hw'
        subst hw''
        have hb3 := hb1.trans (hb3.mono hb1.size)
        clear pz0 pz1 pz2 pz3 pz4 pz5 pz6 pz7 pz8 pi0 pi1 HFp HSp KZ KI KL KIL
        go_wp2
        go_ret
        exact ⟨rfl, hB1.trans (hb3.mono hw)⟩

end Go.Proofs.YtdpkolnfbimheaaGreat

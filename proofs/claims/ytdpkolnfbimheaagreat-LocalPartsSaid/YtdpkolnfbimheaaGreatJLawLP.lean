/- The law LocalParts. Printed by gen_lawlp.py. -/
import Derived.Test.YtdpkolnfbimheaaGreatJLpP
import Derived.Test.YtdpkolnfbimheaaGreatJRunsOf
import Derived.Test.YtdpkolnfbimheaaGreatJEqS
import Derived.Test.YtdpkolnfbimheaaGreatJCombUnion
import Derived.Test.YtdpkolnfbimheaaGreatJCombMeet
import Derived.Test.YtdpkolnfbimheaaGreatGLc
import Derived.Test.YtdpkolnfbimheaaGreatJEncU
import Derived.BigQuiet
namespace Go.Proofs.YtdpkolnfbimheaaGreat
set_option linter.unusedSimpArgs false
set_option linter.unusedVariables false
open Go.ChangeShapes Go.WideShapes Go.ChangeAt Go.RowKit

def tSB (a b : Int) : Bool := decide (-62135596800 ≤ a) && (decide (a < b) && decide (b ≤ 253402300800))
theorem refSpan_lp (a b : Int) (w : World) : Calls Tryz.prog 29 #[.agg #[.int .i64 a, .int .i64 b]] w fun e w' => e = .returned (.bool (tSB a b)) ∧ Below w.heap.size w w' := by
  have hB : Below w.heap.size w (w.alloc (.cells #[.int .i64 a, .int .i64 b] 34)) := (Below.refl _ _).alloc (Nat.le_refl _) _
  unfold tSB
  by_cases h1 : -62135596800 ≤ a
  · by_cases h2 : a < b
    · rw [decide_eq_true h1, decide_eq_true h2]
      go_enter Tryz.func29, Tryz.ntmps29
      go_wp2
      go_ret
      exact ⟨ret1 (vbool (by simp)), hB⟩
    · rw [decide_eq_true h1, decide_eq_false h2]
      go_enter Tryz.func29, Tryz.ntmps29
      go_wp2
      go_ret
      exact ⟨rfl, hB⟩
  · rw [decide_eq_false h1]
    go_enter Tryz.func29, Tryz.ntmps29
    go_wp2
    go_ret
    exact ⟨rfl, hB⟩
theorem years10_any (w : World) : Calls Tryz.prog 30 #[.int .i64 10] w fun e w' => e = .returned (.int .i64 315569520) ∧ Below w.heap.size w w' := by
  go_enter Tryz.func30, Tryz.ntmps30
  go_wp2
  go_ret
  exact ⟨rfl, Below.refl _ _⟩
theorem Blk.set2 {W : World} {B : Nat} {a b : Value} {T : TypeId} (h : Blk W B #[a, b] T) (x y : Value) : Blk ((W.setCell ⟨B, 0, none⟩ x).setCell ⟨B, 1, none⟩ y) B #[x, y] T := by
  have hlt := h.lt
  unfold Blk at h ⊢
  have hg := (Array.getElem?_eq_some_iff.1 h).2
  simp [World.setCell, Array.getElem_modify, hg, hlt]
theorem rd_atJ {w : World} {A : Option Addr} {n c : Nat} {l : List Int} (h : Rd encJ 1 w (.slice A n c) l) : n = l.length ∧ ((l = [] ) ∨ ∃ g o, A = some ⟨g, o, none⟩ ∧ g < w.heap.size ∧ ∀ k, k < l.length → w.cell? ⟨g, o + k, none⟩ = some (.int .i32 l[k]!)) := by
  rcases h with ⟨e, A', c', hv⟩ | ⟨g, o, c', hv, hg, hc⟩
  · injection hv with _ hn _
    subst e
    exact ⟨hn, .inl rfl⟩
  · injection hv with e1 hn _
    refine ⟨hn, .inr ⟨g, o, e1, hg, fun k hk => ?_⟩⟩
    have := hc k hk 0 _ rfl
    rwa [Nat.add_zero, Nat.mul_one] at this
/-- what Map returns, with its error as a number -/
def MapEnd (l : List Spn) (n : Nat) (w : World) (e : Ending) (w' : World) : Prop := ∃ (er : Int) (out : List Spn) (u : Value), e = .returned (.tuple #[u, .int .i64 er]) ∧ (er = 5 ∨ (er = 0 ∧ out.length ≤ 2000 ∧ UnionOk ⟨-62135596800, 253402300800⟩ l out ∧ Rd encN 2 w' u out)) ∧ Below n w w'
theorem map_end {l : List Spn} {n : Nat} {w : World} {e : Ending} {w' : World} (h : UnionEnd l ⟨-62135596800, 253402300800⟩ n w e w') : MapEnd l n w e w' := by
  obtain ⟨out, u, h1, h2, ⟨h3, h4, h5⟩ | ⟨_, h4⟩⟩ := h
  · exact ⟨0, out, u, h4, .inr ⟨rfl, h3, h1, rd_of_own encN_len h5 rfl⟩, h2⟩
  · exact ⟨5, out, .slice none 0 0, h4, .inl rfl, h2⟩
set_option maxRecDepth 100000 in
set_option maxHeartbeats 16000000 in
theorem law_LocalParts (z : Zn) (vT vR : Value) (vL : Value) (l : List Spn) (vA : Value) (xs : List Int) (w : World) (hT : Rd Trn.cells 4 w vT z.table) (hR : Rd Rule.cells 11 w vR z.tail) (hL : Rd encN 2 w vL l) (hA : Rd encJ 1 w vA xs) (hm : HasMax w) :
    Calls Tryz.prog 9 #[z.v vT vR, vL, vA] w fun e w' => e = .returned (.bool true) ∧ Below w.heap.size w w' := by
  have HA := Lib.hid (fun W (hb : Below w.heap.size w W) => awake23_any W (hm.on hb))
  have HF := Lib.hid (fun W (hb : Below w.heap.size w W) => few_any z vT vR W (hT.on hb) (hR.on hb))
  have HV := Lib.hid (fun hfs hll W (hb : Below w.heap.size w W) => Valid_zone z vT vR W (hm.on hb) (hT.on hb) (hR.on hb) hfs (.inl hll))
  have HMP := Lib.hid (fun hfs hll htl hv K v (hK : ∀ s ∈ K, mSpn s) (hKl : K.length ≤ 1000) W (hb : Below w.heap.size w W) (hv2 : Rd encN 2 W v K) => (Map_any z vT vR K v W (hm.on hb) (hT.on hb) (hR.on hb) hfs hll htl hv hK hKl hv2).mono fun _ _ h => map_end h)
  have HOF := Lib.hid (fun hfs hll t W (hb : Below w.heap.size w W) => Of_any z vT vR t W (hm.on hb) (hT.on hb) (hR.on hb) hfs (.inl hll))
  have HRO := Lib.hid (fun h0 hl hok W (hb : Below w.heap.size w W) => Of_runs l vL W h0 hl hok (hL.on hb))
  have HRL := Lib.hid (fun W (hb : Below w.heap.size w W) => hL.on hb)
  have HRX := Lib.hid (fun W (hb : Below w.heap.size w W) => hA.on hb)
  obtain ⟨AT, cT, rfl⟩ := rd_vf hT
  obtain ⟨AR, cR, rfl⟩ := rd_vf hR
  obtain ⟨AL, cL, rfl⟩ := rd_vf hL
  obtain ⟨AX, cX, rfl⟩ := rd_vf hA
  clear hT hR hL hA hm
  have b0 := Blk.new w #[.string z.nm, .int .i64 z.first.off, .int .i64 z.first.sv, .string z.first.nm, .slice AT z.table.length cT, .slice AR z.tail.length cR, .int .i64 z.off, .string z.form, .int .i64 z.year] 27
  have hB1 : Below w.heap.size w (w.alloc (.cells #[.string z.nm, .int .i64 z.first.off, .int .i64 z.first.sv, .string z.first.nm, .slice AT z.table.length cT, .slice AR z.tail.length cR, .int .i64 z.off, .string z.form, .int .i64 z.year] 27)) := (Below.refl _ _).alloc (Nat.le_refl _) _
  unfold MapEnd at HMP
  unfold OfEnd at HRO
  unfold Zn.v at HF HV HMP HOF ⊢
  go_enter Tryz.func9, Tryz.ntmps9
  go_wp2_with fail
  generalize w.alloc (.cells #[.string z.nm, .int .i64 z.first.off, .int .i64 z.first.sv, .string z.first.nm, .slice AT z.table.length cT, .slice AR z.tail.length cR, .int .i64 z.off, .string z.form, .int .i64 z.year] 27) = W at *
  have hw : w.heap.size ≤ W.heap.size := hB1.size
  refine (HA.out W hB1).mono ?_
  rintro e w1 ⟨rfl, hb1⟩
  clear HA
  have KZ := b0.below hb1 b0.lt
  have KL := KZ.lt
  have z0 := KZ.cl 0 _ rfl
  have z1 := KZ.cl 1 _ rfl
  have z2 := KZ.cl 2 _ rfl
  have z3 := KZ.cl 3 _ rfl
  have z4 := KZ.cl 4 _ rfl
  have z5 := KZ.cl 5 _ rfl
  have z6 := KZ.cl 6 _ rfl
  have z7 := KZ.cl 7 _ rfl
  have z8 := KZ.cl 8 _ rfl
  go_wp2_with fail
  refine (HF.out w1 (hB1.trans (hb1.mono hw))).mono ?_
  rintro e w2 ⟨rfl, hb2⟩
  have hb2 := hb1.trans (hb2.mono hb1.size)
  clear HF
  cases hf : z.fewB
  · go_wp2
    go_ret
    exact ⟨rfl, hB1.trans (hb2.mono hw)⟩
  obtain ⟨htl, hll, hfs0⟩ := few_parts hf
  have hfs : z.form.size < 4294967281 := by omega
  have HV := Lib.hid (HV.out hfs hll)
  have HMP := Lib.hid (HMP.out hfs hll htl)
  have HOF := Lib.hid (HOF.out hfs hll)
  clear hf hfs0
  clear KZ KL z0 z1 z2 z3 z4 z5 z6 z7 z8
  have KZ := b0.below hb2 b0.lt
  have KL := KZ.lt
  have z0 := KZ.cl 0 _ rfl
  have z1 := KZ.cl 1 _ rfl
  have z2 := KZ.cl 2 _ rfl
  have z3 := KZ.cl 3 _ rfl
  have z4 := KZ.cl 4 _ rfl
  have z5 := KZ.cl 5 _ rfl
  have z6 := KZ.cl 6 _ rfl
  have z7 := KZ.cl 7 _ rfl
  have z8 := KZ.cl 8 _ rfl
  go_wp2_with fail
  refine (HV.out w2 (hB1.trans (hb2.mono hw))).mono ?_
  rintro e w3 ⟨rfl, hb3⟩
  have hb3 := hb2.trans (hb3.mono hb2.size)
  clear HV
  cases hv : z.valid
  · go_wp2
    go_ret
    exact ⟨rfl, hB1.trans (hb3.mono hw)⟩
  have HMP := Lib.hid (HMP.out hv)
  by_cases h1 : l.length < 1
  · have d1 : decide ((l.length : Int) < 1) = true := decide_eq_true (by omega)
    go_wp2
    go_ret
    exact ⟨rfl, hB1.trans (hb3.mono hw)⟩
  have d1 : decide ((l.length : Int) < 1) = false := decide_eq_false (by omega)
  by_cases h8 : 8 < l.length
  · have d2 : decide ((8 : Int) < (l.length : Int)) = true := decide_eq_true (by omega)
    go_wp2
    go_ret
    exact ⟨rfl, hB1.trans (hb3.mono hw)⟩
  have d2 : decide ((8 : Int) < (l.length : Int)) = false := decide_eq_false (by omega)
  by_cases h20 : 20 < xs.length
  · have d3 : decide ((20 : Int) < (xs.length : Int)) = true := decide_eq_true (by omega)
    go_wp2
    go_ret
    exact ⟨rfl, hB1.trans (hb3.mono hw)⟩
  have d3 : decide ((20 : Int) < (xs.length : Int)) = false := decide_eq_false (by omega)
  obtain ⟨gL, oL, rfl, hgL, hcL⟩ : ∃ g o, AL = some ⟨g, o, none⟩ ∧ g < w3.heap.size ∧ ∀ k, k < l.length → w3.cell? ⟨g, o + k * 2, none⟩ = some (.int .i64 (l[k]!).fr) ∧ w3.cell? ⟨g, o + k * 2 + 1, none⟩ = some (.int .i64 (l[k]!).to) := by
    obtain ⟨_, hR0 | ⟨g, o, hA, hg, hc⟩⟩ := rd_at (HRL.out w3 (hB1.trans (hb3.mono hw)))
    · rw [hR0] at h1; exact absurd (by simp) h1
    · exact ⟨g, o, hA, hg, hc⟩
  have HCL := Lib.hid hcL
  have e0 := (hcL 0 (by omega)).1
  have e1 := (hcL 0 (by omega)).2
  rw [Nat.zero_mul, Nat.add_zero] at e0 e1
  have HH0 := Lib.hid (hull_start l)
  obtain ⟨f0, hf0⟩ : ∃ f0, (l[0]!).fr = f0 := ⟨_, rfl⟩
  obtain ⟨t0, ht0⟩ : ∃ t0, (l[0]!).to = t0 := ⟨_, rfl⟩
  rw [hf0] at e0 HH0
  rw [ht0] at e1 HH0
  have hl1 : (0 : Int) < (l.length : Int) := by omega
  have bq := Blk.new w3 #[.int .i64 f0, .int .i64 t0] 34
  have hb3q : Below w3.heap.size w3 (w3.alloc (.cells #[.int .i64 f0, .int .i64 t0] 34)) := (Below.refl _ _).alloc (Nat.le_refl _) _
  clear hcL hf0 ht0
  clear KZ KL z0 z1 z2 z3 z4 z5 z6 z7 z8
  go_wp2
  obtain ⟨q, hq⟩ : ∃ q, w3.heap.size = q := ⟨_, rfl⟩
  rw [hq]
  have hqW : W.heap.size ≤ q := by rw [← hq]; exact hb3.size
  have bq : Blk (w3.alloc (.cells #[.int .i64 f0, .int .i64 t0] 34)) q #[.int .i64 f0, .int .i64 t0] 34 := by rw [← hq]; exact bq
  have hg3 : gL < q := by rw [← hq]; exact hgL
  have HB3 := Lib.hid (show ∀ wr, Below q w3 wr → Below W.heap.size W wr from fun wr h => hb3.trans (by rw [← hq] at h; exact h.mono hb3.size))
  have hb3q : Below q w3 (w3.alloc (.cells #[.int .i64 f0, .int .i64 t0] 34)) := by rw [← hq]; exact hb3q
  have HQ3 := Lib.hid (show q ≤ w3.heap.size from Nat.le_of_eq hq.symm)
  clear hq
  go_loopw [59] (fun v59 wr => ∃ (k : Nat) (f t : Int), k ≤ l.length ∧ v59 = .int .i64 k ∧ HullI l k f t ∧ Blk wr q #[.int .i64 f, .int .i64 t] 34 ∧ Below q w3 wr) (fun v59 _ => l.length - (intOf v59).toNat)
  case atStart => exact ⟨0, f0, t0, Nat.zero_le _, rfl, HH0.out, bq, hb3q⟩
  case round =>
    obtain ⟨k, f, t, hk, rfl, hHI, bqr, hbr⟩ := hrel
    have HHI := Lib.hid hHI
    have hqr := bqr.lt
    clear hHI
    by_cases hlt : k < l.length
    · have g0 := (hbr.cell (p := ⟨gL, oL + k * 2, none⟩) hg3).trans (HCL.out k hlt).1
      have g1 := (hbr.cell (p := ⟨gL, oL + k * 2 + 1, none⟩) hg3).trans (HCL.out k hlt).2
      have HST := Lib.hid (fun hs => hull_step HHI.out hlt hs)
      obtain ⟨s, hs⟩ : ∃ s, l[k]! = s := ⟨_, rfl⟩
      rw [hs] at g0 g1 HST
      clear hs
      have HSP := Lib.hid (fun W => refSpan_lp s.fr s.to W)
      have bs := Blk.new wr #[.int .i64 s.fr, .int .i64 s.to] 34
      have bqA := bqr.alloc (.cells #[.int .i64 s.fr, .int .i64 s.to] 34)
      have hBA : Below q w3 (wr.alloc (.cells #[.int .i64 s.fr, .int .i64 s.to] 34)) := hbr.alloc (Nat.le_of_lt hqr) _
      have hne : wr.heap.size ≠ q := by omega
      generalize hWA : wr.alloc (.cells #[.int .i64 s.fr, .int .i64 s.to] 34) = WA at *
      have s0 := bs.cl 0 _ rfl
      have s1 := bs.cl 1 _ rfl
      cases hts : tSB s.fr s.to
      · rw [hts] at HSP
        clear hts
        go_wp2_with fail
        refine (HSP.out _).mono ?_
        rintro e w5 ⟨rfl, hb5⟩
        have hB5 := hBA.trans (hb5.mono (by have := bqA.lt; omega))
        go_wp2
        go_ret
        exact ⟨rfl, hB1.trans ((HB3.out _ hB5).mono hw)⟩
      · rw [hts] at HSP
        have hts2 : tSpn s := by unfold tSB at hts; unfold tSpn; simpa using hts
        have HNX := Lib.hid (HST.out hts2)
        clear hts hts2
        go_wp2_with fail
        refine (HSP.out _).mono ?_
        rintro e w5 ⟨rfl, hb5⟩
        have hB5 := hBA.trans (hb5.mono (by have := bqA.lt; omega))
        have bs5 := bs.below hb5 bs.lt
        have bq5 := bqA.below hb5 bqA.lt
        have hqf := bqA.lt
        clear s0 s1 hWA bs bqA
        have s0 := bs5.cl 0 _ rfl
        have s1 := bs5.cl 1 _ rfl
        have q0 := bq5.cl 0 _ rfl
        have q1 := bq5.cl 1 _ rfl
        have qf0 := bq5.frozen 0
        have qf1 := bq5.frozen 1
        go_wp2_with fail
        go_region
        have bq9 : Blk (((w5.setCell ⟨q, 0, none⟩ (.int .i64 (min f s.fr))).setCell ⟨q, 1, none⟩ (.int .i64 (max t s.to))).drew) q #[.int .i64 (min f s.fr), .int .i64 (max t s.to)] 34 := by exact bq5.set2 (.int .i64 (min f s.fr)) (.int .i64 (max t s.to))
        have hB9 : Below q w3 (((w5.setCell ⟨q, 0, none⟩ (.int .i64 (min f s.fr))).setCell ⟨q, 1, none⟩ (.int .i64 (max t s.to))).drew) := ((hB5.setCell (p := ⟨q, 0, none⟩) (Nat.le_refl _) _).setCell (p := ⟨q, 1, none⟩) (Nat.le_refl _) _).drew
        go_wp2
        go_roundw
        case rel => exact ⟨k + 1, min f s.fr, max t s.to, by omega, by go_num, HNX.out, bq9, hB9⟩
        case measure => simp [intOf]; omega
    · obtain rfl : k = l.length := by omega
      obtain ⟨m1, m2, m3⟩ := HHI.out.b (by omega)
      have HAL := Lib.hid (fun s (hs : s ∈ l) => HHI.out.a s (by rw [List.take_length]; exact hs))
      have hbR := HB3.out _ hbr
      have q0 := bqr.cl 0 _ rfl
      have q1 := bqr.cl 1 _ rfl
      clear HCL HH0 HHI hbr
      have pq0 : ∀ p : Bel wr.heap.size wr, p.w1.cell? ⟨q, 0, none⟩ = some (.int .i64 f) := fun p => (bel_cell p _ _ hqr).trans q0
      have pq1 : ∀ p : Bel wr.heap.size wr, p.w1.cell? ⟨q, 1, none⟩ = some (.int .i64 t) := fun p => (bel_cell p _ _ hqr).trans q1
      have hwd : wrap64 (t - f) = t - f := by unfold wrap64; omega
      by_cases hd : 315569520 < t - f
      · have dd : decide (315569520 < t - f) = true := decide_eq_true hd
        go_wp2_with fail
        refine wp_region_bel (by kernel_rfl) (by kernel_rfl) ?_
        repeat (go_big_quiet_step ((go_at_call 30; exact bel_of (Nat.le_refl _) (years10_any _))))
        refine wpQuiet_nil ?_
        intro w5 hw'
        obtain ⟨⟨w5', hb5⟩, hw2⟩ := hw'
        subst hw2
        have hB5 := hbR.trans (hb5.mono hbR.size)
        clear pq0 pq1 q0 q1
        go_wp2
        go_ret
        exact ⟨rfl, hB1.trans (hB5.mono hw)⟩
      · have dd : decide (315569520 < t - f) = false := decide_eq_false hd
        go_wp2_with fail
        refine wp_region_bel (by kernel_rfl) (by kernel_rfl) ?_
        repeat (go_big_quiet_step ((go_at_call 30; exact bel_of (Nat.le_refl _) (years10_any _))))
        refine wpQuiet_nil ?_
        intro w5 hw'
        obtain ⟨⟨w5', hb5⟩, hw2⟩ := hw'
        subst hw2
        have hB5 := hbR.trans (hb5.mono hbR.size)
        clear pq0 pq1 q0 q1
        have bq5 := bqr.below hb5 hqr
        clear hwd dd bqr
        go_wp2_with fail
        refine (HRO.out (by omega) (by omega) (fun s hs => tSpn_ok (HAL.out s hs).1) w5 (hB1.trans (hB5.mono hw))).mono ?_
        rintro e w6 ⟨set, uS, cS, mS, oS, lS, rfl, ownS, hb6⟩
        have HRS := Lib.hid (rd_of_own encN_len ownS rfl)
        have hvS : validR set = true := by
          unfold validR
          rw [Bool.and_eq_true, decide_eq_true_eq]
          exact ⟨by omega, canon_runsB cS oS⟩
        have HVS := Lib.hid hvS
        have HMS := Lib.hid mS
        have hB6 := hB5.trans (hb6.mono hB5.size)
        have bq6 := bq5.below hb6 bq5.lt
        have hmh : mSpn ⟨f, t⟩ := ⟨⟨m1, m2, m3⟩, by dsimp only; omega⟩
        have HMH := Lib.hid hmh
        have HNT := Lib.hid (Not_runs set ⟨f, t⟩ uS w6 hvS (tSpn_ok hmh.1) HRS.out)
        unfold CombEnd at HNT
        have q0 := bq6.cl 0 _ rfl
        have q1 := bq6.cl 1 _ rfl
        clear hvS mS oS ownS hmh bq5 HRO
        go_wp2_with fail
        refine HNT.out.mono ?_
        rintro e w7 ⟨rest, uR, hN1, hb7, hN⟩
        have hrl := hN1.l
        rw [List.length_singleton] at hrl
        obtain ⟨rfl, ownR⟩ : e = .returned (.tuple #[uR, .int .i64 0]) ∧ w7.ownsRow w6.heap.size 34 2 uR rest.length (rest.flatMap encN) := by
          rcases hN with ⟨_, h1, h2⟩ | ⟨h1, _⟩
          · exact ⟨h1, h2⟩
          · omega
        have HRT := Lib.hid (rest_has hN1 cS)
        have HMR := Lib.hid (rest_in HMH.out hN1.c.c HRT.out)
        have HRR := Lib.hid (rd_of_own encN_len ownR rfl)
        have hB7 := hB6.trans (hb7.mono hB6.size)
        have bq7 := bq6.below hb7 bq6.lt
        have HRS := Lib.hid (HRS.out.on hb7)
        have hrl2 : rest.length ≤ 1000 := by omega
        clear hN hN1 cS ownR HNT bq6 q0 q1 hb5 hb6 hb7 hrl
        have KZ := b0.below hB7 b0.lt
        have KL := KZ.lt
        have z0 := KZ.cl 0 _ rfl
        have z1 := KZ.cl 1 _ rfl
        have z2 := KZ.cl 2 _ rfl
        have z3 := KZ.cl 3 _ rfl
        have z4 := KZ.cl 4 _ rfl
        have z5 := KZ.cl 5 _ rfl
        have z6 := KZ.cl 6 _ rfl
        have z7 := KZ.cl 7 _ rfl
        have z8 := KZ.cl 8 _ rfl
        go_wp2_with fail
        refine (HMP.out l _ (fun s hs => ⟨(HAL.out s hs).1, by have := HAL.out s hs; omega⟩) (by omega) w7 (hB1.trans (hB7.mono hw)) (HRL.out w7 (hB1.trans (hB7.mono hw)))).mono ?_
        rintro e w8 ⟨eA, A, uA, rfl, hA, hb8⟩
        have hB8 := hB7.trans (hb8.mono hB7.size)
        clear KZ KL z0 z1 z2 z3 z4 z5 z6 z7 z8
        have KZ := b0.below hB8 b0.lt
        have KL := KZ.lt
        have z0 := KZ.cl 0 _ rfl
        have z1 := KZ.cl 1 _ rfl
        have z2 := KZ.cl 2 _ rfl
        have z3 := KZ.cl 3 _ rfl
        have z4 := KZ.cl 4 _ rfl
        have z5 := KZ.cl 5 _ rfl
        have z6 := KZ.cl 6 _ rfl
        have z7 := KZ.cl 7 _ rfl
        have z8 := KZ.cl 8 _ rfl
        have HHA := Lib.hid hA
        have HRR := Lib.hid (HRR.out.on hb8)
        have HRS := Lib.hid (HRS.out.on hb8)
        have bq8 := bq7.below hb8 bq7.lt
        clear hA bq7
        go_wp2_with fail
        refine (HMP.out rest _ HMR.out hrl2 w8 (hB1.trans (hB8.mono hw)) HRR.out).mono ?_
        rintro e w9 ⟨eB, B, uB, rfl, hB, hb9⟩
        have HHB := Lib.hid hB
        have hB9 := hB8.trans (hb9.mono hB8.size)
        have bq9 := bq8.below hb9 bq8.lt
        have q0 := bq9.cl 0 _ rfl
        have q1 := bq9.cl 1 _ rfl
        have HRS := Lib.hid (HRS.out.on hb9)
        have hR1 : Rd encN 2 (w9.alloc (.cells #[.int .i64 f, .int .i64 t] 34)) (.slice (some ⟨w9.heap.size, 0, none⟩) 1 1) [⟨f, t⟩] := rd_of_own encN_len (World.ownsRow_lit (base := w9.heap.size) w9 #[.int .i64 f, .int .i64 t] 1 (Nat.le_refl _) (by decide) rfl) rfl
        have HR1 := Lib.hid hR1
        have hBa : Below W.heap.size W (w9.alloc (.cells #[.int .i64 f, .int .i64 t] 34)) := hB9.alloc hB9.size _
        have hba : Below w9.heap.size w9 (w9.alloc (.cells #[.int .i64 f, .int .i64 t] 34)) := alloc_below' _ _
        clear hB hR1 bq8
        clear KZ KL z0 z1 z2 z3 z4 z5 z6 z7 z8
        have KZ := b0.below hB9 b0.lt
        have KL := KZ.lt
        have z0 := KZ.cl 0 _ rfl
        have z1 := KZ.cl 1 _ rfl
        have z2 := KZ.cl 2 _ rfl
        have z3 := KZ.cl 3 _ rfl
        have z4 := KZ.cl 4 _ rfl
        have z5 := KZ.cl 5 _ rfl
        have z6 := KZ.cl 6 _ rfl
        have z7 := KZ.cl 7 _ rfl
        have z8 := KZ.cl 8 _ rfl
        go_wp2_with fail
        refine (HMP.out [⟨f, t⟩] _ (fun s hs => by rw [List.mem_singleton.1 hs]; exact HMH.out) (by simp) _ (hB1.trans (hBa.mono hw)) HR1.out).mono ?_
        rintro e w10 ⟨eC, C, uC, rfl, hC, hb10⟩
        have HHC := Lib.hid hC
        have hb910 := hba.trans (hb10.mono hba.size)
        have hB10 := hB9.trans (hb910.mono hB9.size)
        have bq10 := bq9.below hb910 bq9.lt
        have HRS := Lib.hid (HRS.out.on hb910)
        clear hC bq9 q0 q1 HR1
        clear KZ KL z0 z1 z2 z3 z4 z5 z6 z7 z8
        by_cases a5 : eA = 5
        · subst a5
          clear HHA HHB HHC HMP
          go_wp2
          go_ret
          exact ⟨rfl, hB1.trans (hB10.mono hw)⟩
        obtain ⟨rfl, hA2, hA3, hA4⟩ := HHA.out.resolve_left a5
        by_cases b5 : eB = 5
        · subst b5
          clear HHA HHB HHC HMP hA2 hA3 hA4
          go_wp2
          go_ret
          exact ⟨rfl, hB1.trans (hB10.mono hw)⟩
        obtain ⟨rfl, hB2, hB3, hB4⟩ := HHB.out.resolve_left b5
        by_cases c5 : eC = 5
        · subst c5
          clear HHA HHB HHC HMP hA2 hA3 hA4 hB2 hB3 hB4
          go_wp2
          go_ret
          exact ⟨rfl, hB1.trans (hB10.mono hw)⟩
        obtain ⟨rfl, hC2, hC3, hC4⟩ := HHC.out.resolve_left c5
        have hvA := union_validR hA3 hA2
        have hvB := union_validR hB3 hB2
        have hvC := union_validR hC3 hC2
        have HRA := Lib.hid ((hA4.on hb9).on hb910)
        have HRB := Lib.hid (hB4.on hb910)
        have HRC := Lib.hid hC4
        have HPU := Lib.hid (fun both hc hm => parts_union (both := both) hv (fun s hs => (HAL.out s hs).1) (fun s hs => (HMR.out s hs).1) HMH.out.1 (fun s hs => (HAL.out s hs).2) HMS.out HRT.out hA3 hB3 hC3 hc hm)
        have HPM := Lib.hid (fun com hc hm => parts_meet (common := com) hv (fun s hs => (HAL.out s hs).1) (fun s hs => (HMR.out s hs).1) HMS.out HRT.out hA3 hB3 hc hm)
        have HPT := Lib.hid (fun tt h => of_point (t := tt) hv (fun s hs => (HAL.out s hs).1) HMS.out HVS.out hA3 hvA h)
        have HU := Lib.hid (Union_runs A B uA uB w10 hvA hvB HRA.out HRB.out)
        have HM := Lib.hid (fun W hb => Meet_runs A B uA uB W hvA hvB (HRA.out.on hb) (HRB.out.on hb))
        have HVC := Lib.hid hvC
        unfold CombEnd at HU HM
        clear a5 b5 c5 hA2 hA3 hA4 hB2 hB3 hB4 hC2 hC3 hC4 HHA HHB HHC hvA hvB hvC hv HMP HRR HRL
        go_wp2_with fail
        refine HU.out.mono ?_
        rintro e w11 ⟨both, uU, hU1, hb11, hU⟩
        have hB11 := hB10.trans (hb11.mono hB10.size)
        have bq11 := bq10.below hb11 bq10.lt
        have HM := Lib.hid (HM.out w11 hb11)
        rcases hU with ⟨hU3, rfl, ownU⟩ | ⟨hU3, rfl⟩
        · have HRU := Lib.hid (rd_of_own encN_len ownU rfl)
          have hboth : both = C := HPU.out both hU1.c.c (rul_or hU1)
          have HBO := Lib.hid hboth
          clear ownU hboth hU1 hU3 HPU
          go_wp2_with fail
          refine HM.out.mono ?_
          rintro e w12 ⟨com, uM, hM1, hb12, hMm⟩
          have hcom : com = [] := HPM.out com hM1.c.c (rul_and hM1)
          subst hcom
          obtain ⟨rfl, ownM⟩ : e = .returned (.tuple #[uM, .int .i64 0]) ∧ w12.ownsRow w11.heap.size 34 2 uM ([] : List Spn).length (([] : List Spn).flatMap encN) := by
            rcases hMm with ⟨_, h1, h2⟩ | ⟨h1, _⟩
            · exact ⟨h1, h2⟩
            · simp at h1
          obtain ⟨AM, cM, rfl⟩ := own_formN ownM
          have hB12 := hB11.trans (hb12.mono hB11.size)
          have bq12 := bq11.below hb12 bq11.lt
          have HRU2 := Lib.hid (show Rd encN 2 w12 uU C from by rw [← HBO.out]; exact HRU.out.on hb12)
          have HEQ := Lib.hid (Equal_runs C uU uC w12 HVC.out HRU2.out ((HRC.out.on hb11).on hb12))
          have HRA := Lib.hid ((HRA.out.on hb11).on hb12)
          have HRS := Lib.hid (((HRS.out).on hb11).on hb12)
          clear hMm hM1 ownM HM HPM HU bq11 bq10
          go_wp2_with fail
          refine HEQ.out.mono ?_
          rintro e w13 ⟨rfl, hb13⟩
          have hB13 := hB12.trans (hb13.mono hB12.size)
          have bq13 := bq12.below hb13 bq12.lt
          have HRA := Lib.hid (HRA.out.on hb13)
          have HRS := Lib.hid (HRS.out.on hb13)
          clear HEQ bq12
          go_wp2
          go_loopw [179] (fun v179 wv => ∃ k : Nat, k ≤ xs.length ∧ v179 = .int .i64 k ∧ Below w13.heap.size w13 wv) (fun v179 _ => xs.length - (intOf v179).toNat)
          case atStart => exact ⟨0, Nat.zero_le _, rfl, Below.refl _ _⟩
          case round =>
            obtain ⟨k, hk, rfl, hbx⟩ := hrel
            have hBX := hB13.trans (hbx.mono hB13.size)
            by_cases hlt : k < xs.length
            · obtain ⟨gX, oX, rfl, hgX, hcX⟩ : ∃ g o, AX = some ⟨g, o, none⟩ ∧ g < wr.heap.size ∧ ∀ k, k < xs.length → wr.cell? ⟨g, o + k, none⟩ = some (.int .i32 xs[k]!) := by
                obtain ⟨_, hP0 | ⟨g, o, h1, h2, h3⟩⟩ := rd_atJ (HRX.out wr (hB1.trans (hBX.mono hw)))
                · rw [hP0] at hlt; exact absurd hlt (Nat.not_lt_zero _)
                · exact ⟨g, o, h1, h2, h3⟩
              have ek := hcX k hlt
              obtain ⟨d, hd2⟩ : ∃ d, xs[k]! = d := ⟨_, rfl⟩
              rw [hd2] at ek
              clear hcX hd2
              have bqx := bq13.below hbx bq13.lt
              have q0 := bqx.cl 0 _ rfl
              have KZ := b0.below hBX b0.lt
              have KL := KZ.lt
              have z0 := KZ.cl 0 _ rfl
              have z1 := KZ.cl 1 _ rfl
              have z2 := KZ.cl 2 _ rfl
              have z3 := KZ.cl 3 _ rfl
              have z4 := KZ.cl 4 _ rfl
              have z5 := KZ.cl 5 _ rfl
              have z6 := KZ.cl 6 _ rfl
              have z7 := KZ.cl 7 _ rfl
              have z8 := KZ.cl 8 _ rfl
              obtain ⟨tt, htt⟩ : ∃ tt, wrap64 (f + wrap64 d) = tt := ⟨_, rfl⟩
              have HOt := Lib.hid (HOF.out tt wr (hB1.trans (hBX.mono hw)))
              have HPt := Lib.hid (HPT.out tt)
              have HAt := Lib.hid (fun W' (hb : Below wr.heap.size wr W') => Has_any A tt uA W' ((HRA.out.on hbx).on hb))
              have HSt := Lib.hid (fun x W' (hb : Below wr.heap.size wr W') => Has_any set x uS W' ((HRS.out.on hbx).on hb))
              obtain ⟨x, hx⟩ : ∃ x, (z.ofV tt).1 = x := ⟨_, rfl⟩
              obtain ⟨m, hm9⟩ : ∃ m, (z.ofV tt).2 = m := ⟨_, rfl⟩
              rw [hx, hm9] at HOt HPt
              clear hx hm9
              by_cases hm0 : m = 0
              · subst hm0
                have hhe := HPt.out rfl
                have HSx := Lib.hid (HSt.out x)
                generalize hasB A tt = hb1 at *
                rw [← hhe] at HSx
                clear hhe HPt HSt HPT
                go_wp2_with fail
                refine HOt.out.mono ?_
                rintro e w14 ⟨rfl, hb14⟩
                go_wp2_with fail
                refine (HAt.out w14 hb14).mono ?_
                rintro e w15 ⟨rfl, hb15⟩
                have hb15 := hb14.trans (hb15.mono hb14.size)
                go_wp2_with fail
                refine (HSx.out w15 hb15).mono ?_
                rintro e w16 ⟨rfl, hb16⟩
                have hb16 := hb15.trans (hb16.mono hb15.size)
                cases hb1
                all_goals
                  go_wp2
                  go_roundw
                  case rel => exact ⟨k + 1, by omega, by go_num, hbx.trans (hb16.mono hbx.size)⟩
                  case measure => simp [intOf]; omega
              · have dm : (m == 0) = false := beq_eq_false_iff_ne.2 hm0
                clear HPt HSt HAt HPT hm0
                go_wp2_with fail
                refine HOt.out.mono ?_
                rintro e w14 ⟨rfl, hb14⟩
                go_wp2
                go_roundw
                case rel => exact ⟨k + 1, by omega, by go_num, hbx.trans (hb14.mono hbx.size)⟩
                case measure => simp [intOf]; omega
            · go_wp2
              go_ret
              exact ⟨rfl, hB1.trans (hBX.mono hw)⟩
        · clear HPU HPM HPT
          go_wp2_with fail
          refine HM.out.mono ?_
          rintro e w12 ⟨com, uM, hM1, hb12, hMm⟩
          have hB12 := hB11.trans (hb12.mono hB11.size)
          rcases hMm with ⟨_, rfl, _⟩ | ⟨_, rfl⟩
          all_goals
            go_wp2
            go_ret
            exact ⟨rfl, hB1.trans (hB12.mono hw)⟩

end Go.Proofs.YtdpkolnfbimheaaGreat

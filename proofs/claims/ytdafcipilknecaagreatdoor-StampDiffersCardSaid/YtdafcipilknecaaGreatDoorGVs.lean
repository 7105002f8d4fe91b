/- Joined by merge.py: SpW, RunsOf, VerW4. -/
import Derived.Test.YtdafcipilknecaaGreatDoorGUn
import Derived.BigQuiet
import Derived.Test.YtdafcipilknecaaGreatDoorGVw
import Derived.Test.YtdafcipilknecaaGreatDoorGVp
/- Lists of spans: ContainsFunc, Clone, Equal; the small functions on spans. -/
namespace Go.Proofs.YtdafcipilknecaaGreatDoor
set_option linter.unusedSimpArgs false
set_option linter.unusedVariables false
open Go.ChangeShapes Go.WideShapes Go.ChangeAt Go.RowKit Go.Sort Go.Lib
theorem noneS_if (A : Option Addr) (c : Nat) (g : Value) (w : World) : Calls Tryz.prog 129 #[.slice A 0 c, g] w fun e w' => e = .returned (.int .i64 (-1)) ∧ w = w' := by
 go_enter Tryz.func129, Tryz.ntmps129
 go_wp2
 go_loop [8] (fun i => i = .int .i64 0) (fun _ => 0)
 case atStart => rfl
 case round =>
  obtain rfl := hrel
  go_wp2
  go_ret
  exact ⟨rfl, rfl⟩
theorem noneS_cf (A : Option Addr) (c : Nat) (g : Value) (w : World) : Calls Tryz.prog 90 #[.slice A 0 c, g] w fun e w' => e = .returned (.bool false) ∧ w = w' := by
 go_enter Tryz.func90, Tryz.ntmps90
 go_wp2_with (go_at_call 129; refine (noneS_if _ _ _ _).mono ?_; rintro e w' ⟨rfl, rfl⟩)
 go_ret
 exact ⟨rfl, rfl⟩
theorem of1_any (s : Spn) (w : World) (hs : s.ok = true) : Calls Tryz.prog 91 #[.agg (encN s).toArray] w fun e w' => e = .returned (.bool false) ∧ Below w.heap.size w w' := by
 have HI := Lib.hid (fun W => iv_any s.fr s.to W)
 rw [iv_ok s, hs] at HI
 have hB : Below w.heap.size w (w.alloc (.cells #[.int .i64 s.fr, .int .i64 s.to] 35)) := (Below.refl _ _).alloc (Nat.le_refl _) _
 clear hs
 unfold encN
 go_enter Tryz.func91, Tryz.ntmps91
 go_wp2_with fail
 refine (HI.out _).mono ?_
 rintro e w1 ⟨rfl, hb1⟩
 go_wp2
 go_ret
 exact ⟨rfl, hB.trans (hb1.mono hB.size)⟩
theorem cfS_no (g : Nat) (eg : ∀ args w, (callFunc g args).run Tryz.prog w = .ok (.enter g args) w) (v : Value) (l : List Spn) (w : World) (P : Spn → Prop) (hP : ∀ s ∈ l, P s) (d : Spn) (hd : P d) (hp : ∀ (W : World) (s : Spn), P s → Calls Tryz.prog g #[.agg (encN s).toArray] W fun e w' => e = .returned (.bool false) ∧ Below W.heap.size W w') (hl : l.length ≤ 1000000) (hR : Rd encN 2 w v l) :
  Calls Tryz.prog 90 #[v, .func (.func g) #[] #[]] w fun e w' => e = .returned (.bool false) ∧ Below w.heap.size w w' := by
 rcases hR with ⟨rfl, A, c, rfl⟩ | ⟨b, off, c, rfl, hb, hc⟩
 ·exact (noneS_cf A c _ w).mono fun e w' ⟨h1, h2⟩ => ⟨h1, h2 ▸ Below.refl _ _⟩
 ·-- the elements, as values of a type that holds the property
  let T := { s : Spn // P s }
  have : Inhabited T := ⟨⟨d, hd⟩⟩
  let L : List T := l.attach.map fun s => ⟨s.1, hP s.1 s.2⟩
  have hLl : L.length = l.length := by simp [L]
  have hLv : ∀ j, j < l.length → (L[j]!).1 = l[j]! := fun j hj => by
   rw [getElem!_pos L j (by rw [hLl]; exact hj), getElem!_pos l j hj]
   simp [L]
  have h := Tryz.slices_ContainsFunc_f90 (α := T) 2 isAggS sizeOfS (fun s => encN s.1) (fun s => encN_len s.1) (fun _ => false) g #[] eg b off l.length c L w (fun W x hb => (hp W x.1 x.2).mono fun e w' ⟨h1, h2⟩ => ⟨h1, (hb.trans (h2.mono hb.size))⟩) (Nat.le_of_eq hLl.symm) (by omega) hb (fun j hj i v hv => hc j (by rwa [hLl] at hj) i v (by rw [← hLv j (by rwa [hLl] at hj)]; exact hv))
  have e : ((L.take l.length).any fun _ => false) = false := by simp
  rw [e] at h
  exact h
theorem rd_flatS {l : List Spn} {w : World} {b off : Nat} (hc : ∀ j, j < l.length → ∀ i u, (encN l[j]!)[i]? = some u → w.cell? ⟨b, off + j * 2 + i, none⟩ = some u) : ∀ j u, (l.flatMap encN)[j]? = some u → w.cell? ⟨b, off + j, none⟩ = some u := fun j u hu => by
 have hj : j < l.length * 2 := by rw [← flat_len encN_len l]; exact (List.getElem?_eq_some_iff.1 hu).1
 have := flat_get encN_len l (j / 2) (j % 2) (by omega) (by omega)
 rw [show j / 2 * 2 + j % 2 = j by omega, hu] at this
 have e := hc (j / 2) (by omega) (j % 2) u (by rw [List.getElem?_eq_getElem (by rw [encN_len]; omega)]; rw [getElem!_pos _ (j % 2) (by rw [encN_len]; omega)] at this; exact this.symm)
 rwa [show off + j / 2 * 2 + j % 2 = off + j by omega] at e
theorem flat_oneS (l : List Spn) : ∀ u ∈ l.flatMap encN, u.oneCell' = true := fun u hu => by
 obtain ⟨x, _, hx⟩ := List.mem_flatMap.1 hu
 exact encN_one x u hx
theorem clone_S (v : Value) (l : List Spn) (w : World) (h0 : 0 < l.length) (hl : l.length ≤ 1000000) (hR : Rd encN 2 w v l) : Calls Tryz.prog 93 #[v] w fun e w' => ∃ v', e = .returned v' ∧ w'.ownsRow w.heap.size 35 2 v' l.length (l.flatMap encN) ∧ v' ≠ .slice none 0 0 ∧ Below w.heap.size w w' := by
 obtain ⟨i0, hi0, hz0, hz1, hz2⟩ := info_parts info_span
 rcases hR with ⟨rfl, A, c, rfl⟩ | ⟨b, off, c, rfl, _, hc⟩
 ·exact absurd h0 (by simp)
 ·exact Tryz.slices_Clone_f93 i0 _ 2 16 hi0 hz0 hz1 hz2 rfl (by decide) sizeOfS b off l.length c (l.flatMap encN) w (flat_len encN_len l) (by unfold maxLen; omega) (by omega) (rd_flatS hc) (flat_oneS l)
theorem ocmp_any (x y : BSpn) (w : World) : Calls Tryz.prog 95 #[.agg (encG x).toArray, .agg (encG y).toArray] w fun e w' => e = .returned (.int .i64 (cmpB x y)) ∧ ∃ q os', w' = Sort.grow (w.drewN q) os' := by
 obtain ⟨⟨a, b⟩, h1, h2⟩ := x
 obtain ⟨⟨c, d⟩, h3, h4⟩ := y
 unfold cmpB encG encN
 have g1 : -4398046511104 ≤ a ∧ a ≤ 4398046511104 := ⟨h1, h2⟩
 have g2 : -4398046511104 ≤ c ∧ c ≤ 4398046511104 := ⟨h3, h4⟩
 have hw : wrap64 (a - c) = a - c := by unfold wrap64; omega
 dsimp only at *
 go_enter Tryz.func95, Tryz.ntmps95
 go_wp2
 go_ret
 exact ⟨rfl, 0, #[.cells #[.int .i64 a, .int .i64 b] 35, .cells #[.int .i64 c, .int .i64 d] 35], by rw [Sort.alloc_eq_grow, Sort.alloc_eq_grow, Sort.grow_grow]; rfl⟩
theorem sortO (l : List BSpn) (g cap : Nat) (w : World) (hH : Sort.HoldsK encG 2 w g 0 l.toArray) (hg : g < w.heap.size) (hl : l.length ≤ 4000000) :
  Calls Tryz.prog 94 #[.slice (some ⟨g, 0, none⟩) l.length cap, .func (.func 95) #[] #[]] w (SortEnd l g cap w) := by
 have h := Tryz.slices_SortFunc_f94 2 isAggS sizeOfS encG encG_len encG_one cmpB swoB 95 #[] g 0 cap l.toArray w (enters_of Tryz.func95 (by kernel_rfl) rfl) (fun _ _ _ _ x y => ocmp_any x y _) hH hg (by simp; omega)
 refine h.mono ?_
 rintro e' w' ⟨rfl, d', n, os, hp, hs, rfl⟩
 obtain ⟨s1, s2, s3⟩ := sort_of hp hs
 refine ⟨rfl, d'.toList, s1, s2, s3, ?_, fun B w0 hb hB hB2 => below_sorted hb hB hB2, fun j hj hl => other_sorted hj hl⟩
 have := rd_sorted (ys := d'.toList) (n := n) (os := os) encG_len hH s1 hg (cap := cap)
 simpa using this
theorem done_any (A : Option Addr) (n c : Nat) (w : World) (h : n ≤ 2000) : Calls Tryz.prog 96 #[.slice A n c] w fun e w' => e = .returned (.tuple #[.slice A n c, .int .i64 0]) ∧ w' = w := by
 have d : decide ((2000 : Int) < (n : Int)) = false := decide_eq_false (by omega)
 go_enter Tryz.func96, Tryz.ntmps96
 go_wp2
 go_ret2
 exact ⟨rfl, rfl⟩
theorem done_full (A : Option Addr) (n c : Nat) (w : World) (h : 2000 < n) : Calls Tryz.prog 96 #[.slice A n c] w fun e w' => e = .returned (.tuple #[.slice none 0 0, .int .i64 5]) ∧ w' = w := by
 have d : decide ((2000 : Int) < (n : Int)) = true := decide_eq_true (by omega)
 go_enter Tryz.func96, Tryz.ntmps96
 go_wp2
 go_ret2
 exact ⟨rfl, rfl⟩
end Go.Proofs.YtdafcipilknecaaGreatDoor
/- runs.Of. -/
namespace Go.Proofs.YtdafcipilknecaaGreatDoor
set_option linter.unusedSimpArgs false
set_option linter.unusedVariables false
open Go.ChangeShapes Go.WideShapes Go.ChangeAt Go.RowKit Go.Sort Go.Lib
def OfEnd2 (l : List Spn) (w : World) (e : Ending) (w' : World) : Prop := ∃ out, Canon out ∧ (∀ x, hasL out x ↔ hasL l x) ∧ (∀ s ∈ out, s.ok = true) ∧ out.length ≤ l.length ∧ Below w.heap.size w w' ∧
 ((out.length ≤ 2000 ∧ ∃ u, e = .returned (.tuple #[u, .int .i64 0]) ∧ w'.ownsRow w.heap.size 35 2 u out.length (out.flatMap encN)) ∨ (2000 < out.length ∧ e = .returned (.tuple #[.slice none 0 0, .int .i64 5])))
theorem canon_ok {out l : List Spn} (hc : Canon out) (hm : ∀ x, hasL out x ↔ hasL l x) (hl : ∀ s ∈ l, s.ok = true) : ∀ s ∈ out, s.ok = true := fun s hs => by
 have hn := hc.ne s hs
 obtain ⟨a, ha, h1⟩ := (hm s.fr).1 ⟨s, hs, Int.le_refl _, hn⟩
 obtain ⟨b, hb, h2⟩ := (hm (s.to - 1)).1 ⟨s, hs, by omega, by omega⟩
 have ga := Spn.ok_iff.1 (hl a ha)
 have gb := Spn.ok_iff.1 (hl b hb)
 unfold Spn.has at h1 h2
 exact Spn.ok_iff.2 ⟨by omega, by omega, hn⟩
set_option maxRecDepth 100000 in
set_option maxHeartbeats 8000000 in
theorem Of_runs2 (l : List Spn) (v : Value) (w : World) (h0 : 0 < l.length) (hl : l.length ≤ 6000) (hok : ∀ s ∈ l, s.ok = true) (hR : Rd encN 2 w v l) : Calls Tryz.prog 58 #[v] w (OfEnd2 l w) := by
 have HCF := Lib.hid (cfS_no 91 (enters_of Tryz.func91 (by kernel_rfl) rfl) v l w (fun s => s.ok = true) hok ⟨0, 1⟩ (by decide) (fun W s hs => of1_any s W hs) (by omega) hR)
 have HCL := Lib.hid (fun W (hb : Below w.heap.size w W) => clone_S v l W h0 (by omega) (hR.on hb))
 have HOKL := Lib.hid hok
 obtain ⟨A, c, rfl⟩ := rd_vf hR
 clear hR hok
 unfold OfEnd2
 go_enter Tryz.func58, Tryz.ntmps58
 go_wp2_with fail
 refine HCF.out.mono ?_
 rintro e w1 ⟨rfl, hb1⟩
 clear HCF
 go_wp2_with fail
 refine (HCL.out w1 hb1).mono ?_
 rintro e w2 ⟨v', rfl, hv2, hne, hb2⟩
 clear HCL
 have hB2 : RowKit.Below w.heap.size w w2 := hb1.trans (hb2.mono hb1.size)
 have hvB : w2.ownsRow w1.heap.size 35 2 v' (toB l HOKL.out).length ((toB l HOKL.out).flatMap encG) := by rw [toB_len, flatG, toB_val]; exact hv2
 obtain ⟨g, cap, rfl, hg1, hg2, hg3, hg4, hH⟩ := holdsK_of_own encG_len hvB rfl hne
 have HS := Lib.hid (sortO (toB l HOKL.out) g cap _ hH hg2 (by rw [toB_len]; omega))
 unfold SortEnd at HS
 have HVAL := Lib.hid (toB_val l HOKL.out)
 rw [toB_len] at HS ⊢
 go_wp2_with fail
 refine HS.out.mono ?_
 rintro e ws ⟨rfl, L, hL1, hL2, hL3, hR, hbl, hot⟩
 have hBs : RowKit.Below w.heap.size w ws := hbl w.heap.size w hB2 (Nat.le_trans hb1.size hg1) hB2.size
 have hRR := rd_val hR
 have hRl : (L.map BSpn.s).length = l.length := by rw [List.length_map]; exact hL1
 have hRA : (L.map BSpn.s).Pairwise (fun s t => s.fr ≤ t.fr) := by rw [List.pairwise_map]; exact hL3
 have hRm : ∀ s, s ∈ L.map BSpn.s ↔ s ∈ l := fun s => by rw [← HVAL.out]; exact (hL2.map BSpn.s).mem_iff
 have HJD := Lib.hid (joined hRA fun s hs => (Spn.ok_iff.1 (HOKL.out s ((hRm s).1 hs))).2.2)
 have HRM := Lib.hid hRm
 have HRR := Lib.hid hRR
 clear HS hL1 hL2 hL3 hR hbl hot hRR hRA hRm HVAL hH hvB hv2 hg2 hne hg1 hg3 hg4 hb1 hb2 hB2
 generalize L.map BSpn.s = R at *
 have hszn := hBs.size
 obtain ⟨i0, hi0, hz0, hz1, hz2⟩ := info_parts info_span
 go_wp2
 go_loopw [5, 17] (fun v5 i wr => ∃ k : Nat, k ≤ R.length ∧ i = .int .i64 k ∧ wr.ownsRow ws.heap.size 35 2 v5 (joinF (R.take k)).length ((joinF (R.take k)).flatMap encN) ∧ RowKit.Below ws.heap.size ws wr) (fun _ i _ => l.length - (intOf i).toNat)
 case atStart => exact ⟨0, Nat.zero_le _, rfl, World.ownsRow_nil _ _ _ _, Below.refl _ _⟩
 case round =>
  obtain ⟨k, hk, rfl, hown, hbr⟩ := hrel
  have hlo : (joinF (R.take k)).length ≤ k := Nat.le_trans (joinF_len _) (List.length_take_le _ _)
  have hszr := hbr.size
  have hkl0 : k ≤ l.length := by omega
  have HRL := Lib.hid hRl
  by_cases hlt2 : k < l.length
  ·have hlt : k < R.length := by omega
   obtain ⟨e0, e1⟩ : wr.cell? ⟨g, k * 2, none⟩ = some (.int .i64 (R[k]!).fr) ∧ wr.cell? ⟨g, k * 2 + 1, none⟩ = some (.int .i64 (R[k]!).to) := by
    obtain ⟨_, hR0 | ⟨g', o', hA, hg', hc⟩⟩ := rd_at (HRR.out.on hbr)
    ·rw [hR0] at hlt; exact absurd hlt (Nat.not_lt_zero _)
    ·injection hA with hA
     injection hA with h1 h2 _
     subst h1
     subst h2
     have := hc k hlt
     rwa [Nat.zero_add] at this
   have HJ := Lib.hid (show joinF (R.take (k + 1)) = addRun (joinF (R.take k)) R[k]! by rw [List.take_succ_eq_append_getElem hlt, joinF_snoc, getElem!_pos R k hlt])
   obtain ⟨x, hx⟩ : ∃ x, R[k]! = x := ⟨_, rfl⟩
   rw [hx] at e0 e1 HJ
   clear hx hRl
   generalize joinF (R.take k) = O at *
   obtain ⟨A6, c6, rfl⟩ := own_formN hown
   have hBA : RowKit.Below ws.heap.size ws (wr.alloc (.cells #[.int .i64 x.fr, .int .i64 x.to] 35)) := hbr.alloc hbr.size _
   have HOA := Lib.hid (own_on hown (alloc_below' wr (.cells #[.int .i64 x.fr, .int .i64 x.to] 35)))
   have bx := Blk.new wr #[.int .i64 x.fr, .int .i64 x.to] 35
   generalize hWA : wr.alloc (.cells #[.int .i64 x.fr, .int .i64 x.to] 35) = WA at *
   have y0 := bx.cl 0 _ rfl
   have y1 := bx.cl 1 _ rfl
   have hszA := hBA.size
   clear hown
   by_cases h0 : O.length = 0
   ·have HADD := Lib.hid (show addRun O x = O ++ [x] by unfold addRun; rw [if_neg (by omega)])
    have dk : ¬ 0 < O.length := by omega
    have dk1 : decide ((0 : Int) < (O.length : Int)) = false := decide_eq_false (by omega)
    clear h0
    go_wp2_with fail
    go_quiet (fail)
    have hd3 : RowKit.Below WA.heap.size WA (WA.drewN nq) := below_drewN (Below.refl _ _) nq
    have hBW := hBA.trans (hd3.mono hBA.size)
    have HO4 := Lib.hid (own_on HOA.out hd3)
    have b3 : Blk (WA.drewN nq) wr.heap.size #[.int .i64 x.fr, .int .i64 x.to] 35 := bx.below hd3 bx.lt
    clear y0 y1 hWA bx
    generalize WA.drewN nq = W4 at *
    have y0 := b3.cl 0 _ rfl
    have y1 := b3.cl 1 _ rfl
    have hszB := hBW.size
    go_wp2_with (at_builtin; go_loud (refine wpList_append_own _ rfl _ _ 59 rfl ws.heap.size 35 i0 _ 2 16 Tryz.underlying59 hi0 hz0 hz1 hz2 rfl (by decide) _ _ _ rfl (HO4.out.alloc _) ⟨_, 0, none⟩ 1 1 (encN x) rfl rfl (new_row_at (by simp) _) (encN_one x) (by simp only [maxLen]; omega) (by omega) (by simp; omega) ?_); intro v' w5 hown5 hg5 _)
    have hB5 : RowKit.Below ws.heap.size ws w5 := below_app HO4.out (Nat.le_refl _) (hBW.alloc hBW.size _) hg5
    go_roundw
    case rel => exact ⟨k + 1, by omega, by go_num, by rw [HJ.out, HADD.out]; exact own_snoc (es := O) (x := x) hown5, hB5⟩
    case measure => simp [intOf]; omega
   ·obtain ⟨q, hq⟩ : ∃ q, O.length = q + 1 := ⟨O.length - 1, by omega⟩
    have dk : 0 < O.length := by omega
    have dk1 : decide ((0 : Int) < (O.length : Int)) = true := decide_eq_true (by omega)
    have hwi : (O.length : Int) - 1 = (q : Int) := by omega
    have hql : q < O.length := by omega
    obtain ⟨g6, hA6⟩ : ∃ g6, A6 = some ⟨g6, 0, none⟩ := by
     rcases HOA.out.2 with ⟨e0, _⟩ | ⟨g', cap', cur, e0, _⟩
     ·injection e0 with _ e1 _; omega
     ·injection e0 with e1 _ _; exact ⟨g', e1⟩
    subst hA6
    have HLT := Lib.hid (fun (W : World) (h : W.ownsRow ws.heap.size 35 2 (.slice (some ⟨g6, 0, none⟩) O.length c6) O.length (O.flatMap encN)) => show W.cell? ⟨g6, q * 2 + 1, none⟩ = some (.int .i64 (O[q]!).to) from (h.cellAt (q * 2 + 1) (by omega)).trans (flat_get encN_len O q 1 hql (by omega)))
    clear h0
    have l1 := HLT.out WA HOA.out
    by_cases hle : x.fr ≤ (O[q]!).to
    ·have HSE := Lib.hid (show addRun O x = O.set q ⟨(O[q]!).fr, max (O[q]!).to x.to⟩ by unfold addRun; rw [show O.length - 1 = q by omega, if_pos ⟨dk, hle⟩])
     have d1 : decide (x.fr ≤ (O[q]!).to) = true := decide_eq_true hle
     have HSF := Lib.hid (set_flat O q (max (O[q]!).to x.to) hql)
     have HSL := Lib.hid (show (O.set q ⟨(O[q]!).fr, max (O[q]!).to x.to⟩).length = O.length from List.length_set)
     generalize hlt3 : (O[q]!).to = lt at *
     go_wp2_with fail
     go_quiet (fail)
     have hd3 : RowKit.Below WA.heap.size WA (WA.drewN nq) := below_drewN (Below.refl _ _) nq
     have hBW := hBA.trans (hd3.mono hBA.size)
     have hO3 := own_on HOA.out hd3
     have b3 : Blk (WA.drewN nq) wr.heap.size #[.int .i64 x.fr, .int .i64 x.to] 35 := bx.below hd3 bx.lt
     clear y0 y1 l1 hWA bx
     generalize WA.drewN nq = W4 at *
     have y0 := b3.cl 0 _ rfl
     have y1 := b3.cl 1 _ rfl
     have l1 : W4.cell? ⟨g6, q * 2 + 1, none⟩ = some (.int .i64 lt) := HLT.out W4 hO3
     have lf := hO3.frozenAt (q * 2 + 1)
     have HO4 := Lib.hid hO3
     clear hO3
     go_wp2
     go_region
     have hst := (HO4.out.stored (q * 2 + 1) (.int .i64 (max lt x.to))).1
     have hfin : (W4.setCell ⟨g6, q * 2 + 1, none⟩ (.int .i64 (max lt x.to))).drew.ownsRow ws.heap.size 35 2 (.slice (some ⟨g6, 0, none⟩) (q + 1) c6) (addRun O x).length ((addRun O x).flatMap encN) := by
      have h5 := own_on hst (Below.refl _ _).drew
      rw [HSE.out, HSL.out, ← HSF.out]
      rw [hq] at h5 ⊢
      exact h5
     have hg6 : ws.heap.size ≤ g6 := by
      rcases HO4.out.2 with ⟨e0, _⟩ | ⟨g', cap', cur, e0, h6, _⟩
      ·cases e0
      ·injection e0 with e1 _ _
       injection e1 with e1
       injection e1 with e1 _ _
       rw [e1]; exact h6
     have hB5 : RowKit.Below ws.heap.size ws (W4.setCell ⟨g6, q * 2 + 1, none⟩ (.int .i64 (max lt x.to))).drew := (hBW.setCell (p := ⟨g6, q * 2 + 1, none⟩) hg6 _).drew
     generalize (W4.setCell ⟨g6, q * 2 + 1, none⟩ (.int .i64 (max lt x.to))).drew = W5 at *
     have HQ := Lib.hid hq
     clear hq hst l1 lf y0 y1 b3
     go_wp2
     go_roundw
     case rel => exact ⟨k + 1, by omega, by go_num, by rw [HJ.out, HQ.out]; exact hfin, hB5⟩
     case measure => simp [intOf]; omega
    ·have HADD := Lib.hid (show addRun O x = O ++ [x] by unfold addRun; rw [show O.length - 1 = q by omega, if_neg (fun h => hle h.2)])
     have d1 : decide (x.fr ≤ (O[q]!).to) = false := decide_eq_false hle
     generalize (O[q]!).to = lt at *
     clear hq
     go_wp2_with fail
     go_quiet (fail)
     have hd3 : RowKit.Below WA.heap.size WA (WA.drewN nq) := below_drewN (Below.refl _ _) nq
     have hBW := hBA.trans (hd3.mono hBA.size)
     have HO4 := Lib.hid (own_on HOA.out hd3)
     have b3 : Blk (WA.drewN nq) wr.heap.size #[.int .i64 x.fr, .int .i64 x.to] 35 := bx.below hd3 bx.lt
     clear y0 y1 l1 hWA bx
     generalize WA.drewN nq = W4 at *
     have y0 := b3.cl 0 _ rfl
     have y1 := b3.cl 1 _ rfl
     have hszB := hBW.size
     go_wp2_with (at_builtin; go_loud (refine wpList_append_own _ rfl _ _ 59 rfl ws.heap.size 35 i0 _ 2 16 Tryz.underlying59 hi0 hz0 hz1 hz2 rfl (by decide) _ _ _ rfl (HO4.out.alloc _) ⟨_, 0, none⟩ 1 1 (encN x) rfl rfl (new_row_at (by simp) _) (encN_one x) (by simp only [maxLen]; omega) (by omega) (by simp; omega) ?_); intro v' w5 hown5 hg5 _)
     have hB5 : RowKit.Below ws.heap.size ws w5 := below_app HO4.out (Nat.le_refl _) (hBW.alloc hBW.size _) hg5
     go_roundw
     case rel => exact ⟨k + 1, by omega, by go_num, by rw [HJ.out, HADD.out]; exact own_snoc (es := O) (x := x) hown5, hB5⟩
     case measure => simp [intOf]; omega
  ·have hkR : R.length ≤ k := by omega
   rw [List.take_of_length_le hkR] at hown hlo
   have HO := Lib.hid hown
   have HCO := Lib.hid (canon_ok HJD.out.c (fun x => (HJD.out.m x).trans ⟨fun ⟨s, hs, h⟩ => ⟨s, (HRM.out s).1 hs, h⟩, fun ⟨s, hs, h⟩ => ⟨s, (HRM.out s).2 hs, h⟩⟩) HOKL.out)
   have hll := hlo
   generalize hO : joinF R = O at *
   obtain ⟨A6, c6, rfl⟩ := own_formN hown
   have hBr : RowKit.Below w.heap.size w wr := hBs.trans (hbr.mono hszn)
   have hol : O.length ≤ l.length := by omega
   have HOF := Lib.hid hO
   have hkk : k = l.length := by omega
   subst hkk
   clear hown hO hkR hRl
   by_cases h2 : O.length ≤ 2000
   ·have HDN := Lib.hid (fun W => done_any A6 O.length c6 W h2)
    go_wp2_with fail
    refine (HDN.out _).mono ?_
    rintro e w9 ⟨rfl, rfl⟩
    go_wp2
    go_ret2
    exact ⟨O, HJD.out.c, fun x => (HJD.out.m x).trans ⟨fun ⟨s, hs, h⟩ => ⟨s, (HRM.out s).1 hs, h⟩, fun ⟨s, hs, h⟩ => ⟨s, (HRM.out s).2 hs, h⟩⟩, HCO.out, hol, hBr, .inl ⟨h2, .slice A6 O.length c6, rfl, own_base HO.out hszn⟩⟩
   ·have HDN := Lib.hid (fun W => done_full A6 O.length c6 W (by omega))
    go_wp2_with fail
    refine (HDN.out _).mono ?_
    rintro e w9 ⟨rfl, rfl⟩
    go_wp2
    go_ret2
    exact ⟨O, HJD.out.c, fun x => (HJD.out.m x).trans ⟨fun ⟨s, hs, h⟩ => ⟨s, (HRM.out s).1 hs, h⟩, fun ⟨s, hs, h⟩ => ⟨s, (HRM.out s).2 hs, h⟩⟩, HCO.out, hol, hBr, .inr ⟨by omega, rfl⟩⟩
end Go.Proofs.YtdafcipilknecaaGreatDoor
/- version.Instants. Printed by gen_veri.py. -/
namespace Go.Proofs.YtdafcipilknecaaGreatDoor
set_option linter.unusedSimpArgs false
set_option linter.unusedVariables false
open Go.ChangeShapes Go.WideShapes Go.ChangeAt Go.RowKit
theorem own_lt {w : World} {base : Nat} {e : TypeId} {size : Nat} {v : Value} {n : Nat} {xs : List Value} (h : w.ownsRow base e size v n xs) : ∀ r, v.ownBlock = some r → r < w.heap.size := fun r er => by
 rcases h.2 with ⟨rfl, _⟩ | ⟨g, cap, cur, rfl, _, hg, _⟩
 ·simp [Value.ownBlock] at er
 ·obtain rfl : g = r := by simpa [Value.ownBlock] using er
  exact (Array.getElem?_eq_some_iff.1 hg).1
theorem own_in {w : World} {base : Nat} {e : TypeId} {size : Nat} {v : Value} {n : Nat} {xs : List Value} (h : w.ownsRow base e size v n xs) : ∀ r, v.ownBlock = some r → base ≤ r ∧ r < w.heap.size := fun r er => by
 refine ⟨?_, own_lt h r er⟩
 rcases h.2 with ⟨rfl, _⟩ | ⟨g, cap, cur, rfl, hg, _⟩
 ·simp [Value.ownBlock] at er
 ·obtain rfl : g = r := by simpa [Value.ownBlock] using er
  exact hg
theorem Of_nil (w : World) : Calls Tryz.prog 58 #[.slice none 0 0] w fun e w' => e = .returned (.tuple #[.slice none 0 0, .int .i64 0]) ∧ Below w.heap.size w w' := by
 go_enter Tryz.func58, Tryz.ntmps58
 go_wp2_with (first
  | (go_at_call 90; refine (noneS_cf _ _ _ _).mono ?_; rintro e w' ⟨rfl, rfl⟩)
  | (go_at_call 93; refine (Tryz.slices_Clone_nil_f93 _ _ _).mono ?_; rintro e w' ⟨rfl, rfl⟩)
  | (go_at_call 94; refine (Tryz.slices_SortFunc_none_f94 (α := BSpn) _ _ _ _).mono ?_; rintro e w1 ⟨rfl, rfl⟩))
 refine wp_loop_rounds 1 ?_
 rw [rounds_succ]
 go_wp2_with (go_at_call 96; refine (done_any _ _ _ _ (by decide)).mono ?_; rintro e w' ⟨rfl, rfl⟩)
 go_ret2
 exact ⟨rfl, Below.refl _ _⟩
theorem betV_of {z : Zn} (hv : z.valid = true) {a b : Int} (h : -62135596800 ≤ a ∧ a < b ∧ b ≤ 253402300800) (hl : (z.betF a b).length ≤ 1000) : z.betV a b = (z.betF a b, 0) := by
 have hs : spanB a b = true := by
  unfold spanB ivB lineB
  simp
  omega
 unfold Zn.betV
 rw [if_pos ⟨hs, hv⟩, if_pos hl]
end Go.Proofs.YtdafcipilknecaaGreatDoor

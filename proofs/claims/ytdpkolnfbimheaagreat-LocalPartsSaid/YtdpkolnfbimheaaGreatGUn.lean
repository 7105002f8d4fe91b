/- Joined by merge.py: Union. -/
import Derived.Test.YtdpkolnfbimheaaGreatGRn
import Derived.BigQuiet
/- local.union: spans are sorted and joined. -/
namespace Go.Proofs.YtdpkolnfbimheaaGreat
set_option linter.unusedSimpArgs false
set_option linter.unusedVariables false
open Go.ChangeShapes Go.WideShapes Go.ChangeAt Go.RowKit Go.Sort Go.Lib

/-- spans with a bounded start, as the sort compares them -/
structure BSpn where
  s : Spn
  lo : -4398046511104 ≤ s.fr
  hi : s.fr ≤ 4398046511104
instance : Inhabited BSpn := ⟨⟨⟨0, 0⟩, by decide, by decide⟩⟩
def encG (s : BSpn) : List Value := encN s.s
theorem encG_len (s : BSpn) : (encG s).length = 2 := rfl
theorem encG_one (s : BSpn) : ∀ v ∈ encG s, v.oneCell' = true := encN_one s.s
def cmpB (x y : BSpn) : Int := x.s.fr - y.s.fr
theorem ltB_iff (x y : BSpn) : ltOf cmpB x y = true ↔ x.s.fr < y.s.fr := by unfold ltOf cmpB; rw [decide_eq_true_iff]; omega
theorem ltB_not (x y : BSpn) : ltOf cmpB x y = false ↔ y.s.fr ≤ x.s.fr := by unfold ltOf cmpB; rw [decide_eq_false_iff_not]; omega
theorem swoB : Sort.SWO (ltOf cmpB) where
  irrefl x := (ltB_not x x).2 (Int.le_refl _)
  trans x y z h1 h2 := (ltB_iff x z).2 (by have := (ltB_iff x y).1 h1; have := (ltB_iff y z).1 h2; omega)
  ntrans x y z h1 h2 := (ltB_not x z).2 (by have := (ltB_not x y).1 h1; have := (ltB_not y z).1 h2; omega)
theorem isAggS (w : World) : (isAgg 34).run Tryz.prog w = .ok true w := by kernel_rfl
theorem sizeOfS (w : World) : (Go.sizeOf 34).run Tryz.prog w = .ok 2 w := by kernel_rfl
theorem ucmp_any (x y : BSpn) (w : World) : Calls Tryz.prog 132 #[.agg (encG x).toArray, .agg (encG y).toArray] w fun e w' => e = .returned (.int .i64 (cmpB x y)) ∧ ∃ q os', w' = Sort.grow (w.drewN q) os' := by
  obtain ⟨⟨a, b⟩, h1, h2⟩ := x
  obtain ⟨⟨c, d⟩, h3, h4⟩ := y
  unfold cmpB encG encN
  have g1 : -4398046511104 ≤ a ∧ a ≤ 4398046511104 := ⟨h1, h2⟩
  have g2 : -4398046511104 ≤ c ∧ c ≤ 4398046511104 := ⟨h3, h4⟩
  have hw : wrap64 (a - c) = a - c := by unfold wrap64; omega
  dsimp only at *
  go_enter Tryz.func132, Tryz.ntmps132
  go_wp2
  go_ret
  exact ⟨rfl, 0, #[.cells #[.int .i64 a, .int .i64 b] 34, .cells #[.int .i64 c, .int .i64 d] 34], by rw [Sort.alloc_eq_grow, Sort.alloc_eq_grow, Sort.grow_grow]; rfl⟩
/-- the library's sort at spans, in a row of the call's own -/
theorem other_sorted {α : Type} [Inhabited α] {enc : α → List Value} {k : Nat} {w : World} {g off n j : Nat} {d : Array α} {os : Array Obj} (hg : j ≠ g) (hj : j < w.heap.size) : (sortWorldK enc k w g off n d os).heap[j]? = w.heap[j]? := by
  have e : (sortWorldK enc k w g off n d os).heap = (mapBlock (Sort.ahead w n) g (putCells id off (flatK enc k d))).heap ++ os := rfl
  rw [e, Array.getElem?_append_left (by simpa [mapBlock, Sort.ahead] using hj)]
  simp [mapBlock, Sort.ahead, Array.getElem?_modify, show g ≠ j from fun e => hg e.symm]
def SortEnd (l : List BSpn) (g cap : Nat) (w : World) (e : Ending) (w' : World) : Prop := e = .returned (.tuple #[]) ∧ ∃ L : List BSpn, L.length = l.length ∧ L.Perm l ∧ L.Pairwise (fun x y => x.s.fr ≤ y.s.fr) ∧ Rd encG 2 w' (.slice (some ⟨g, 0, none⟩) l.length cap) L ∧ (∀ B w0, Below B w0 w → B ≤ g → B ≤ w.heap.size → Below B w0 w') ∧ ∀ j, j ≠ g → j < w.heap.size → w'.heap[j]? = w.heap[j]?
theorem sort_of {l : List BSpn} {d' : Array BSpn} (hp : Sort.PermIn 0 l.toArray.size l.toArray d') (hs : Sort.SortedIn (ltOf cmpB) 0 l.toArray.size d') : d'.toList.length = l.length ∧ d'.toList.Perm l ∧ d'.toList.Pairwise (fun x y => x.s.fr ≤ y.s.fr) := by
  obtain ⟨h1, _, h2⟩ := hp
  have h1 : d'.size = l.length := by simpa using h1
  refine ⟨by simpa using h1, ?_, ?_⟩
  · have e1 : d'.extract 0 l.toArray.size = d' := by
      rw [show l.toArray.size = d'.size by rw [h1]; simp]
      simp
    rw [e1] at h2
    simpa using h2
  · refine List.pairwise_iff_getElem.2 fun i j hi hj hij => ?_
    have hi' : i < d'.size := by simpa using hi
    have hj' : j < d'.size := by simpa using hj
    have := (ltB_not _ _).1 (hs i j (Nat.zero_le _) hij (by simp; omega))
    rw [getElem!_pos d' i hi', getElem!_pos d' j hj'] at this
    simpa using this
theorem sortU (l : List BSpn) (g cap : Nat) (w : World) (hH : Sort.HoldsK encG 2 w g 0 l.toArray) (hg : g < w.heap.size) (hl : l.length ≤ 4000000) :
    Calls Tryz.prog 83 #[.slice (some ⟨g, 0, none⟩) l.length cap, .func (.func 132) #[] #[]] w (SortEnd l g cap w) := by
  have h := Tryz.slices_SortFunc_f83 2 isAggS sizeOfS encG encG_len encG_one cmpB swoB 132 #[] g 0 cap l.toArray w (enters_of Tryz.func132 (by kernel_rfl) rfl) (fun _ _ _ _ x y => ucmp_any x y _) hH hg (by simp; omega)
  refine h.mono ?_
  rintro e' w' ⟨rfl, d', n, os, hp, hs, rfl⟩
  obtain ⟨s1, s2, s3⟩ := sort_of hp hs
  refine ⟨rfl, d'.toList, s1, s2, s3, ?_, fun B w0 hb hB hB2 => below_sorted hb hB hB2, fun j hj hl => other_sorted hj hl⟩
  have := rd_sorted (ys := d'.toList) (n := n) (os := os) encG_len hH s1 hg (cap := cap)
  simpa using this

/-- spans, as the sort takes them -/
def toB (l : List Spn) (h : ∀ s ∈ l, s.ok = true) : List BSpn := l.attach.map fun s => ⟨s.1, by have := Spn.ok_iff.1 (h s.1 s.2); omega, by have := Spn.ok_iff.1 (h s.1 s.2); omega⟩
theorem toB_val (l : List Spn) (h : ∀ s ∈ l, s.ok = true) : (toB l h).map BSpn.s = l := by
  unfold toB
  rw [List.map_map]
  exact List.attach_map_subtype_val l
theorem toB_len (l : List Spn) (h : ∀ s ∈ l, s.ok = true) : (toB l h).length = l.length := by unfold toB; simp
theorem flatG (L : List BSpn) : L.flatMap encG = (L.map BSpn.s).flatMap encN := by
  rw [List.flatMap_map]; rfl
theorem rd_val {w : World} {v : Value} {L : List BSpn} (h : Rd encG 2 w v L) : Rd encN 2 w v (L.map BSpn.s) := by
  rcases h with ⟨e, A, c, hv⟩ | ⟨g, o, c, hv, hg, hc⟩
  · exact .inl ⟨by rw [e]; rfl, A, c, hv⟩
  · refine .inr ⟨g, o, c, by rw [List.length_map]; exact hv, hg, fun j hj i u hu => hc j (by simpa using hj) i u ?_⟩
    rw [List.length_map] at hj
    have e : (L.map BSpn.s)[j]! = (L[j]!).s := by
      rw [getElem!_pos _ j (by simpa using hj), getElem!_pos L j hj, List.getElem_map]
    rw [e] at hu
    exact hu
/-- one end of a run is put anew -/
theorem set_flat : ∀ (o : List Spn) (m : Nat) (t : Int), m < o.length → (o.flatMap encN).set (m * 2 + 1) (.int .i64 t) = (o.set m ⟨(o[m]!).fr, t⟩).flatMap encN
  | [], m, t, h => absurd h (Nat.not_lt_zero _)
  | s :: o, 0, t, h => by simp [encN]
  | s :: o, m + 1, t, h => by
    have ih := set_flat o m t (by simpa using h)
    rw [List.flatMap_cons, List.set_cons_succ, List.flatMap_cons, show ((s :: o)[m + 1]!) = o[m]! by simp, ← ih]
    rw [List.set_append_right _ _ (by rw [encN_len]; omega), encN_len, show (m + 1) * 2 + 1 - 2 = m * 2 + 1 by omega]
def UnionEnd (l : List Spn) (b : Spn) (n : Nat) (w : World) (e : Ending) (w' : World) : Prop := ∃ out u, UnionOk b l out ∧ Below n w w' ∧ ((out.length ≤ 2000 ∧ e = .returned (.tuple #[u, .int .i64 0]) ∧ w'.ownsRow n 34 2 u out.length (out.flatMap encN)) ∨ (2000 < out.length ∧ e = .returned (.tuple #[.slice none 0 0, .int .i64 5])))
theorem union_nil (b : Spn) (n : Nat) (w : World) (hb : b.ok = true) (hn : n ≤ w.heap.size) : Calls Tryz.prog 90 #[.slice none 0 0, .agg #[.int .i64 b.fr, .int .i64 b.to]] w (UnionEnd [] b n w) := by
  unfold UnionEnd
  have hU := Lib.hid (union_ok (L := []) hb (l := []) (fun s => Iff.rfl) List.Pairwise.nil (fun s h => by cases h))
  have hB : Below n w (w.alloc (.cells #[.int .i64 b.fr, .int .i64 b.to] 34)) := (Below.refl _ _).alloc hn _
  go_enter Tryz.func90, Tryz.ntmps90
  go_wp2_with (go_at_call 83; refine (Tryz.slices_SortFunc_none_f83 (α := BSpn) _ _ _ _).mono ?_; rintro e w1 ⟨rfl, rfl⟩)
  refine wp_loop_rounds 1 ?_
  rw [rounds_succ]
  go_wp2
  go_ret2
  exact ⟨[], .slice none 0 0, hU.out, hB, .inl ⟨by simp, rfl, World.ownsRow_nil _ _ _ _⟩⟩
set_option maxRecDepth 100000 in
set_option maxHeartbeats 4000000 in
theorem union_any (l : List Spn) (b : Spn) (n : Nat) (v : Value) (w : World) (hb : b.ok = true) (hl : ∀ s ∈ l, s.ok = true) (hlen : l.length ≤ 2000000) (hv : w.ownsRow n 34 2 v l.length (l.flatMap encN)) (hn : n ≤ w.heap.size) :
    Calls Tryz.prog 90 #[v, .agg #[.int .i64 b.fr, .int .i64 b.to]] w (UnionEnd l b n w) := by
  by_cases h0 : v = .slice none 0 0
  · have : l = [] := by
      rcases hv.2 with ⟨_, e1⟩ | ⟨g, cap, cur, e0, _⟩
      · exact List.eq_nil_of_length_eq_zero e1
      · rw [h0] at e0; cases e0
    subst this
    subst h0
    exact union_nil b n w hb hn
  · have hvB : w.ownsRow n 34 2 v (toB l hl).length ((toB l hl).flatMap encG) := by rw [toB_len, flatG, toB_val]; exact hv
    have b0 := Blk.new w #[.int .i64 b.fr, .int .i64 b.to] 34
    have hB1 : Below n w (w.alloc (.cells #[.int .i64 b.fr, .int .i64 b.to] 34)) := (Below.refl _ _).alloc hn _
    have hv1 := own_on hvB (alloc_below' w (.cells #[.int .i64 b.fr, .int .i64 b.to] 34))
    obtain ⟨g, cap, rfl, hg1, hg2, hg3, hg4, hH⟩ := holdsK_of_own encG_len hv1 rfl h0
    have hgw : g < w.heap.size := by
      rcases hvB.2 with ⟨e0, _⟩ | ⟨g', cap', cur, e0, hg', hw', _⟩
      · cases e0
      · injection e0 with e1 _ _
        injection e1 with e1
        injection e1 with e1 _ _
        rw [e1]
        exact (Array.getElem?_eq_some_iff.1 hw').1
    have HS := Lib.hid (sortU (toB l hl) g cap _ hH hg2 (by rw [toB_len]; omega))
    unfold SortEnd at HS
    have HVAL := Lib.hid (toB_val l hl)
    rw [toB_len] at HS ⊢
    unfold UnionEnd
    go_enter Tryz.func90, Tryz.ntmps90
    go_wp2_with fail
    refine HS.out.mono ?_
    rintro e ws ⟨rfl, L, hL1, hL2, hL3, hR, hbl, hot⟩
    have hbs : Blk ws w.heap.size #[.int .i64 b.fr, .int .i64 b.to] 34 := (hot w.heap.size (by omega) b0.lt).trans b0
    have hBs : RowKit.Below n w ws := hbl n w hB1 hg1 (Nat.le_trans hn hB1.size)
    have hRR := rd_val hR
    have hRl : (L.map BSpn.s).length = l.length := by rw [List.length_map]; exact hL1
    have hRA : (L.map BSpn.s).Pairwise (fun s t => s.fr ≤ t.fr) := by rw [List.pairwise_map]; exact hL3
    have hRm : ∀ s, s ∈ L.map BSpn.s ↔ s ∈ l := fun s => by rw [← HVAL.out]; exact (hL2.map BSpn.s).mem_iff
    have HU := Lib.hid (union_ok hb hRm hRA hl)
    have HRR := Lib.hid hRR
    have HOKS := Lib.hid (fun s (hs : s ∈ L.map BSpn.s) => hl s ((hRm s).1 hs))
    clear HS hL1 hL2 hL3 hR hbl hot hRR hRA hRm HVAL hH hv hvB hv1 hg2 b0 hB1 h0
    generalize L.map BSpn.s = R at *
    have hszn : w.heap.size < ws.heap.size := hbs.lt
    obtain ⟨i0, hi0, hz0, hz1, hz2⟩ := info_parts info_span
    go_wp2
    go_loopw [6, 16] (fun v6 i wr => ∃ k : Nat, k ≤ R.length ∧ i = .int .i64 k ∧ wr.ownsRow ws.heap.size 34 2 v6 (joinF (clipF b (R.take k))).length ((joinF (clipF b (R.take k))).flatMap encN) ∧ RowKit.Below ws.heap.size ws wr) (fun _ i _ => R.length - (intOf i).toNat)
    case atStart => exact ⟨0, Nat.zero_le _, rfl, World.ownsRow_nil _ _ _ _, Below.refl _ _⟩
    case round =>
      obtain ⟨k, hk, rfl, hown, hbr⟩ := hrel
      have hlo : (joinF (clipF b (R.take k))).length ≤ k := Nat.le_trans (joinF_len _) (Nat.le_trans (clip_len _ _) (List.length_take_le _ _))
      have hszr := hbr.size
      by_cases hlt : k < R.length
      · have hlt2 : k < l.length := by omega
        obtain ⟨e0, e1⟩ : wr.cell? ⟨g, k * 2, none⟩ = some (.int .i64 (R[k]!).fr) ∧ wr.cell? ⟨g, k * 2 + 1, none⟩ = some (.int .i64 (R[k]!).to) := by
          obtain ⟨_, hR0 | ⟨g', o', hA, hg', hc⟩⟩ := rd_at (HRR.out.on hbr)
          · rw [hR0] at hlt; exact absurd hlt (Nat.not_lt_zero _)
          · injection hA with hA
            injection hA with h1 h2 _
            subst h1
            subst h2
            have := hc k hlt
            rwa [Nat.zero_add] at this
        have hxo : (R[k]!).ok = true := HOKS.out _ (by rw [getElem!_pos R k hlt]; exact List.getElem_mem _)
        have HST := Lib.hid (show clipF b (R.take (k + 1)) = clipF b (R.take k) ++ (if meetB (R[k]!) b = true then [meetF (R[k]!) b] else []) by rw [List.take_succ_eq_append_getElem hlt, clip_snoc, getElem!_pos R k hlt])
        have HME := Lib.hid (fun W => Meet_any (R[k]!) b W)
        unfold MeetEnd at HME
        obtain ⟨x, hx⟩ : ∃ x, R[k]! = x := ⟨_, rfl⟩
        rw [hx] at e0 e1 HST HME
        clear hx hxo
        obtain ⟨C, hC⟩ : ∃ C, clipF b (R.take k) = C := ⟨_, rfl⟩
        rw [hC] at hown hlo HST
        obtain ⟨A6, c6, rfl⟩ := own_formN hown
        have HOWN := Lib.hid hown
        have hbsr := hbs.below hbr hszn
        have hBA : RowKit.Below ws.heap.size ws (wr.alloc (.cells #[.int .i64 x.fr, .int .i64 x.to] 34)) := hbr.alloc hbr.size _
        have HOA := Lib.hid (own_on hown (alloc_below' wr (.cells #[.int .i64 x.fr, .int .i64 x.to] 34)))
        have bx := Blk.new wr #[.int .i64 x.fr, .int .i64 x.to] 34
        have bb := hbsr.alloc (.cells #[.int .i64 x.fr, .int .i64 x.to] 34)
        generalize hWA : wr.alloc (.cells #[.int .i64 x.fr, .int .i64 x.to] 34) = WA at *
        have q0 := bx.cl 0 _ rfl
        have q1 := bx.cl 1 _ rfl
        have p0 := bb.cl 0 _ rfl
        have p1 := bb.cl 1 _ rfl
        clear hown hbsr hC
        cases hm : meetB x b
        · rw [hm, if_neg Bool.false_ne_true, List.append_nil] at HST
          rw [meetV_no hm] at HME
          go_wp2_with (go_at_call 74; refine (HME.out _).mono ?_; rintro e w2 ⟨rfl, hb2⟩; clear HME)
          go_roundw
          case rel => exact ⟨k + 1, by omega, by go_num, by rw [HST.out]; exact own_on (own_on HOA.out hb2) (alloc_below' _ _), (hBA.trans (hb2.mono hBA.size)).alloc (hBA.trans (hb2.mono hBA.size)).size _⟩
          case measure => simp [intOf]; omega
        · rw [hm, if_pos rfl] at HST
          rw [meetV_yes hm] at HME
          have HJ := Lib.hid (show joinF (clipF b (R.take (k + 1))) = addRun (joinF C) (meetF x b) by rw [HST.out, joinF_snoc])
          generalize meetF x b = m at *
          generalize joinF C = O at *
          clear HST HOWN
          have hBW : ∀ w2 : World, RowKit.Below WA.heap.size WA w2 → RowKit.Below ws.heap.size ws (w2.alloc (.cells #[.int .i64 m.fr, .int .i64 m.to] 34)) := fun w2 h => (hBA.trans (h.mono hBA.size)).alloc (hBA.trans (h.mono hBA.size)).size _
          have hOW : ∀ w2 : World, RowKit.Below WA.heap.size WA w2 → (w2.alloc (.cells #[.int .i64 m.fr, .int .i64 m.to] 34)).ownsRow ws.heap.size 34 2 (.slice A6 O.length c6) O.length (O.flatMap encN) := fun w2 h => own_on (own_on HOA.out h) (alloc_below' _ _)
          have HBW := Lib.hid hBW
          have HOW := Lib.hid hOW
          clear hBW hOW
          by_cases h0 : O.length = 0
          · have hadd : addRun O m = O ++ [m] := by unfold addRun; rw [if_neg (by omega)]
            have dk : ¬ 0 < O.length := by omega
            have dk1 : decide ((0 : Int) < (O.length : Int)) = false := decide_eq_false (by omega)
            rw [hadd] at HJ
            clear hadd h0
            go_wp2_with (go_at_call 74; refine (HME.out _).mono ?_; rintro e w2 ⟨rfl, hb2⟩; clear HME)
            have hBW := HBW.out w2 hb2
            have hO3 := HOW.out w2 hb2
            have b3 := Blk.new w2 #[.int .i64 m.fr, .int .i64 m.to] 34
            generalize w2.alloc (.cells #[.int .i64 m.fr, .int .i64 m.to] 34) = W3 at *
            have y0 := b3.cl 0 _ rfl
            have y1 := b3.cl 1 _ rfl
            go_quiet (fail)
            have hd3 : RowKit.Below W3.heap.size W3 (W3.drewN nq) := below_drewN (Below.refl _ _) nq
            have hBW := hBW.trans (hd3.mono hBW.size)
            have hO3 := own_on hO3 hd3
            have b3 : Blk (W3.drewN nq) w2.heap.size #[.int .i64 m.fr, .int .i64 m.to] 34 := b3.below hd3 b3.lt
            generalize W3.drewN nq = W4 at *
            have y0 := b3.cl 0 _ rfl
            have y1 := b3.cl 1 _ rfl
            have HO4 := Lib.hid hO3
            have hszB := hBW.size
            clear hO3 y0 y1
            have y0 := b3.cl 0 _ rfl
            have y1 := b3.cl 1 _ rfl
            go_wp2_with (at_builtin; go_loud (refine wpList_append_own _ rfl _ _ 46 rfl ws.heap.size 34 i0 _ 2 16 Tryz.underlying46 hi0 hz0 hz1 hz2 rfl (by decide) _ _ _ rfl (HO4.out.alloc _) ⟨_, 0, none⟩ 1 1 (encN m) rfl rfl (new_row_at (by simp) _) (encN_one m) (by simp only [maxLen]; omega) (by omega) (by simp; omega) ?_); intro v' w5 hown5 hg5 _)
            have hB5 : RowKit.Below ws.heap.size ws w5 := below_app HO4.out (Nat.le_refl _) (hBW.alloc hBW.size _) hg5
            go_roundw
            case rel => exact ⟨k + 1, by omega, by go_num, by rw [HJ.out]; exact own_snoc (es := O) (x := m) hown5, hB5⟩
            case measure => simp [intOf]; omega
          · obtain ⟨q, hq⟩ : ∃ q, O.length = q + 1 := ⟨O.length - 1, by omega⟩
            have dk : 0 < O.length := by omega
            have dk1 : decide ((0 : Int) < (O.length : Int)) = true := decide_eq_true (by omega)
            have hwi : (O.length : Int) - 1 = (q : Int) := by omega
            have hql : q < O.length := by omega
            obtain ⟨g6, hA6⟩ : ∃ g6, A6 = some ⟨g6, 0, none⟩ := by
              have hx := HOW.out WA (Below.refl _ _)
              rcases hx.2 with ⟨e0, _⟩ | ⟨g', cap', cur, e0, _⟩
              · injection e0 with _ e1 _; omega
              · injection e0 with e1 _ _; exact ⟨g', e1⟩
            subst hA6
            have HLT := Lib.hid (fun (W : World) (h : W.ownsRow ws.heap.size 34 2 (.slice (some ⟨g6, 0, none⟩) O.length c6) O.length (O.flatMap encN)) => show W.cell? ⟨g6, q * 2 + 1, none⟩ = some (.int .i64 (O[q]!).to) from (h.cellAt (q * 2 + 1) (by omega)).trans (flat_get encN_len O q 1 hql (by omega)))
            clear h0
            by_cases hle : m.fr ≤ (O[q]!).to
            · have HSE := Lib.hid (show addRun O m = O.set q ⟨(O[q]!).fr, max (O[q]!).to m.to⟩ by unfold addRun; rw [show O.length - 1 = q by omega, if_pos ⟨dk, hle⟩])
              have d1 : decide (m.fr ≤ (O[q]!).to) = true := decide_eq_true hle
              have HSF := Lib.hid (set_flat O q (max (O[q]!).to m.to) hql)
              have HSL := Lib.hid (show (O.set q ⟨(O[q]!).fr, max (O[q]!).to m.to⟩).length = O.length from List.length_set)
              go_wp2_with (go_at_call 74; refine (HME.out _).mono ?_; rintro e w2 ⟨rfl, hb2⟩; clear HME)
              have hBW := HBW.out w2 hb2
              have hO3 := HOW.out w2 hb2
              have b3 := Blk.new w2 #[.int .i64 m.fr, .int .i64 m.to] 34
              generalize w2.alloc (.cells #[.int .i64 m.fr, .int .i64 m.to] 34) = W3 at *
              have y0 := b3.cl 0 _ rfl
              have y1 := b3.cl 1 _ rfl
              have l1 := HLT.out W3 hO3
              generalize hlt3 : (O[q]!).to = lt at *
              go_quiet (fail)
              have hd3 : RowKit.Below W3.heap.size W3 (W3.drewN nq) := below_drewN (Below.refl _ _) nq
              have hBW := hBW.trans (hd3.mono hBW.size)
              have hO3 := own_on hO3 hd3
              have b3 : Blk (W3.drewN nq) w2.heap.size #[.int .i64 m.fr, .int .i64 m.to] 34 := b3.below hd3 b3.lt
              generalize W3.drewN nq = W4 at *
              have y0 := b3.cl 0 _ rfl
              have y1 := b3.cl 1 _ rfl
              have l1 := HLT.out W4 hO3
              have lf := hO3.frozenAt (q * 2 + 1)
              have HO4 := Lib.hid hO3
              clear hO3
              go_wp2
              go_region
              have hst := (HO4.out.stored (q * 2 + 1) (.int .i64 (max lt m.to))).1
              have hfin : (W4.setCell ⟨g6, q * 2 + 1, none⟩ (.int .i64 (max lt m.to))).drew.ownsRow ws.heap.size 34 2 (.slice (some ⟨g6, 0, none⟩) (q + 1) c6) (addRun O m).length ((addRun O m).flatMap encN) := by
                have h5 := own_on hst (Below.refl _ _).drew
                rw [HSE.out, HSL.out, ← HSF.out]
                rw [hq] at h5 ⊢
                exact h5
              have hg6 : ws.heap.size ≤ g6 := by
                rcases HO4.out.2 with ⟨e0, _⟩ | ⟨g', cap', cur, e0, h6, _⟩
                · cases e0
                · injection e0 with e1 _ _
                  injection e1 with e1
                  injection e1 with e1 _ _
                  rw [e1]; exact h6
              have hB5 : RowKit.Below ws.heap.size ws (W4.setCell ⟨g6, q * 2 + 1, none⟩ (.int .i64 (max lt m.to))).drew := (hBW.setCell (p := ⟨g6, q * 2 + 1, none⟩) hg6 _).drew
              generalize (W4.setCell ⟨g6, q * 2 + 1, none⟩ (.int .i64 (max lt m.to))).drew = W5 at *
              clear hq hst l1 lf y0 y1 b3
              go_wp2
              go_roundw
              case rel => exact ⟨k + 1, by omega, by go_num, by rw [HJ.out]; exact hfin, hB5⟩
              case measure => simp [intOf]; omega
            · have hadd : addRun O m = O ++ [m] := by unfold addRun; rw [show O.length - 1 = q by omega, if_neg (fun h => hle h.2)]
              have d1 : decide (m.fr ≤ (O[q]!).to) = false := decide_eq_false hle
              rw [hadd] at HJ
              clear hadd hq
              go_wp2_with (go_at_call 74; refine (HME.out _).mono ?_; rintro e w2 ⟨rfl, hb2⟩; clear HME)
              have hBW := HBW.out w2 hb2
              have hO3 := HOW.out w2 hb2
              have b3 := Blk.new w2 #[.int .i64 m.fr, .int .i64 m.to] 34
              generalize w2.alloc (.cells #[.int .i64 m.fr, .int .i64 m.to] 34) = W3 at *
              have y0 := b3.cl 0 _ rfl
              have y1 := b3.cl 1 _ rfl
              have l1 := HLT.out W3 hO3
              generalize (O[q]!).to = lt at *
              go_quiet (fail)
              have hd3 : RowKit.Below W3.heap.size W3 (W3.drewN nq) := below_drewN (Below.refl _ _) nq
              have hBW := hBW.trans (hd3.mono hBW.size)
              have hO3 := own_on hO3 hd3
              have b3 : Blk (W3.drewN nq) w2.heap.size #[.int .i64 m.fr, .int .i64 m.to] 34 := b3.below hd3 b3.lt
              generalize W3.drewN nq = W4 at *
              have y0 := b3.cl 0 _ rfl
              have y1 := b3.cl 1 _ rfl
              have HO4 := Lib.hid hO3
              have hszB := hBW.size
              clear hO3
              go_wp2_with (at_builtin; go_loud (refine wpList_append_own _ rfl _ _ 46 rfl ws.heap.size 34 i0 _ 2 16 Tryz.underlying46 hi0 hz0 hz1 hz2 rfl (by decide) _ _ _ rfl (HO4.out.alloc _) ⟨_, 0, none⟩ 1 1 (encN m) rfl rfl (new_row_at (by simp) _) (encN_one m) (by simp only [maxLen]; omega) (by omega) (by simp; omega) ?_); intro v' w5 hown5 hg5 _)
              have hB5 : RowKit.Below ws.heap.size ws w5 := below_app HO4.out (Nat.le_refl _) (hBW.alloc hBW.size _) hg5
              go_roundw
              case rel => exact ⟨k + 1, by omega, by go_num, by rw [HJ.out]; exact own_snoc (es := O) (x := m) hown5, hB5⟩
              case measure => simp [intOf]; omega
      · obtain rfl : k = R.length := by omega
        rw [List.take_length] at hown hlo
        generalize hO : joinF (clipF b R) = O at *
        have HO := Lib.hid hown
        obtain ⟨A6, c6, rfl⟩ := own_formN hown
        have hBr : RowKit.Below n w wr := hBs.trans (hbr.mono (by omega))
        clear hown
        by_cases hlim : O.length ≤ 2000
        · have hd : decide ((2000 : Int) < (O.length : Int)) = false := decide_eq_false (by omega)
          go_wp2
          go_ret2
          exact ⟨O, .slice A6 O.length c6, HU.out, hBr, .inl ⟨hlim, rfl, own_base HO.out (by omega)⟩⟩
        · have hd : decide ((2000 : Int) < (O.length : Int)) = true := decide_eq_true (by omega)
          go_wp2
          go_ret2
          exact ⟨O, .slice A6 O.length c6, HU.out, hBr, .inr ⟨by omega, rfl⟩⟩

end Go.Proofs.YtdpkolnfbimheaaGreat

/- Joined by merge.py: VerW1, VerW2, VerW3. -/
import Derived.Test.YtdafcipilknecaaGreatDoorGRange
import Derived.Test.YtdafcipilknecaaGreatDoorGZn
import Derived.Test.YtdafcipilknecaaGreatDoorGVp
import Derived.Test.YtdafcipilknecaaGreatDoorGRn
import Derived.Test.YtdafcipilknecaaGreatDoorGHis
import Derived.Sort.OwnSortedInts
import Derived.Test.YtdafcipilknecaaGreatDoorGVx
/- version: numbers that the call owns, sorted; what a function that collects spans keeps. -/
namespace Go.Proofs.YtdafcipilknecaaGreatDoor
set_option linter.unusedSimpArgs false
set_option linter.unusedVariables false
open Go.ChangeShapes Go.WideShapes Go.ChangeAt Go.RowKit
theorem Sort_grown (base : Nat) (zs : List Int) (n : Nat) (v : Value) (w : World) (h : w.ownsRow base 3 1 v n (zs.map (Value.int .i64))) (hn : 0 < n) (hn2 : n ≤ 1000000) :
  Calls Tryz.prog 86 #[v] w fun e w' => e = .returned (.tuple #[]) ∧ w'.ownsRow base 3 1 v n ((zs.mergeSort fun x y => decide (x ≤ y)).map (Value.int .i64)) ∧ w.grownBy w' v.ownBlock := by
 obtain ⟨g, cap, rfl, hg1, hg2, hg3, hg4, hg5, hH⟩ := Lib.holds_of_ownsRow h (not_nil h hn)
 subst hg5
 refine (Tryz.slices_Sort_int g 0 cap zs w hH hg2 (by omega)).mono ?_
 rintro e w' ⟨rfl, n, os, rfl⟩
 have h2 := Lib.ownsRow_putRow (q := n) h (ys := zs.mergeSort fun x y => decide (x ≤ y)) (List.length_mergeSort _) (Nat.le_refl _)
 rw [List.take_of_length_le (by rw [List.length_mergeSort]; exact Nat.le_refl _)] at h2
 exact ⟨rfl, own_on h2 (grow_below _ _), grownBy_sortedI _⟩
theorem sorted_ms (l : List Int) : (l.mergeSort fun x y => decide (x ≤ y)).Pairwise (· ≤ ·) := by
 have h := List.pairwise_mergeSort (le := fun x y : Int => decide (x ≤ y)) (fun a b c h1 h2 => by simp at *; omega) (fun a b => by simp; omega) l
 exact h.imp fun h => by simpa using h
theorem mem_ms {l : List Int} {x : Int} : x ∈ (l.mergeSort fun x y => decide (x ≤ y)) ↔ x ∈ l := (List.mergeSort_perm _ _).mem_iff
theorem grown_below {w w' : World} {o B : Nat} (h : w.grownBy w' (some o)) (hB : B ≤ o) (hs : B ≤ w.heap.size) : Below B w w' :=
 ⟨h.os, h.tape, h.output, h.size, fun k hk => h.block k (by omega) (by intro e; injection e with e; omega)⟩
def OutP (o : Nat) (w0 : World) (L : List Spn) (w : World) : Prop :=
 w0.grownBy w (some o) ∧ o < w0.heap.size ∧ ∃ u, Boxed w o 59 u ∧ w.ownsRow w0.heap.size 35 2 u L.length (L.flatMap encN) ∧ (L = [] → u = .slice none 0 0)
theorem OutP.below {o : Nat} {w0 w w' : World} {L : List Spn} (h : OutP o w0 L w) (hb : Below w.heap.size w w') : OutP o w0 L w' := by
 obtain ⟨h1, h2, u, h3, h4, h5⟩ := h
 exact ⟨h1.trans (below_grown hb), h2, u, h3.kept (below_grown (row := none) hb) (by simp), own_on h4 hb, h5⟩
theorem OutP.old {o B : Nat} {w0 w : World} {L : List Spn} (h : OutP o w0 L w) (hB : B ≤ o) : Below B w0 w := grown_below h.1 hB (Nat.le_of_lt (Nat.lt_of_le_of_lt hB h.2.1))
theorem OutP.add {o : Nat} {w0 w wa w1 : World} {L : List Spn} {s : Spn} {u v' : Value} (h1 : w0.grownBy w (some o)) (ho : o < w0.heap.size) (hbox : Boxed w o 59 u) (hrow : w.ownsRow w0.heap.size 35 2 u L.length (L.flatMap encN)) (hA : Below w.heap.size w wa)
  (hown : w1.ownsRow w0.heap.size 35 2 v' (L.length + 1) (L.flatMap encN ++ encN s)) (hgrow : wa.grownBy w1 u.ownBlock) : Boxed w1 o 59 u ∧ OutP o w0 (L ++ [s]) (w1.setCell ⟨o, 0, none⟩ v') := by
 have hne : some o ≠ u.ownBlock := hbox.not_row (by decide) hrow
 have hbA : Boxed wa o 59 u := hbox.kept (below_grown (row := none) hA) (by simp)
 have hb1 : Boxed w1 o 59 u := hbA.kept hgrow hne
 refine ⟨hb1, ((h1.trans (below_grown hA)).andThen hgrow fun j ej => ?_).trans (grownBy_setCell' w1 o v'), ho, v', hb1.set v', ?_, fun e => absurd e (by simp)⟩
 ·rcases hrow.2 with ⟨rfl, _⟩ | ⟨g, cap, cur, rfl, hg, _⟩
  ·simp [Value.ownBlock] at ej
  ·obtain rfl : g = j := by simpa [Value.ownBlock] using ej
   exact .inl hg
 ·have h2 := hown.kept (grownBy_setCell' w1 o v') (.inr (hb1.not_row (by decide) hown).symm)
  rw [List.length_append, List.flatMap_append, show [s].flatMap encN = encN s by simp]
  exact h2
end Go.Proofs.YtdafcipilknecaaGreatDoor
/- version.span, the closure of version.Instants. -/
namespace Go.Proofs.YtdafcipilknecaaGreatDoor
set_option linter.unusedSimpArgs false
set_option linter.unusedVariables false
open Go.ChangeShapes Go.WideShapes Go.ChangeAt Go.RowKit
def spanV (a b : Int) : Bool := decide (-62135596800 ≤ a) && (decide (a < b) && decide (b ≤ 253402300800))
theorem vspan_any (a b : Int) (w : World) : Calls Tryz.prog 53 #[.agg #[.int .i64 a, .int .i64 b]] w fun e w' => e = .returned (.bool (spanV a b)) ∧ Below w.heap.size w w' := by
 have HBZ := Lib.hid (show Below w.heap.size w (w.alloc (.cells #[.int .i64 a, .int .i64 b] 35)) from (Below.refl _ _).alloc (Nat.le_refl _) _)
 unfold spanV
 by_cases h1 : -62135596800 ≤ a
 ·rw [decide_eq_true h1, Bool.true_and]
  by_cases h2 : a < b
  ·rw [decide_eq_true h2, Bool.true_and]
   go_enter Tryz.func53, Tryz.ntmps53
   go_wp2
   go_ret
   exact ⟨rfl, HBZ.out⟩
  ·rw [decide_eq_false h2, Bool.false_and]
   go_enter Tryz.func53, Tryz.ntmps53
   go_wp2
   go_ret
   exact ⟨ret1 (vbool (by simp)), HBZ.out⟩
 ·rw [decide_eq_false h1, Bool.false_and]
  go_enter Tryz.func53, Tryz.ntmps53
  go_wp2
  go_ret
  exact ⟨ret1 (vbool (by simp)), HBZ.out⟩
end Go.Proofs.YtdafcipilknecaaGreatDoor
/- version.pieces. Printed by gen_verp.py. -/
namespace Go.Proofs.YtdafcipilknecaaGreatDoor
set_option linter.unusedSimpArgs false
set_option linter.unusedVariables false
open Go.ChangeShapes Go.WideShapes Go.ChangeAt Go.RowKit
def PieceEnd (l : List Int) (a b : Int) (v : Value) (o : Nat) (h : Spn → List Spn) (w : World) (e : Ending) (w' : World) : Prop :=
 e = .returned (.tuple #[]) ∧ ∃ w0, w.grownBy w0 v.ownBlock ∧ OutP o w0 ((piecesC b a ((l ++ [a, b]).mergeSort fun x y => decide (x ≤ y))).flatMap h) w'
set_option maxRecDepth 100000 in
set_option maxHeartbeats 8000000 in
theorem pieces_loc (pa pp pb o base : Nat) (h : Spn → List Spn) (hh : ∀ s, (h s).length ≤ 2) (l : List Int) (v : Value) (a b : Int) (w : World) (hab : a < b) (hll : l.length ≤ 2990) (hown : w.ownsRow base 3 1 v l.length (l.map (Value.int .i64))) (hbase : base ≤ w.heap.size) (ho : o < w.heap.size) (hbox : Boxed w o 59 (.slice none 0 0))
  (hF : ∀ (w0 : World) (L : List Spn) (s : Spn) (W : World), w.grownBy w0 v.ownBlock → OutP o w0 L W → a ≤ s.fr → s.fr < s.to → s.to ≤ b → L.length ≤ 6000 → Calls Tryz.prog 56 #[.agg #[.int .i64 s.fr, .int .i64 s.to], .pointer (some ⟨pa, 0, none⟩), .pointer (some ⟨pp, 0, none⟩), .pointer (some ⟨pb, 0, none⟩), .pointer (some ⟨o, 0, none⟩)] W fun e w' => e = .returned (.tuple #[]) ∧ OutP o w0 (L ++ h s) w') :
  Calls Tryz.prog 55 #[.agg #[.int .i64 a, .int .i64 b], v, .func (.func 56) #[] #[.pointer (some ⟨pa, 0, none⟩), .pointer (some ⟨pp, 0, none⟩), .pointer (some ⟨pb, 0, none⟩), .pointer (some ⟨o, 0, none⟩)]] w (PieceEnd l a b v o h w) := by
 obtain ⟨i0, hi0, hz0, hz1, hz2⟩ := info_parts infoI
 have hov : some o ≠ v.ownBlock := hbox.not_row (by decide) hown
 have hvw : ∀ r, v.ownBlock = some r → r < w.heap.size := fun r er => by
  rcases hown.2 with ⟨rfl, _⟩ | ⟨g, cap, cur, rfl, _, hg, _⟩
  ·simp [Value.ownBlock] at er
  ·obtain rfl : g = r := by simpa [Value.ownBlock] using er
   exact (Array.getElem?_eq_some_iff.1 hg).1
 have b0 := (Blk.new w #[.int .i64 a, .int .i64 b] 35).alloc (.cells #[.int .i64 a, .int .i64 b] 3)
 have HB2 := Lib.hid (show Below w.heap.size w ((w.alloc (.cells #[.int .i64 a, .int .i64 b] 35)).alloc (.cells #[.int .i64 a, .int .i64 b] 3)) from ((Below.refl _ _).alloc (Nat.le_refl _) _).alloc (by simp) _)
 have HOWN := Lib.hid ((own_on hown (alloc_below' w (.cells #[.int .i64 a, .int .i64 b] 35))))
 have HF := Lib.hid hF
 have HOV := Lib.hid hov
 have HVW := Lib.hid hvw
 have HBX := Lib.hid hbox
 have hNS := noSpot_own hown
 clear hF hown hov hvw hbox
 unfold PieceEnd
 go_enter Tryz.func55, Tryz.ntmps55
 go_wp2_with (at_builtin; go_loud (refine wpList_append_own_at _ rfl _ _ 51 rfl base 3 i0 _ 1 8 Tryz.underlying51 hi0 hz0 hz1 hz2 rfl (by decide) v _ _ rfl (HOWN.out.alloc _) ⟨_, 0, none⟩ 2 2 [.int .i64 a, .int .i64 b] rfl rfl (new_row_at (by simp) _) (two_one _ _) (by simp only [maxLen]; omega) (by omega) (by simp; omega) ?_); intro v1 w1 hown1 hg1 _ hat1)
 have hown1' : w1.ownsRow base 3 1 v1 (l.length + 2) ((l ++ [a, b]).map (Value.int .i64)) := by rw [List.map_append]; exact hown1
 have HS := Lib.hid (Sort_grown base (l ++ [a, b]) _ v1 w1 hown1' (by omega) (by omega))
 have hA : w.grownBy w1 v.ownBlock := (below_grown HB2.out).trans hg1
 have hz1' : w.heap.size + 2 ≤ w1.heap.size := by have := hg1.size; simpa using this
 have kb1 := b0.kept hg1 (fun e => by have := HVW.out _ e.symm; omega)
 have hat : v1.ownBlock = v.ownBlock ∨ v1.ownBlock = some (w.heap.size + 2) := by simpa using hat1
 have hov1 : some o ≠ v1.ownBlock := by
  rcases hat with h | h
  ·rw [h]; exact HOV.out
  ·rw [h]; intro e; injection e with e; omega
 have hiv1 : some w.heap.size ≠ v1.ownBlock := by
  rcases hat with h | h
  ·rw [h]; intro e; have := HVW.out _ e.symm; omega
  ·rw [h]; intro e; injection e with e; omega
 clear hown1 hown1' hg1 hat1 hi0 hz0 hz1 hz2
 go_wp2_with fail
 refine HS.out.mono ?_
 rintro e w2 ⟨rfl, hown2, hg2⟩
 clear HS
 have hg02 : w.grownBy w2 v.ownBlock := hA.andThen hg2 fun j ej => by
  rcases hat with h | h
  ·rw [h] at ej; exact .inr ej
  ·rw [h] at ej; injection ej with ej; exact .inl (by omega)
 have kb2 := kb1.kept hg2 hiv1
 have hsz2 : w.heap.size + 2 ≤ w2.heap.size := Nat.le_trans hz1' hg2.size
 have hP0 : OutP o w2 [] w2 := ⟨⟨rfl, rfl, rfl, Nat.le_refl _, fun _ _ _ => rfl⟩, by omega, _, HBX.out.kept hg02 HOV.out, World.ownsRow_nil _ _ _ _, fun _ => rfl⟩
 have HF := Lib.hid (fun L s W => HF.out w2 L s W hg02)
 have HEND := Lib.hid hg02
 clear kb1 hA hg02 hg2 b0 HOWN HB2
 have hSl : ((l ++ [a, b]).mergeSort fun x y => decide (x ≤ y)).length = l.length + 2 := by rw [List.length_mergeSort, List.length_append]; rfl
 obtain ⟨S, hS⟩ : ∃ S, S = ((l ++ [a, b]).mergeSort fun x y => decide (x ≤ y)) := ⟨_, rfl⟩
 rw [← hS] at hown2 hSl
 have HSE := Lib.hid hS
 clear hS
 have HR := Lib.hid (rd_of_own (enc := enc1) (fun _ => rfl) (show w2.ownsRow base 3 1 v1 (l.length + 2) (S.flatMap (fun x => [Value.int .i64 x])) from by rw [flat_one]; exact hown2) hSl)
 obtain ⟨A1, c1, rfl⟩ := rd_vf HR.out
 have i0 := kb2.cell 0 (v := .int .i64 a) rfl
 have i1 := kb2.cell 1 (v := .int .i64 b) rfl
 go_wp2
 clear i0 i1
 go_loopw [6, 22] (fun v6 v7 wr => ∃ k : Nat, k ≤ S.length ∧ v7 = .int .i64 k ∧ v6 = .int .i64 (lastC b a (S.take k)) ∧ OutP o w2 ((piecesC b a (S.take k)).flatMap h) wr) (fun _ v7 _ => S.length - (intOf v7).toNat)
 case atStart => exact ⟨0, Nat.zero_le _, rfl, rfl, hP0⟩
 case round =>
  obtain ⟨k, hk, rfl, rfl, hP⟩ := hrel
  have kbr := kb2.kept hP.1 (by intro e; injection e with e; omega)
  have i0 := kbr.cell 0 (v := .int .i64 a) rfl
  have i1 := kbr.cell 1 (v := .int .i64 b) rfl
  have hir := kbr.lt
  by_cases hlt : k < S.length
  ·obtain ⟨g, off, hA1, hg, hcg⟩ : ∃ g off, A1 = some ⟨g, off, none⟩ ∧ g < w2.heap.size ∧ w2.cell? ⟨g, off + k, none⟩ = some (.int .i64 S[k]!) := by
    rcases HR.out with ⟨e, _⟩ | ⟨g, off, c2, hv, hg, hc⟩
    ·rw [e] at hlt; simp at hlt
    ·injection hv with e1 _ _
     refine ⟨g, off, e1, hg, ?_⟩
     have := hc k hlt 0 _ rfl
     rwa [Nat.mul_one] at this
   subst hA1
   have c0 : wr.cell? ⟨g, off + k, none⟩ = some (.int .i64 S[k]!) := (hP.1.cell_far ⟨g, off + k, none⟩ hg (fun e => hov1 e.symm)).trans hcg
   have htk : S.take (k + 1) = S.take k ++ [S[k]!] := by rw [List.take_succ_eq_append_getElem hlt, getElem!_pos S k hlt]
   have hsn := Lib.hid (piecesC_snoc b S[k]! a (S.take k))
   rw [← htk] at hsn
   have hFb := lastC_bd b a (S.take k) (by omega)
   have hfl := flat_two hh (piecesC b a (S.take k))
   have hpl := piecesC_len b a (S.take k)
   rw [List.length_take] at hpl
   have HFk := Lib.hid (fun s hs1 hs2 hs3 => HF.out ((piecesC b a (S.take k)).flatMap h) s wr hP hs1 hs2 hs3 (by omega))
   have HP := Lib.hid hP
   clear hcg htk hfl hpl HR hP
   generalize lastC b a (S.take k) = F at *
   generalize S[k]! = c at *
   by_cases h1 : F < c
   ·have d1 : decide (F < c) = true := decide_eq_true h1
    by_cases h2 : c ≤ b
    ·have d2 : decide (c ≤ b) = true := decide_eq_true h2
     have HFk := Lib.hid (HFk.out ⟨F, c⟩ hFb.1 h1 h2)
     go_wp2_with fail
     refine HFk.out.mono ?_
     rintro e wn ⟨rfl, hPn⟩
     go_wp2
     go_roundw
     case rel =>
      refine ⟨k + 1, by omega, by go_num, by rw [hsn.out.2, if_pos ⟨h1, h2⟩], ?_⟩
      rw [hsn.out.1, if_pos ⟨h1, h2⟩, List.flatMap_append, show [(⟨F, c⟩ : Spn)].flatMap h = h ⟨F, c⟩ by simp]
      exact hPn
     case measure => simp [intOf]; omega
    ·have d2 : decide (c ≤ b) = false := decide_eq_false h2
     go_wp2
     go_roundw
     case rel => exact ⟨k + 1, by omega, by go_num, by rw [hsn.out.2, if_neg (fun h => h2 h.2)], by rw [hsn.out.1, if_neg (fun h => h2 h.2), List.append_nil]; exact HP.out⟩
     case measure => simp [intOf]; omega
   ·have d1 : decide (F < c) = false := decide_eq_false h1
    go_wp2
    go_roundw
    case rel => exact ⟨k + 1, by omega, by go_num, by rw [hsn.out.2, if_neg (fun h => h1 h.1)], by rw [hsn.out.1, if_neg (fun h => h1 h.1), List.append_nil]; exact HP.out⟩
    case measure => simp [intOf]; omega
  ·have hk' : k = S.length := by omega
   subst hk'
   rw [List.take_length] at hP
   go_wp2
   go_end0
   exact ⟨rfl, w2, HEND.out, by rw [← HSE.out]; exact hP⟩
end Go.Proofs.YtdafcipilknecaaGreatDoor

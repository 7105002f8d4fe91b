/- version.cutsOf and its closure put. -/
import Derived.Test.YtdafcipilknecaaGreatDoorGVs
import Derived.Test.YtdafcipilknecaaGreatDoorGVx
namespace Go.Proofs.YtdafcipilknecaaGreatDoor
set_option linter.unusedSimpArgs false
set_option linter.unusedVariables false
open Go.ChangeShapes Go.WideShapes Go.ChangeAt Go.RowKit
def lastO : Int → List Trn → Int
 | o, [] => o
 | _, x :: xs => lastO x.ty.off xs
theorem chainC_snoc (x : Trn) : ∀ (o : Int) (l : List Trn), chainC o (l ++ [x]) = chainC o l ++ [x.at_ + lastO o l, x.at_ + x.ty.off] ++ [-62135596800 + x.ty.off, 253402300800 + x.ty.off] ∧ lastO o (l ++ [x]) = x.ty.off
 | o, [] => ⟨rfl, rfl⟩
 | o, y :: ys => by
  obtain ⟨h1, h2⟩ := chainC_snoc x y.ty.off ys
  refine ⟨?_, h2⟩
  rw [List.cons_append, chainC, h1, chainC]
  simp [lastO]
theorem lastO_bd {B : Int} : ∀ {o : Int} {l : List Trn}, (-B < o ∧ o < B) → (∀ x ∈ l, -B < x.ty.off ∧ x.ty.off < B) → -B < lastO o l ∧ lastO o l < B
 | _, [], h, _ => h
 | _, y :: ys, _, h => lastO_bd (o := y.ty.off) (l := ys) (h y (by simp)) fun x hx => h x (by simp [hx])
def OutI (o : Nat) (w0 : World) (L : List Int) (w : World) : Prop :=
 w0.grownBy w (some o) ∧ o < w0.heap.size ∧ ∃ u, Boxed w o 51 u ∧ w.ownsRow w0.heap.size 3 1 u L.length (L.map (Value.int .i64))
theorem OutI.below {o : Nat} {w0 w w' : World} {L : List Int} (h : OutI o w0 L w) (hb : Below w.heap.size w w') : OutI o w0 L w' := by
 obtain ⟨h1, h2, u, h3, h4⟩ := h
 exact ⟨h1.trans (below_grown hb), h2, u, h3.kept (below_grown (row := none) hb) (by simp), own_on h4 hb⟩
theorem OutI.old {o B : Nat} {w0 w : World} {L : List Int} (h : OutI o w0 L w) (hB : B ≤ o) : Below B w0 w := grown_below h.1 hB (Nat.le_of_lt (Nat.lt_of_le_of_lt hB h.2.1))
theorem OutI.add {o : Nat} {w0 w wa w1 : World} {L : List Int} {x y : Int} {u v' : Value} (h1 : w0.grownBy w (some o)) (ho : o < w0.heap.size) (hbox : Boxed w o 51 u) (hrow : w.ownsRow w0.heap.size 3 1 u L.length (L.map (Value.int .i64))) (hA : Below w.heap.size w wa)
  (hown : w1.ownsRow w0.heap.size 3 1 v' (L.length + 2) (L.map (Value.int .i64) ++ [.int .i64 x, .int .i64 y])) (hgrow : wa.grownBy w1 u.ownBlock) : Boxed w1 o 51 u ∧ OutI o w0 (L ++ [x, y]) (w1.setCell ⟨o, 0, none⟩ v') := by
 have hne : some o ≠ u.ownBlock := hbox.not_row (by decide) hrow
 have hbA : Boxed wa o 51 u := hbox.kept (below_grown (row := none) hA) (by simp)
 have hb1 : Boxed w1 o 51 u := hbA.kept hgrow hne
 refine ⟨hb1, ((h1.trans (below_grown hA)).andThen hgrow fun j ej => ?_).trans (grownBy_setCell' w1 o v'), ho, v', hb1.set v', ?_⟩
 ·rcases hrow.2 with ⟨rfl, _⟩ | ⟨g, cap, cur, rfl, hg, _⟩
  ·simp [Value.ownBlock] at ej
  ·obtain rfl : g = j := by simpa [Value.ownBlock] using ej
   exact .inl hg
 ·have h2 := hown.kept (grownBy_setCell' w1 o v') (.inr (hb1.not_row (by decide) hown).symm)
  rw [List.length_append, List.map_append]
  exact h2
set_option maxHeartbeats 4000000 in
theorem cuts1_any (c : Int) (hc : -93600 < c ∧ c < 93600) (o : Nat) (w0 w : World) (L : List Int) (hlen : L.length ≤ 100000) (hP : OutI o w0 L w) :
  Calls Tryz.prog 85 #[.int .i64 c, .pointer (some ⟨o, 0, none⟩)] w fun e w' => e = .returned (.tuple #[]) ∧ OutI o w0 (L ++ [-62135596800 + c, 253402300800 + c]) w' := by
 have hw0 := hP.1.size
 obtain ⟨hg, ho, u, hbox, hown⟩ := hP
 have HADD := Lib.hid (fun wa w1 v' (hA : Below w.heap.size w wa) hown' (hgr : wa.grownBy w1 u.ownBlock) => OutI.add (x := -62135596800 + c) (y := 253402300800 + c) (v' := v') hg ho hbox hown hA hown' hgr)
 have HOWN := Lib.hid hown
 have hNS := noSpot_own hown
 have o0 := hbox.cell
 have ol := hbox.lt
 obtain ⟨i0, hi0, hz0, hz1, hz2⟩ := info_parts infoI
 clear hg ho hown hbox
 go_enter Tryz.func85, Tryz.ntmps85
 go_wp2_with (at_builtin; go_loud (refine wpList_append_own_at _ rfl _ _ 51 rfl w0.heap.size 3 i0 _ 1 8 Tryz.underlying51 hi0 hz0 hz1 hz2 rfl (by decide) u _ _ rfl (HOWN.out.alloc _) ⟨_, 0, none⟩ 2 2 [.int .i64 (-62135596800 + c), .int .i64 (253402300800 + c)] rfl rfl (new_row_at (by simp) _) (two_one _ _) (by simp only [maxLen]; omega) (by omega) (by simp; omega) ?_); intro v' wz hown' hgr _ _; obtain ⟨hbz, hOut⟩ := HADD.out _ wz v' ((Below.refl _ _).alloc (Nat.le_refl _) _) hown' hgr; obtain ⟨g', cap', rfl⟩ := ownsRow_succ hown'; have oz := hbz.cell; have of := hbz.frozen)
 go_end0
 exact ⟨rfl, hOut⟩
def CutEnd (z : Zn) (a b : Int) (w : World) (e : Ending) (w' : World) : Prop := ∃ v, e = .returned (.tuple #[v, .int .i64 0]) ∧ w'.ownsRow w.heap.size 3 1 v (z.cutsF a b).length ((z.cutsF a b).map (Value.int .i64)) ∧ Below w.heap.size w w'
set_option maxRecDepth 100000 in
set_option maxHeartbeats 1000000 in
theorem cutsOf_any (z : Zn) (vT vR : Value) (a b : Int) (w : World) (hm : HasMax w) (hT : Rd Trn.cells 4 w vT z.table) (hR : Rd Rule.cells 11 w vR z.tail) (hfs : z.form.size < 4294967281) (hll : z.tail.length ≤ 12) (hv : z.valid = true) (h1 : -62135596800 ≤ a) (hab : a < b) (h2 : b ≤ 253402300800) (hc : (z.betF (cutA a) (cutB b)).length ≤ 1000) :
  Calls Tryz.prog 54 #[z.v vT vR, .agg #[.int .i64 a, .int .i64 b]] w (CutEnd z a b w) := by
 have hAB := cutA_le hab h1 h2
 have hA1 : -62135596800 ≤ cutA a := by unfold cutA; omega
 have hA2 : cutA a < 253402300800 := by unfold cutA; omega
 have hB1 : cutB b ≤ 253402300800 := by unfold cutB; omega
 have hbv : z.betV (cutA a) (cutB b) = (z.betF (cutA a) (cutB b), 0) := betV_of hv ⟨hA1, hAB, hB1⟩ hc
 have HBT := Lib.hid (fun W (hb : Below w.heap.size w W) => Between_own z vT vR (cutA a) (cutB b) W (hm.on hb) (hT.on hb) (hR.on hb) hfs (.inl hll))
 have HAT := Lib.hid (fun t (ht : -62135596800 ≤ t ∧ t < 253402300800) W (hb : Below w.heap.size w W) => show Calls Tryz.prog 50 #[z.v vT vR, .int .i64 t] W fun e w' => e = .returned (atR (z.typF t, 0)) ∧ Below W.heap.size W w' from by
  have h := zAt_any z vT vR t W (hm.on hb) (hT.on hb) (hR.on hb) hfs (.inl hll)
  rwa [show z.atV t = (z.typF t, 0) from by unfold Zn.atV inT; rw [if_neg (by simp [hv]), if_neg (by simp; omega)]] at h)
 have hO1 := off_bd hv (cutA a)
 have hO2 := off_bd hv (cutA a - 1)
 have HBM := Lib.hid (fun x (hx : x ∈ z.betF (cutA a) (cutB b)) => T_ty hv x (List.mem_filter.1 hx).1)
 have HBA := Lib.hid (show ∀ x ∈ z.betF (cutA a) (cutB b), cutA a ≤ x.at_ ∧ x.at_ < cutB b from fun x hx => by simpa using (List.mem_filter.1 hx).2)
 have HCF := Lib.hid (show z.cutsF a b = [-62135596800 + (if -62135596800 < cutA a then (z.typF (cutA a - 1)).off else (z.typF (cutA a)).off), 253402300800 + (if -62135596800 < cutA a then (z.typF (cutA a - 1)).off else (z.typF (cutA a)).off), -62135596800 + (z.typF (cutA a)).off, 253402300800 + (z.typF (cutA a)).off] ++ chainC (if -62135596800 < cutA a then (z.typF (cutA a - 1)).off else (z.typF (cutA a)).off) (z.betF (cutA a) (cutB b)) from rfl)
 obtain ⟨AT, cT, rfl⟩ := rd_vf hT
 obtain ⟨AR, cR, rfl⟩ := rd_vf hR
 clear hT hR hm hfs
 unfold BetOwn at HBT
 rw [hbv] at HBT
 dsimp only at HBT
 unfold atR Typ.val at HAT
 dsimp only at HAT
 unfold Zn.offF at hO1 hO2
 unfold CutEnd
 rw [HCF.out]
 obtain ⟨c0, hc0⟩ : ∃ c0, c0 = (if -62135596800 < cutA a then (z.typF (cutA a - 1)).off else (z.typF (cutA a)).off) := ⟨_, rfl⟩
 rw [← hc0]
 have HC0 := Lib.hid hc0
 have hc0b : -93600 < c0 ∧ c0 < 93600 := by
  rw [hc0]
  have := off_bd hv (cutA a)
  have := off_bd hv (cutA a - 1)
  unfold Zn.offF at *
  split <;> assumption
 clear hc0
 have b0 := (Blk.new w #[.string z.nm, .int .i64 z.first.off, .int .i64 z.first.sv, .string z.first.nm, .slice AT z.table.length cT, .slice AR z.tail.length cR, .int .i64 z.off, .string z.form, .int .i64 z.year] 48).alloc (.cells #[.int .i64 a, .int .i64 b] 35)
 have b1 := Blk.new (w.alloc (.cells #[.string z.nm, .int .i64 z.first.off, .int .i64 z.first.sv, .string z.first.nm, .slice AT z.table.length cT, .slice AR z.tail.length cR, .int .i64 z.off, .string z.form, .int .i64 z.year] 48)) #[.int .i64 a, .int .i64 b] 35
 simp only [World.size_alloc] at b1
 have hB2 : Below w.heap.size w ((w.alloc (.cells #[.string z.nm, .int .i64 z.first.off, .int .i64 z.first.sv, .string z.first.nm, .slice AT z.table.length cT, .slice AR z.tail.length cR, .int .i64 z.off, .string z.form, .int .i64 z.year] 48)).alloc (.cells #[.int .i64 a, .int .i64 b] 35)) := ((Below.refl _ _).alloc (Nat.le_refl _) _).alloc (by simp) _
 unfold Zn.v at HBT HAT ⊢
 have dA : wrap64 (a - 187200) = a - 187200 := by unfold wrap64; omega
 have dB : wrap64 (b + 187200) = b + 187200 := by unfold wrap64; omega
 clear hbv HCF
 have HT0 := Lib.hid (fun W hb => HAT.out (cutA a) ⟨hA1, hA2⟩ W hb)
 have HT1 := Lib.hid (fun (h : -62135596800 < cutA a) W hb => HAT.out (cutA a - 1) ⟨by omega, by omega⟩ W hb)
 clear HAT
 generalize hX : z.typF (cutA a) = X at *
 generalize hY : z.typF (cutA a - 1) = Y at *
 generalize hL : z.betF (cutA a) (cutB b) = L at *
 clear hX hY hL
 generalize hA : cutA a = A at *
 generalize hB : cutB b = B at *
 have dA2 : max (-62135596800) (a - 187200) = A := hA
 have dB2 : min 253402300800 (b + 187200) = B := hB
 clear hA hB
 have b1 := b1.alloc (.cells #[.int .i64 A, .int .i64 B] 35)
 have b0 := b0.alloc (.cells #[.int .i64 A, .int .i64 B] 35)
 have b2 := Blk.new ((w.alloc (.cells #[.string z.nm, .int .i64 z.first.off, .int .i64 z.first.sv, .string z.first.nm, .slice AT z.table.length cT, .slice AR z.tail.length cR, .int .i64 z.off, .string z.form, .int .i64 z.year] 48)).alloc (.cells #[.int .i64 a, .int .i64 b] 35)) #[.int .i64 A, .int .i64 B] 35
 simp only [World.size_alloc] at b2
 have hB3 : Below w.heap.size w (((w.alloc (.cells #[.string z.nm, .int .i64 z.first.off, .int .i64 z.first.sv, .string z.first.nm, .slice AT z.table.length cT, .slice AR z.tail.length cR, .int .i64 z.off, .string z.form, .int .i64 z.year] 48)).alloc (.cells #[.int .i64 a, .int .i64 b] 35)).alloc (.cells #[.int .i64 A, .int .i64 B] 35)) := hB2.alloc hB2.size _
 go_enter Tryz.func54, Tryz.ntmps54
 go_wp2_with fail
 generalize (((w.alloc (.cells #[.string z.nm, .int .i64 z.first.off, .int .i64 z.first.sv, .string z.first.nm, .slice AT z.table.length cT, .slice AR z.tail.length cR, .int .i64 z.off, .string z.form, .int .i64 z.year] 48)).alloc (.cells #[.int .i64 a, .int .i64 b] 35)).alloc (.cells #[.int .i64 A, .int .i64 B] 35)) = W at *
 have hw : w.heap.size ≤ W.heap.size := hB3.size
 refine (HBT.out W hB3).mono ?_
 rintro e w5 ⟨v5, rfl, hr5, hb5, hns5⟩
 clear HBT dA dB dA2 dB2
 have hR5 := rd_of_own trn_len hr5 rfl
 have hlo5 : ∀ r, v5.ownBlock = some r → W.heap.size ≤ r ∧ r < w5.heap.size := own_in hr5
 obtain ⟨A5, c5, rfl⟩ := rd_vf hR5
 have HR5 := Lib.hid hR5
 have HLO := Lib.hid hlo5
 clear hR5 hlo5 hr5
 have sz5 : W.heap.size ≤ w5.heap.size := hb5.size
 have bz := (b0.below hb5 b0.lt).alloc (.cells #[.slice none 0 0] 51)
 have bw := (b2.below hb5 b2.lt).alloc (.cells #[.slice none 0 0] 51)
 have bo := Boxed.new w5 51 (.slice none 0 0)
 have hb6 : Below W.heap.size W (w5.alloc (.cells #[.slice none 0 0] 51)) := hb5.alloc hb5.size _
 have h56 : Below w5.heap.size w5 (w5.alloc (.cells #[.slice none 0 0] 51)) := alloc_below' w5 _
 have sz6 : (w5.alloc (.cells #[.slice none 0 0] 51)).heap.size = w5.heap.size + 1 := by simp
 have Lz := bz.lt
 have z0 := blk_cl bz 0 _ rfl
 have z1 := blk_cl bz 1 _ rfl
 have z2 := blk_cl bz 2 _ rfl
 have z3 := blk_cl bz 3 _ rfl
 have z4 := blk_cl bz 4 _ rfl
 have z5 := blk_cl bz 5 _ rfl
 have z6 := blk_cl bz 6 _ rfl
 have z7 := blk_cl bz 7 _ rfl
 have z8 := blk_cl bz 8 _ rfl
 have Lw := bw.lt
 have w0c := blk_cl bw 0 _ rfl
 have w1c := blk_cl bw 1 _ rfl
 go_wp2_with fail
 generalize w5.alloc (.cells #[.slice none 0 0] 51) = w6 at *
 refine (HT0.out w6 (hB3.trans (hb6.mono hw))).mono ?_
 rintro e w7 ⟨rfl, hb7⟩
 clear HT0 Lz z0 z1 z2 z3 z4 z5 z6 z7 z8 Lw w0c w1c
 have hs67 := hb7.size
 have bx := Blk.new w7 #[.int .i64 X.off, .int .i64 X.sv, .string X.nm] 44
 have bz := (bz.below hb7 bz.lt).alloc (.cells #[.int .i64 X.off, .int .i64 X.sv, .string X.nm] 44)
 have bw := (bw.below hb7 bw.lt).alloc (.cells #[.int .i64 X.off, .int .i64 X.sv, .string X.nm] 44)
 have h67 : Below w6.heap.size w6 (w7.alloc (.cells #[.int .i64 X.off, .int .i64 X.sv, .string X.nm] 44)) := hb7.alloc hb7.size _
 have x0 := blk_cl bx 0 _ rfl
 have x1 := blk_cl bx 1 _ rfl
 have x2 := blk_cl bx 2 _ rfl
 have Lx := bx.lt
 have w0c := blk_cl bw 0 _ rfl
 have w1c := blk_cl bw 1 _ rfl
 have Lw := bw.lt
 by_cases hA : -62135596800 < A
 ·have e0 : c0 = Y.off := by rw [HC0.out]; exact if_pos hA
  subst e0
  have dA : decide (-62135596800 < A) = true := decide_eq_true hA
  have dA1 : wrap64 (A - 1) = A - 1 := by unfold wrap64; omega
  have HT1 := Lib.hid (fun W hb => HT1.out hA W hb)
  have Lz := bz.lt
  have z0 := blk_cl bz 0 _ rfl
  have z1 := blk_cl bz 1 _ rfl
  have z2 := blk_cl bz 2 _ rfl
  have z3 := blk_cl bz 3 _ rfl
  have z4 := blk_cl bz 4 _ rfl
  have z5 := blk_cl bz 5 _ rfl
  have z6 := blk_cl bz 6 _ rfl
  have z7 := blk_cl bz 7 _ rfl
  have z8 := blk_cl bz 8 _ rfl
  go_wp2_with fail
  generalize w7.alloc (.cells #[.int .i64 X.off, .int .i64 X.sv, .string X.nm] 44) = w8 at *
  refine (HT1.out w8 (hB3.trans ((hb6.trans (h67.mono hb6.size)).mono hw))).mono ?_
  rintro e w9 ⟨rfl, hb9⟩
  clear HT1 Lz z0 z1 z2 z3 z4 z5 z6 z7 z8 Lw w0c w1c x0 x1 x2 Lx
  have by_ := Blk.new w9 #[.int .i64 Y.off, .int .i64 Y.sv, .string Y.nm] 44
  have bx := (bx.below hb9 bx.lt).alloc (.cells #[.int .i64 Y.off, .int .i64 Y.sv, .string Y.nm] 44)
  have y0 := blk_cl by_ 0 _ rfl
  have y1 := blk_cl by_ 1 _ rfl
  have y2 := blk_cl by_ 2 _ rfl
  have Ly := by_.lt
  have x0 := blk_cl bx 0 _ rfl
  have x1 := blk_cl bx 1 _ rfl
  have x2 := blk_cl bx 2 _ rfl
  have Lx := bx.lt
  have h69 : Below w6.heap.size w6 (w9.alloc (.cells #[.int .i64 Y.off, .int .i64 Y.sv, .string Y.nm] 44)) := (h67.trans (hb9.mono h67.size)).alloc (h67.trans (hb9.mono h67.size)).size _
  go_wp2_with fail
  clear y0 y1 y2 Ly x0 x1 x2 Lx
  have h6x := h69
  clear h69
  have h59 : Below w5.heap.size w5 (w9.alloc (.cells #[.int .i64 Y.off, .int .i64 Y.sv, .string Y.nm] 44)) := h56.trans (h6x.mono (by omega))
  have hbo : Boxed (w9.alloc (.cells #[.int .i64 Y.off, .int .i64 Y.sv, .string Y.nm] 44)) w5.heap.size 51 (.slice none 0 0) := bo.kept (below_grown (row := none) h6x) (by simp)
  have hWx := hb6.trans (h6x.mono hb6.size)
  have hxl := bx.lt
  clear hb5 hb6 h6x h67 bo by_ bw bz b0 b1 b2 hb7
  generalize w9.alloc (.cells #[.int .i64 Y.off, .int .i64 Y.sv, .string Y.nm] 44) = W9 at *
  have hP0 : OutI w5.heap.size W9 [] W9 := ⟨⟨rfl, rfl, rfl, Nat.le_refl _, fun _ _ _ => rfl⟩, hbo.lt, _, hbo, World.ownsRow_nil _ _ _ _⟩
  refine (cuts1_any Y.off hO2 w5.heap.size W9 W9 [] (by simp) hP0).mono ?_
  rintro e w10 ⟨rfl, hP1⟩
  have bx1 := bx.kept hP1.1 (by intro e; injection e with e; omega)
  have x0 := blk_cl bx1 0 _ rfl
  have x1 := blk_cl bx1 1 _ rfl
  have x2 := blk_cl bx1 2 _ rfl
  have Lx := bx1.lt
  have HP1 := Lib.hid hP1
  clear hP1 hP0 bx1
  go_wp2_with fail
  refine (cuts1_any X.off hO1 w5.heap.size W9 w10 _ (by simp) HP1.out).mono ?_
  rintro e w11 ⟨rfl, hP2⟩
  have HP2 := Lib.hid hP2
  clear hP2 x0 x1 x2 Lx HP1
  go_wp2_with fail
  have hL0 : ([] ++ [-62135596800 + Y.off, 253402300800 + Y.off] ++ [-62135596800 + X.off, 253402300800 + X.off] : List Int) = [-62135596800 + Y.off, 253402300800 + Y.off, -62135596800 + X.off, 253402300800 + X.off] := rfl
  rw [hL0] at HP2
  clear hL0
  go_loopw [12, 69] (fun v12 v69 wr => ∃ j : Nat, j ≤ L.length ∧ v69 = .int .i64 j ∧ v12 = .int .i64 (lastO Y.off (L.take j)) ∧ OutI w5.heap.size W9 ([-62135596800 + Y.off, 253402300800 + Y.off, -62135596800 + X.off, 253402300800 + X.off] ++ chainC Y.off (L.take j)) wr) (fun _ v69 _ => L.length - (intOf v69).toNat)
  case atStart => exact ⟨0, Nat.zero_le _, rfl, rfl, by simpa [chainC] using HP2.out⟩
  case round =>
   obtain ⟨j, hj, rfl, rfl, hP⟩ := hrel
   by_cases hlt : j < L.length
   ·obtain ⟨g, off, hA5, hg, hcg⟩ : ∃ g off, A5 = some ⟨g, off, none⟩ ∧ g < w5.heap.size ∧ ∀ i u, (Trn.cells L[j]!)[i]? = some u → w5.cell? ⟨g, off + j * 4 + i, none⟩ = some u := by
     rcases HR5.out with ⟨e, _⟩ | ⟨g, off, c', hv', hg, hc'⟩
     ·rw [e] at hlt; simp at hlt
     ·injection hv' with e1 _ _
      exact ⟨g, off, e1, hg, fun i u hu => hc' j hlt i u hu⟩
    subst hA5
    have hcw : ∀ i u, (Trn.cells L[j]!)[i]? = some u → wr.cell? ⟨g, off + j * 4 + i, none⟩ = some u := fun i u hu => (World.cell?_of_block (((hP.old (B := w5.heap.size) (Nat.le_refl _)).block g hg).trans (h59.block g hg))).trans (hcg i u hu)
    have e0 := hcw 0 _ rfl
    have e1 := hcw 1 _ rfl
    have e2 := hcw 2 _ rfl
    have e3 := hcw 3 _ rfl
    rw [Nat.add_zero] at e0
    have hsW := hP.1.size
    have hs59 := h59.size
    have hgw : g < wr.heap.size := by omega
    have hmem : L[j]! ∈ L := by rw [getElem!_pos L j hlt]; exact List.getElem_mem hlt
    have hxb := HBM.out _ hmem
    have hxa := HBA.out _ hmem
    have hF := lastO_bd (B := 93600) (o := Y.off) (l := L.take j) hO2 (fun x hx => HBM.out x (List.mem_of_mem_take hx))
    have htk : L.take (j + 1) = L.take j ++ [L[j]!] := by rw [List.take_succ_eq_append_getElem hlt, getElem!_pos L j hlt]
    have HSN := Lib.hid (chainC_snoc L[j]! Y.off (L.take j))
    rw [← htk] at HSN
    have hln : ([-62135596800 + Y.off, 253402300800 + Y.off, -62135596800 + X.off, 253402300800 + X.off] ++ chainC Y.off (L.take j)).length ≤ 5000 := by
     rw [List.length_append, chainC_len, List.length_take]
     simp only [List.length_cons, List.length_nil]
     omega
    have HLP := Lib.hid hP
    obtain ⟨hg1, ho1, u, hbx, hown⟩ := hP
    have HADD := Lib.hid (fun wa w1 v' (hA : Below wr.heap.size wr wa) hown' (hgr : wa.grownBy w1 u.ownBlock) => OutI.add (x := (L[j]!).at_ + lastO Y.off (L.take j)) (y := (L[j]!).at_ + (L[j]!).ty.off) (v' := v') hg1 ho1 hbx hown hA hown' hgr)
    have HOWN := Lib.hid hown
    have hNS := noSpot_own hown
    have hlo := own_lt hown
    have o0 := hbx.cell
    have ol := hbx.lt
    have bt := (Blk.new wr (Trn.cells L[j]!).toArray 79)
    unfold Trn.cells at bt
    clear hg1 ho1 hbx hown hcg hcw htk hmem
    generalize hF2 : lastO Y.off (L.take j) = F at *
    generalize hx2 : L[j]! = x at *
    clear hF2 hx2
    obtain ⟨xa, xt⟩ := x
    dsimp only at e0 e1 e2 e3 HSN HADD hxb hxa bt
    obtain ⟨i0, hi0, hz0, hz1, hz2⟩ := info_parts infoI
    go_wp2_with (at_builtin; go_loud (refine wpList_append_own_at _ rfl _ _ 51 rfl W9.heap.size 3 i0 _ 1 8 Tryz.underlying51 hi0 hz0 hz1 hz2 rfl (by decide) u _ _ rfl ((HOWN.out.alloc _).alloc _) ⟨_, 0, none⟩ 2 2 [.int .i64 (xa + F), .int .i64 (xa + xt.off)] rfl rfl (new_row_at (by simp) _) (two_one _ _) (by simp only [maxLen]; omega) (by omega) (by simp; omega) ?_); intro v' wz hown' hgr _ _; obtain ⟨hbz, hOut⟩ := HADD.out _ wz v' (((Below.refl _ _).alloc (Nat.le_refl _) _).alloc (by simp) _) hown' hgr; have bt2 := ((bt.alloc _).kept hgr (fun e => by have := hlo _ e.symm; omega)); have Lt := bt2.lt; have t1 := blk_cl bt2 1 _ rfl; have t2 := blk_cl bt2 2 _ rfl; have t3 := blk_cl bt2 3 _ rfl; obtain ⟨g', cap', rfl⟩ := ownsRow_succ hown'; have oz := hbz.cell; have of := hbz.frozen)
    refine (cuts1_any xt.off hxb w5.heap.size W9 _ _ (by rw [List.length_append]; simp only [List.length_cons, List.length_nil]; omega) hOut).mono ?_
    rintro e wn ⟨rfl, hPn⟩
    go_wp2
    go_roundw
    case rel =>
     refine ⟨j + 1, by omega, by go_num, by rw [HSN.out.2], ?_⟩
     rw [HSN.out.1, ← List.append_assoc, ← List.append_assoc]
     exact hPn
    case measure => simp [intOf]; omega
   ·have hj' : j = L.length := by omega
    subst hj'
    rw [List.take_length] at hP
    obtain ⟨hg1, ho1, u, hbx, hown⟩ := hP
    have o0 := hbx.cell
    have ol := hbx.lt
    have hbE : Below W.heap.size W wr := hWx.trans ((grown_below hg1 (Nat.le_refl _) (by omega)).mono (by omega))
    go_wp2
    go_ret2
    exact ⟨u, rfl, own_lower hown (by omega), hB3.trans (hbE.mono hw)⟩
 ·have e0 : c0 = X.off := by rw [HC0.out]; exact if_neg hA
  subst e0
  have dA : decide (-62135596800 < A) = false := decide_eq_false hA
  go_wp2_with fail
  have by_ := bx
  have h6x := h67
  clear x0 x1 x2 Lx Lw w0c w1c HT1
  have h59 : Below w5.heap.size w5 (w7.alloc (.cells #[.int .i64 X.off, .int .i64 X.sv, .string X.nm] 44)) := h56.trans (h6x.mono (by omega))
  have hbo : Boxed (w7.alloc (.cells #[.int .i64 X.off, .int .i64 X.sv, .string X.nm] 44)) w5.heap.size 51 (.slice none 0 0) := bo.kept (below_grown (row := none) h6x) (by simp)
  have hWx := hb6.trans (h6x.mono hb6.size)
  have hxl := bx.lt
  clear hb5 hb6 h6x h67 bo by_ bw bz b0 b1 b2 hb7
  generalize w7.alloc (.cells #[.int .i64 X.off, .int .i64 X.sv, .string X.nm] 44) = W9 at *
  have hP0 : OutI w5.heap.size W9 [] W9 := ⟨⟨rfl, rfl, rfl, Nat.le_refl _, fun _ _ _ => rfl⟩, hbo.lt, _, hbo, World.ownsRow_nil _ _ _ _⟩
  refine (cuts1_any X.off hO1 w5.heap.size W9 W9 [] (by simp) hP0).mono ?_
  rintro e w10 ⟨rfl, hP1⟩
  have bx1 := bx.kept hP1.1 (by intro e; injection e with e; omega)
  have x0 := blk_cl bx1 0 _ rfl
  have x1 := blk_cl bx1 1 _ rfl
  have x2 := blk_cl bx1 2 _ rfl
  have Lx := bx1.lt
  have HP1 := Lib.hid hP1
  clear hP1 hP0 bx1
  go_wp2_with fail
  refine (cuts1_any X.off hO1 w5.heap.size W9 w10 _ (by simp) HP1.out).mono ?_
  rintro e w11 ⟨rfl, hP2⟩
  have HP2 := Lib.hid hP2
  clear hP2 x0 x1 x2 Lx HP1
  go_wp2_with fail
  have hL0 : ([] ++ [-62135596800 + X.off, 253402300800 + X.off] ++ [-62135596800 + X.off, 253402300800 + X.off] : List Int) = [-62135596800 + X.off, 253402300800 + X.off, -62135596800 + X.off, 253402300800 + X.off] := rfl
  rw [hL0] at HP2
  clear hL0
  go_loopw [12, 69] (fun v12 v69 wr => ∃ j : Nat, j ≤ L.length ∧ v69 = .int .i64 j ∧ v12 = .int .i64 (lastO X.off (L.take j)) ∧ OutI w5.heap.size W9 ([-62135596800 + X.off, 253402300800 + X.off, -62135596800 + X.off, 253402300800 + X.off] ++ chainC X.off (L.take j)) wr) (fun _ v69 _ => L.length - (intOf v69).toNat)
  case atStart => exact ⟨0, Nat.zero_le _, rfl, rfl, by simpa [chainC] using HP2.out⟩
  case round =>
   obtain ⟨j, hj, rfl, rfl, hP⟩ := hrel
   by_cases hlt : j < L.length
   ·obtain ⟨g, off, hA5, hg, hcg⟩ : ∃ g off, A5 = some ⟨g, off, none⟩ ∧ g < w5.heap.size ∧ ∀ i u, (Trn.cells L[j]!)[i]? = some u → w5.cell? ⟨g, off + j * 4 + i, none⟩ = some u := by
     rcases HR5.out with ⟨e, _⟩ | ⟨g, off, c', hv', hg, hc'⟩
     ·rw [e] at hlt; simp at hlt
     ·injection hv' with e1 _ _
      exact ⟨g, off, e1, hg, fun i u hu => hc' j hlt i u hu⟩
    subst hA5
    have hcw : ∀ i u, (Trn.cells L[j]!)[i]? = some u → wr.cell? ⟨g, off + j * 4 + i, none⟩ = some u := fun i u hu => (World.cell?_of_block (((hP.old (B := w5.heap.size) (Nat.le_refl _)).block g hg).trans (h59.block g hg))).trans (hcg i u hu)
    have e0 := hcw 0 _ rfl
    have e1 := hcw 1 _ rfl
    have e2 := hcw 2 _ rfl
    have e3 := hcw 3 _ rfl
    rw [Nat.add_zero] at e0
    have hsW := hP.1.size
    have hs59 := h59.size
    have hgw : g < wr.heap.size := by omega
    have hmem : L[j]! ∈ L := by rw [getElem!_pos L j hlt]; exact List.getElem_mem hlt
    have hxb := HBM.out _ hmem
    have hxa := HBA.out _ hmem
    have hF := lastO_bd (B := 93600) (o := X.off) (l := L.take j) hO1 (fun x hx => HBM.out x (List.mem_of_mem_take hx))
    have htk : L.take (j + 1) = L.take j ++ [L[j]!] := by rw [List.take_succ_eq_append_getElem hlt, getElem!_pos L j hlt]
    have HSN := Lib.hid (chainC_snoc L[j]! X.off (L.take j))
    rw [← htk] at HSN
    have hln : ([-62135596800 + X.off, 253402300800 + X.off, -62135596800 + X.off, 253402300800 + X.off] ++ chainC X.off (L.take j)).length ≤ 5000 := by
     rw [List.length_append, chainC_len, List.length_take]
     simp only [List.length_cons, List.length_nil]
     omega
    have HLP := Lib.hid hP
    obtain ⟨hg1, ho1, u, hbx, hown⟩ := hP
    have HADD := Lib.hid (fun wa w1 v' (hA : Below wr.heap.size wr wa) hown' (hgr : wa.grownBy w1 u.ownBlock) => OutI.add (x := (L[j]!).at_ + lastO X.off (L.take j)) (y := (L[j]!).at_ + (L[j]!).ty.off) (v' := v') hg1 ho1 hbx hown hA hown' hgr)
    have HOWN := Lib.hid hown
    have hNS := noSpot_own hown
    have hlo := own_lt hown
    have o0 := hbx.cell
    have ol := hbx.lt
    have bt := (Blk.new wr (Trn.cells L[j]!).toArray 79)
    unfold Trn.cells at bt
    clear hg1 ho1 hbx hown hcg hcw htk hmem
    generalize hF2 : lastO X.off (L.take j) = F at *
    generalize hx2 : L[j]! = x at *
    clear hF2 hx2
    obtain ⟨xa, xt⟩ := x
    dsimp only at e0 e1 e2 e3 HSN HADD hxb hxa bt
    obtain ⟨i0, hi0, hz0, hz1, hz2⟩ := info_parts infoI
    go_wp2_with (at_builtin; go_loud (refine wpList_append_own_at _ rfl _ _ 51 rfl W9.heap.size 3 i0 _ 1 8 Tryz.underlying51 hi0 hz0 hz1 hz2 rfl (by decide) u _ _ rfl ((HOWN.out.alloc _).alloc _) ⟨_, 0, none⟩ 2 2 [.int .i64 (xa + F), .int .i64 (xa + xt.off)] rfl rfl (new_row_at (by simp) _) (two_one _ _) (by simp only [maxLen]; omega) (by omega) (by simp; omega) ?_); intro v' wz hown' hgr _ _; obtain ⟨hbz, hOut⟩ := HADD.out _ wz v' (((Below.refl _ _).alloc (Nat.le_refl _) _).alloc (by simp) _) hown' hgr; have bt2 := ((bt.alloc _).kept hgr (fun e => by have := hlo _ e.symm; omega)); have Lt := bt2.lt; have t1 := blk_cl bt2 1 _ rfl; have t2 := blk_cl bt2 2 _ rfl; have t3 := blk_cl bt2 3 _ rfl; obtain ⟨g', cap', rfl⟩ := ownsRow_succ hown'; have oz := hbz.cell; have of := hbz.frozen)
    refine (cuts1_any xt.off hxb w5.heap.size W9 _ _ (by rw [List.length_append]; simp only [List.length_cons, List.length_nil]; omega) hOut).mono ?_
    rintro e wn ⟨rfl, hPn⟩
    go_wp2
    go_roundw
    case rel =>
     refine ⟨j + 1, by omega, by go_num, by rw [HSN.out.2], ?_⟩
     rw [HSN.out.1, ← List.append_assoc, ← List.append_assoc]
     exact hPn
    case measure => simp [intOf]; omega
   ·have hj' : j = L.length := by omega
    subst hj'
    rw [List.take_length] at hP
    obtain ⟨hg1, ho1, u, hbx, hown⟩ := hP
    have o0 := hbx.cell
    have ol := hbx.lt
    have hbE : Below W.heap.size W wr := hWx.trans ((grown_below hg1 (Nat.le_refl _) (by omega)).mono (by omega))
    go_wp2
    go_ret2
    exact ⟨u, rfl, own_lower hown (by omega), hB3.trans (hbE.mono hw)⟩
end Go.Proofs.YtdafcipilknecaaGreatDoor

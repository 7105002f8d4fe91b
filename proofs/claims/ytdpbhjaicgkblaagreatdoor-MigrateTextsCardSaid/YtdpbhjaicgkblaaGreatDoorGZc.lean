/- Joined by merge.py: Bel, ZoneP4, ZoneW3. -/
import Derived.Test.YtdpbhjaicgkblaaGreatDoorJCivil
import Derived.Test.YtdpbhjaicgkblaaGreatDoorGZoneP
import Derived.Test.YtdpbhjaicgkblaaGreatDoorGZw
import Derived.Deep.QuietTactic
import Derived.BigQuiet
import Derived.Deep.RegionWith
import Derived.Deep.RegionHeld3
import Derived.Laws.StructEq
import Derived.Shelf.SlicesE.Equal
/- A region that draws its order, whose operations only read, and whose callees make memory and turn nothing that was there. -/
namespace Go.Proofs.YtdpbhjaicgkblaaGreatDoor
set_option linter.unusedSimpArgs false
set_option linter.unusedVariables false
open Go.RowKit
structure Bel (B : Nat) (w : World) where
 w1 : World
 h : Below B w w1
instance (B : Nat) (w : World) : Inhabited (Bel B w) := ⟨⟨w, Below.refl B w⟩⟩
theorem wp_region_bel {P : Program} {id : Nat} {Q : Exit → Act → World → Prop} {a : Act} {w : World} {l : List Oper} (hm : P.follows .mixedOrders = true) (hB : Region.lexB .any l.toArray = true)
  (h : wpQuiet P l.toArray (fun w' => ∃ p : Bel w.heap.size w, w' = p.w1) (fun a' => ∀ w', (∃ p : Bel w.heap.size w, w' = p.w1) → Q .normal a' w') l a) : (Code.region id l.toArray true).wp P Q a w :=
 wp_region_quiet (C := fun w' => ∃ p : Bel w.heap.size w, w' = p.w1) hm hB ⟨⟨w.drewN 1, below_drewN (Below.refl _ _) 1⟩, rfl⟩ (by simpa using h)
theorem bel_of {P : Program} {f : FuncId} {args : Array Value} {B : Nat} {w : World} {p : Bel B w} {v : Value} (hB : B ≤ w.heap.size)
  (h : Calls P f args p.w1 fun e w' => e = .returned v ∧ Below p.w1.heap.size p.w1 w') : Calls P f args p.w1 fun e w'' => e = .returned v ∧ ∃ q : Bel B w, w'' = q.w1 :=
 h.mono fun _ w'' ⟨he, hb⟩ => ⟨he, ⟨w'', p.h.trans (hb.mono (Nat.le_trans hB p.h.size))⟩, rfl⟩
theorem bel_cell {B : Nat} {w : World} (p : Bel B w) : ∀ b o, b < B → p.w1.cell? ⟨b, o, none⟩ = w.cell? ⟨b, o, none⟩ := (bcell p.h).1
end Go.Proofs.YtdpbhjaicgkblaaGreatDoor
/- The next transition, found in the table or in windows of the tail. No program in sight. -/
namespace Go.Proofs.YtdpbhjaicgkblaaGreatDoor
set_option linter.unusedSimpArgs false
set_option linter.unusedVariables false
open Go.Sort
def Zn.tailL (z : Zn) (f t : Int) : List Trn := if z.tail = [] ∨ min t 9999 < max f z.year then [] else (z.winW (max f z.year) (min t 9999)).map Prod.snd
theorem tailL_of {z : Zn} (hn : z.tail ≠ []) {y : Int} (h1 : z.year ≤ y) (h2 : y ≤ 9999) : z.tailL y (y + 8) = (z.winW y (min (y + 8) 9999)).map Prod.snd := by
 unfold Zn.tailL
 rw [show max y z.year = y by omega]
 exact if_neg (by rintro (e | e); exact hn e; omega)
end Go.Proofs.YtdpbhjaicgkblaaGreatDoor
/- zone.tail. -/
namespace Go.Proofs.YtdpbhjaicgkblaaGreatDoor
set_option linter.unusedSimpArgs false
set_option linter.unusedVariables false
open Go.ChangeShapes Go.WideShapes Go.ChangeAt Go.RowKit
theorem neTy (a b : Typ) (w : World) : (binOp .neq 61 (.agg #[.int .i64 a.off, .int .i64 a.sv, .string a.nm]) (.agg #[.int .i64 b.off, .int .i64 b.sv, .string b.nm])).run Tryz.prog w = .ok (.bool (!decide (a = b))) w := by
 have u3 := Tryz.underlying3
 have u9 := Tryz.underlying9
 have hS : Tryz.prog.underlying 61 = some (.struct (Tryz.prog.fieldsOf 61)) := by kernel_rfl
 have hp : Tryz.prog.stoodInHeld 61 = false := by kernel_rfl
 have a3 : ∀ w, (isAgg 3).run Tryz.prog w = .ok false w := fun w => by kernel_rfl
 have z3 : ∀ w, (Go.sizeOf 3).run Tryz.prog w = .ok 1 w := fun w => by kernel_rfl
 have a9 : ∀ w, (isAgg 9).run Tryz.prog w = .ok false w := fun w => by kernel_rfl
 have z9 : ∀ w, (Go.sizeOf 9).run Tryz.prog w = .ok 1 w := fun w => by kernel_rfl
 rw [run_neq_struct, show (10000 : Nat) = 9999 + 1 from rfl, run_equalIn_agg w 9999 61 _ _ hS hp]
 simp only [Program.fieldsOf, Tryz.underlying61]
 go_simp
 have hb : (a.nm = b.nm) ↔ (a.nm.toList = b.nm.toList) := ⟨fun h => by rw [h], fun h => by
  rw [Lib.toList_data, Lib.toList_data] at h
  exact ByteArray.ext (Array.toList_inj.1 h)⟩
 have hd : decide (a = b) = (decide (a.off = b.off) && (decide (a.sv = b.sv) && decide (a.nm.toList = b.nm.toList))) := by
  rw [Bool.eq_iff_iff]
  simp [Typ.ext_iff', hb]
 rw [hd]
 by_cases h1 : a.off = b.off <;> by_cases h2 : a.sv = b.sv <;> by_cases h3 : a.nm.toList = b.nm.toList <;> simp [h1, h2, h3]
theorem alloc_frozen (w : World) (cs : Array Value) (T : TypeId) (i : Nat) : (w.alloc (.cells cs T)).frozen? ⟨w.heap.size, i, none⟩ = false := by
 simp only [World.frozen?, heap_alloc_new]
 simp
theorem setNe (w : World) (p a : Addr) (v : Value) (h : p ≠ a) : (w.setCell p v).cell? a = w.cell? a := World.cell?_setCell_other (h := h) ..
theorem set3 {w : World} {B : Nat} {a b c : Value} (k0 : w.cell? ⟨B, 0, none⟩ = some a) (k1 : w.cell? ⟨B, 1, none⟩ = some b) (k2 : w.cell? ⟨B, 2, none⟩ = some c) (x y z : Value) :
  (((w.setCell ⟨B, 0, none⟩ x).setCell ⟨B, 1, none⟩ y).setCell ⟨B, 2, none⟩ z).cell? ⟨B, 0, none⟩ = some x ∧ (((w.setCell ⟨B, 0, none⟩ x).setCell ⟨B, 1, none⟩ y).setCell ⟨B, 2, none⟩ z).cell? ⟨B, 1, none⟩ = some y ∧ (((w.setCell ⟨B, 0, none⟩ x).setCell ⟨B, 1, none⟩ y).setCell ⟨B, 2, none⟩ z).cell? ⟨B, 2, none⟩ = some z := by
 have e0 := World.cell?_setCell_same' w ⟨B, 0, none⟩ x (by rw [k0]; rfl)
 have k1' := (setNe w ⟨B, 0, none⟩ ⟨B, 1, none⟩ x (by simp)).trans k1
 have k2' := (setNe w ⟨B, 0, none⟩ ⟨B, 2, none⟩ x (by simp)).trans k2
 have e1 := World.cell?_setCell_same' (w.setCell ⟨B, 0, none⟩ x) ⟨B, 1, none⟩ y (by rw [k1']; rfl)
 have e0' := (setNe (w.setCell ⟨B, 0, none⟩ x) ⟨B, 1, none⟩ ⟨B, 0, none⟩ y (by simp)).trans e0
 have k2'' := (setNe (w.setCell ⟨B, 0, none⟩ x) ⟨B, 1, none⟩ ⟨B, 2, none⟩ y (by simp)).trans k2'
 have e2 := World.cell?_setCell_same' ((w.setCell ⟨B, 0, none⟩ x).setCell ⟨B, 1, none⟩ y) ⟨B, 2, none⟩ z (by rw [k2'']; rfl)
 exact ⟨(setNe _ ⟨B, 2, none⟩ ⟨B, 0, none⟩ z (by simp)).trans e0', (setNe _ ⟨B, 2, none⟩ ⟨B, 1, none⟩ z (by simp)).trans e1, e2⟩
theorem gdTy (op : BinOp) (x y : Operand) (xs ys : Array Value) (w : World) : (eqGuard op 61 x y (.agg xs) (.agg ys)).run Tryz.prog w = .ok () w := run_eqGuard_agg w op 61 x y xs ys (by kernel_rfl)
theorem trans_one (b : Typ) (k : Bool) (x : Int × Trn) : trans b k [x] = if k = true ∧ x.2.ty ≠ b then [x] else [] := by
 rw [trans]; split <;> rfl
theorem lastTy_snoc (b : Typ) (xs : List (Int × Trn)) (x : Int × Trn) : lastTy b (xs ++ [x]) = x.2.ty := by
 induction xs generalizing b with
 | nil => rw [List.nil_append, lastTy_cons]; rfl
 | cons y xs ih => rw [List.cons_append, lastTy_cons]; exact ih _
theorem tr_step {LT : Typ} {K : Bool} {L : List (Int × Trn)} {k : Nat} (hk : k < L.length) :
  (trans LT K (L.take (k + 1))).map Prod.snd = (trans LT K (L.take k)).map Prod.snd ++ (if (K || decide (0 < k)) = true ∧ (L[k]!).2.ty ≠ lastTy LT (L.take k) then [(L[k]!).2] else []) ∧ lastTy LT (L.take (k + 1)) = (L[k]!).2.ty := by
 rw [List.take_succ_eq_append_getElem hk, trans_append, lastTy_snoc, trans_one, List.map_append, getElem!_pos L k hk]
 have e : (K || !(L.take k).isEmpty) = (K || decide (0 < k)) := by
  congr 1
  cases k with
  | zero => simp
  | succ k => cases L with
   | nil => simp at hk
   | cons => simp
 rw [e]
 refine ⟨?_, rfl⟩
 congr 1
 split <;> rfl
theorem set3_own {w : World} {base q n : Nat} {e : TypeId} {size : Nat} {v : Value} {xs : List Value} (h : w.ownsRow base e size v n xs) (hq : q < base) (x y z : Value) : (((w.setCell ⟨q, 0, none⟩ x).setCell ⟨q, 1, none⟩ y).setCell ⟨q, 2, none⟩ z).ownsRow base e size v n xs :=
 ownsRow_setCell_below (ownsRow_setCell_below (ownsRow_setCell_below h (a := ⟨q, 0, none⟩) hq x) (a := ⟨q, 1, none⟩) hq y) (a := ⟨q, 2, none⟩) hq z
theorem set3_below {w0 w : World} {B q : Nat} (h : Below B w0 w) (hq : B ≤ q) (x y z : Value) : Below B w0 (((w.setCell ⟨q, 0, none⟩ x).setCell ⟨q, 1, none⟩ y).setCell ⟨q, 2, none⟩ z) :=
 ((h.setCell (p := ⟨q, 0, none⟩) hq x).setCell (p := ⟨q, 1, none⟩) hq y).setCell (p := ⟨q, 2, none⟩) hq z
theorem set3_frozen {w : World} {q : Nat} (h : ∀ i, w.frozen? ⟨q, i, none⟩ = false) (x y z : Value) : ∀ i, (((w.setCell ⟨q, 0, none⟩ x).setCell ⟨q, 1, none⟩ y).setCell ⟨q, 2, none⟩ z).frozen? ⟨q, i, none⟩ = false := fun i => by
 rw [World.frozen?_setCell, World.frozen?_setCell, World.frozen?_setCell]; exact h i
theorem after3 {w0 W : World} {B base q n : Nat} {e : TypeId} {size : Nat} {v : Value} {xs : List Value} {a b c : Value} {o : Obj} (h1 : W.ownsRow base e size v n xs) (h2 : Below B w0 W) (h3 : W.cell? ⟨q, 0, none⟩ = some a ∧ W.cell? ⟨q, 1, none⟩ = some b ∧ W.cell? ⟨q, 2, none⟩ = some c) (h4 : ∀ i, W.frozen? ⟨q, i, none⟩ = false) (h5 : q < W.heap.size) (h6 : B ≤ W.heap.size) :
  (W.alloc o).ownsRow base e size v n xs ∧ Below B w0 (W.alloc o) ∧ (W.alloc o).cell? ⟨q, 0, none⟩ = some a ∧ (W.alloc o).cell? ⟨q, 1, none⟩ = some b ∧ (W.alloc o).cell? ⟨q, 2, none⟩ = some c ∧ ∀ i, (W.alloc o).frozen? ⟨q, i, none⟩ = false :=
 ⟨h1.alloc o, h2.alloc h6 o, Lib.cell?_alloc_some _ h3.1, Lib.cell?_alloc_some _ h3.2.1, Lib.cell?_alloc_some _ h3.2.2, fun i => (World.frozen?_of_block (a := ⟨q, i, none⟩) (_root_.Go.heap_alloc_old W o (r := q) h5)).trans (h4 i)⟩
theorem pre_of {z : Zn} (ok : TailOk z) (hl : z.tail.length ≤ 12) {a b : Int} (h1 : z.year ≤ a) (h2 : b ≤ 9999) (h3 : b - a ≤ 20) : HapPre z a b :=
 ⟨by have := ok.y1; omega, h2, h3, hl, List.all_eq_true.2 fun r hr => (ok.rv r hr).1, fun y hy => ok.far y (by omega), ok.o1, ok.o2, ok.s1, ok.s2⟩
theorem heldZ {w0 wx w' : World} {B : Nat} {x0 x1 x2 x3 x4 x5 x6 x7 x8 : Value} (hB : B < w0.heap.size) (h : wx.cell? ⟨B, 0, none⟩ = some x0 ∧ wx.cell? ⟨B, 1, none⟩ = some x1 ∧ wx.cell? ⟨B, 2, none⟩ = some x2 ∧ wx.cell? ⟨B, 3, none⟩ = some x3 ∧ wx.cell? ⟨B, 4, none⟩ = some x4 ∧ wx.cell? ⟨B, 5, none⟩ = some x5 ∧ wx.cell? ⟨B, 6, none⟩ = some x6 ∧ wx.cell? ⟨B, 7, none⟩ = some x7 ∧ wx.cell? ⟨B, 8, none⟩ = some x8 ∧ Below w0.heap.size w0 wx) (hb : Below wx.heap.size wx w') : w'.cell? ⟨B, 0, none⟩ = some x0 ∧ w'.cell? ⟨B, 1, none⟩ = some x1 ∧ w'.cell? ⟨B, 2, none⟩ = some x2 ∧ w'.cell? ⟨B, 3, none⟩ = some x3 ∧ w'.cell? ⟨B, 4, none⟩ = some x4 ∧ w'.cell? ⟨B, 5, none⟩ = some x5 ∧ w'.cell? ⟨B, 6, none⟩ = some x6 ∧ w'.cell? ⟨B, 7, none⟩ = some x7 ∧ w'.cell? ⟨B, 8, none⟩ = some x8 ∧ Below w0.heap.size w0 w' := by
 obtain ⟨h0, h1, h2, h3, h4, h5, h6, h7, h8, h9⟩ := h
 have hlt : B < wx.heap.size := Nat.lt_of_lt_of_le hB h9.size
 have hk := fun i => hb.cell (p := ⟨B, i, none⟩) hlt
 exact ⟨(hk 0).trans h0, (hk 1).trans h1, (hk 2).trans h2, (hk 3).trans h3, (hk 4).trans h4, (hk 5).trans h5, (hk 6).trans h6, (hk 7).trans h7, (hk 8).trans h8, h9.trans (hb.mono h9.size)⟩
theorem heldB {w0 wx : World} {B : Nat} {x0 x1 x2 x3 x4 x5 x6 x7 x8 : Value} (h : wx.cell? ⟨B, 0, none⟩ = some x0 ∧ wx.cell? ⟨B, 1, none⟩ = some x1 ∧ wx.cell? ⟨B, 2, none⟩ = some x2 ∧ wx.cell? ⟨B, 3, none⟩ = some x3 ∧ wx.cell? ⟨B, 4, none⟩ = some x4 ∧ wx.cell? ⟨B, 5, none⟩ = some x5 ∧ wx.cell? ⟨B, 6, none⟩ = some x6 ∧ wx.cell? ⟨B, 7, none⟩ = some x7 ∧ wx.cell? ⟨B, 8, none⟩ = some x8 ∧ Below w0.heap.size w0 wx) : Below w0.heap.size w0 wx := h.2.2.2.2.2.2.2.2.2
theorem heldAll {w0 : World} {B : Nat} {x0 x1 x2 x3 x4 x5 x6 x7 x8 : Value} (hB : B < w0.heap.size) (h0 : w0.cell? ⟨B, 0, none⟩ = some x0) (h1 : w0.cell? ⟨B, 1, none⟩ = some x1) (h2 : w0.cell? ⟨B, 2, none⟩ = some x2) (h3 : w0.cell? ⟨B, 3, none⟩ = some x3) (h4 : w0.cell? ⟨B, 4, none⟩ = some x4) (h5 : w0.cell? ⟨B, 5, none⟩ = some x5) (h6 : w0.cell? ⟨B, 6, none⟩ = some x6) (h7 : w0.cell? ⟨B, 7, none⟩ = some x7) (h8 : w0.cell? ⟨B, 8, none⟩ = some x8) : ∀ w', Below w0.heap.size w0 w' → w'.cell? ⟨B, 0, none⟩ = some x0 ∧ w'.cell? ⟨B, 1, none⟩ = some x1 ∧ w'.cell? ⟨B, 2, none⟩ = some x2 ∧ w'.cell? ⟨B, 3, none⟩ = some x3 ∧ w'.cell? ⟨B, 4, none⟩ = some x4 ∧ w'.cell? ⟨B, 5, none⟩ = some x5 ∧ w'.cell? ⟨B, 6, none⟩ = some x6 ∧ w'.cell? ⟨B, 7, none⟩ = some x7 ∧ w'.cell? ⟨B, 8, none⟩ = some x8 ∧ Below w0.heap.size w0 w' := fun w' hb =>
 have hk := fun i => hb.cell (p := ⟨B, i, none⟩) hB
 ⟨(hk 0).trans h0, (hk 1).trans h1, (hk 2).trans h2, (hk 3).trans h3, (hk 4).trans h4, (hk 5).trans h5, (hk 6).trans h6, (hk 7).trans h7, (hk 8).trans h8, hb⟩
theorem swap_last {w0 wx : World} {o1 : Obj} (o2 : Obj) (hle : w0.heap.size ≤ wx.heap.size) (h : Below w0.heap.size w0 (wx.alloc o1)) : Below w0.heap.size w0 (wx.alloc o2) :=
 ⟨h.os, h.tape, h.output, by simp; omega, fun i hi => by
  have h1 := h.block i hi
  have e1 := _root_.Go.heap_alloc_old wx o1 (r := i) (by omega)
  have e2 := _root_.Go.heap_alloc_old wx o2 (r := i) (by omega)
  rw [e1] at h1
  rw [e2]; exact h1⟩
def FrB (B : Nat) (v : Value) : Prop := ∀ g, v.ownBlock = some g → B ≤ g
set_option maxRecDepth 100000 in
set_option maxHeartbeats 40000000 in
theorem tail_main (z : Zn) (vT vR : Value) (f t : Int) (w : World) (hm : HasMax w) (hl : z.table.length ≤ 1000000) (hT : Rd Trn.cells 4 w vT z.table) (hR : Rd Rule.cells 11 w vR z.tail) (hfs : z.form.size < 4294967281) (hll : z.tail.length ≤ 12) (hn : z.tail ≠ []) (ok : TailOk z) (hf : -100000 ≤ f ∧ f ≤ 100000) (ht : t - f ≤ 10) (ht2 : -100000 ≤ t) (hft : max f z.year ≤ min t 9999) :
  Calls Tryz.prog 196 #[z.v vT vR, .int .i64 f, .int .i64 t] w fun e w' => ∃ v, e = .returned v ∧ Rd Trn.cells 4 w' v ((z.winW (max f z.year) (min t 9999)).map Prod.snd) ∧ Below w.heap.size w w' ∧ FrB w.heap.size v := by
 have y1 := ok.y1
 have y2 := ok.y2
 obtain ⟨F, hF⟩ : ∃ F, max f z.year = F := ⟨_, rfl⟩
 obtain ⟨E, hE⟩ : ∃ E, min t 9999 = E := ⟨_, rfl⟩
 obtain ⟨S, hS⟩ : ∃ S, max z.year (F - 9) = S := ⟨_, rfl⟩
 have hst : z.start F = S := by unfold Zn.start; split <;> omega
 have hne0 : ((z.tail.length : Int) == 0) = false := by
  have : 0 < z.tail.length := List.length_pos_iff.2 hn
  simp; omega
 have hHL : z.hapL S E = (z.happ z.lastT.sv (evT z.tail S (E - S + 1).toNat)).map Prod.snd := by unfold Zn.hapL; rw [if_neg (by intro h; rcases h with h | h; exact hn h; omega)]
 have hW : z.winW F E = trans z.lastT (S == z.year) (z.happ z.lastT.sv (evT z.tail S (E - S + 1).toNat)) := by unfold Zn.winW; rw [hst]
 have hLl : (z.happ z.lastT.sv (evT z.tail S (E - S + 1).toNat)).length ≤ 1000 := by
  have h0 := happ_len z z.lastT.sv (evT z.tail S (E - S + 1).toNat)
  have h1 := evY_len z.tail S (E - S + 1).toNat
  rw [← evT_evY, List.length_map] at h1
  have h2 := Nat.mul_le_mul (show (E - S + 1).toNat ≤ 21 by omega) hll
  omega
 have HH := Lib.hid (fun W hm h1 h2 => happenings_any z vT vR S E W hm hl h1 h2 hfs hll (fun _ _ => pre_of ok hll (by omega) (by omega) (by omega)))
 unfold HapEnd at HH
 rw [hHL] at HH
 rw [hF, hE, hW]
 rw [hF, hE] at hft
 obtain ⟨i0, hi0, hz0, hz1, hz2⟩ := info_parts infoT
 have HLa := Lib.hid (fun W h => last_any z vT vR W hl h)
 have HTT := Lib.hid hT
 have HRR := Lib.hid hR
 have HM := Lib.hid hm
 obtain ⟨AT, cT, rfl⟩ := rd_vf hT
 obtain ⟨AR, cR, rfl⟩ := rd_vf hR
 have hzc := alloc_cells w [.string z.nm, .int .i64 z.first.off, .int .i64 z.first.sv, .string z.first.nm, .slice AT z.table.length cT, .slice AR z.tail.length cR, .int .i64 z.off, .string z.form, .int .i64 z.year] 65
 have hbz : Below w.heap.size w (w.alloc (.cells #[.string z.nm, .int .i64 z.first.off, .int .i64 z.first.sv, .string z.first.nm, .slice AT z.table.length cT, .slice AR z.tail.length cR, .int .i64 z.off, .string z.form, .int .i64 z.year] 65)) := (Below.refl _ _).alloc (Nat.le_refl _) _
 have hszz : w.heap.size < (w.alloc (.cells #[.string z.nm, .int .i64 z.first.off, .int .i64 z.first.sv, .string z.first.nm, .slice AT z.table.length cT, .slice AR z.tail.length cR, .int .i64 z.off, .string z.form, .int .i64 z.year] 65)).heap.size := by simp
 have HZC := Lib.hid hzc
 have HBZ := Lib.hid hbz
 clear hT hR hm hzc hbz hHL hW hst
 unfold Zn.v at HLa HH ⊢
 generalize hS0 : z.lastT = LT at *
 have HS0 := Lib.hid hS0
 clear hS0
 generalize z.happ LT.sv (evT z.tail S (E - S + 1).toNat) = L at *
 go_enter Tryz.func196, Tryz.ntmps196
 go_wp2_with fail
 generalize w.alloc (.cells #[.string z.nm, .int .i64 z.first.off, .int .i64 z.first.sv, .string z.first.nm, .slice AT z.table.length cT, .slice AR z.tail.length cR, .int .i64 z.off, .string z.form, .int .i64 z.year] 65) = wz at *
 have HB0 : Below w.heap.size w wz := HBZ.out
 refine (HH.out _ (HM.out.on HB0) (HTT.out.on HB0) (HRR.out.on HB0)).mono ?_
 rintro e w5 ⟨v5, rfl, hr5, hb5⟩
 have hB5 : Below w.heap.size w w5 := HB0.trans (hb5.mono (Nat.le_of_lt hszz))
 have R5 := Lib.hid hr5
 obtain ⟨A5, c5, rfl⟩ := rd_vf hr5
 rw [List.length_map] at *
 clear hr5
 have zc0 : w5.cell? ⟨w.heap.size, 0, none⟩ = _ := (hb5.cell (p := ⟨w.heap.size, 0, none⟩) hszz).trans (HZC.out 0 _ rfl)
 have zc1 : w5.cell? ⟨w.heap.size, 1, none⟩ = _ := (hb5.cell (p := ⟨w.heap.size, 1, none⟩) hszz).trans (HZC.out 1 _ rfl)
 have zc2 : w5.cell? ⟨w.heap.size, 2, none⟩ = _ := (hb5.cell (p := ⟨w.heap.size, 2, none⟩) hszz).trans (HZC.out 2 _ rfl)
 have zc3 : w5.cell? ⟨w.heap.size, 3, none⟩ = _ := (hb5.cell (p := ⟨w.heap.size, 3, none⟩) hszz).trans (HZC.out 3 _ rfl)
 have zc4 : w5.cell? ⟨w.heap.size, 4, none⟩ = _ := (hb5.cell (p := ⟨w.heap.size, 4, none⟩) hszz).trans (HZC.out 4 _ rfl)
 have zc5 : w5.cell? ⟨w.heap.size, 5, none⟩ = _ := (hb5.cell (p := ⟨w.heap.size, 5, none⟩) hszz).trans (HZC.out 5 _ rfl)
 have zc6 : w5.cell? ⟨w.heap.size, 6, none⟩ = _ := (hb5.cell (p := ⟨w.heap.size, 6, none⟩) hszz).trans (HZC.out 6 _ rfl)
 have zc7 : w5.cell? ⟨w.heap.size, 7, none⟩ = _ := (hb5.cell (p := ⟨w.heap.size, 7, none⟩) hszz).trans (HZC.out 7 _ rfl)
 have zc8 : w5.cell? ⟨w.heap.size, 8, none⟩ = _ := (hb5.cell (p := ⟨w.heap.size, 8, none⟩) hszz).trans (HZC.out 8 _ rfl)
 have hsz5 : w.heap.size < w5.heap.size := Nat.lt_of_lt_of_le hszz hb5.size
 have HT5 := Lib.hid (HTT.out.on hB5)
 have hd5 : Below w5.heap.size w5 w5.drew := below_drewN (Below.refl w5.heap.size w5) 1
 clear HH HBZ HZC HRR
 go_wp2
 have HS := Lib.hid (heldAll hsz5 zc0 zc1 zc2 zc3 zc4 zc5 zc6 zc7 zc8)
 cases hkS : (S == z.year)
 ·skip
  all_goals
   go_region_held3 (fun w' => w'.cell? ⟨w.heap.size, 0, none⟩ = some (.string z.nm) ∧ w'.cell? ⟨w.heap.size, 1, none⟩ = some (.int .i64 z.first.off) ∧ w'.cell? ⟨w.heap.size, 2, none⟩ = some (.int .i64 z.first.sv) ∧ w'.cell? ⟨w.heap.size, 3, none⟩ = some (.string z.first.nm) ∧ w'.cell? ⟨w.heap.size, 4, none⟩ = some (.slice AT z.table.length cT) ∧ w'.cell? ⟨w.heap.size, 5, none⟩ = some (.slice AR z.tail.length cR) ∧ w'.cell? ⟨w.heap.size, 6, none⟩ = some (.int .i64 z.off) ∧ w'.cell? ⟨w.heap.size, 7, none⟩ = some (.string z.form) ∧ w'.cell? ⟨w.heap.size, 8, none⟩ = some (.int .i64 z.year) ∧ Below w5.heap.size w5 w') (first | exact HS.out _ hd5 | exact heldZ hsz5 (by assumption) hb6 | exact HS.out _ ((heldB (by assumption)).alloc (heldB (by assumption)).size _) | exact HS.out _ ((((heldB (by assumption)).setCell (Nat.le_refl _) _).setCell (Nat.le_refl _) _).setCell (Nat.le_refl _) _) | exact HS.out _ (swap_last _ hle6 (heldB (by assumption))) | go_keep)
    (first | (go_at_call 135; refine (HLa.out _ (HT5.out.on (heldB (by assumption)))).mono ?_; rintro e w6 ⟨rfl, hb6⟩; obtain ⟨hc6, hf6⟩ := bcell hb6; have hle6 : w5.heap.size ≤ w6.heap.size := Nat.le_trans (heldB (by assumption)).size hb6.size))
  all_goals
   first
   | (
     have hbW := (by assumption : _ ∧ _ ∧ _ ∧ _ ∧ _ ∧ _ ∧ _ ∧ _ ∧ _ ∧ Below w5.heap.size w5 (w6.alloc _)).2.2.2.2.2.2.2.2.2
     have q0 : (w6.alloc (.cells #[.int .i64 LT.off, .int .i64 LT.sv, .string LT.nm] 61)).cell? ⟨w6.heap.size, 0, none⟩ = some (.int .i64 LT.off) := alloc_cells w6 [.int .i64 LT.off, .int .i64 LT.sv, .string LT.nm] 61 0 _ rfl
     have q1 : (w6.alloc (.cells #[.int .i64 LT.off, .int .i64 LT.sv, .string LT.nm] 61)).cell? ⟨w6.heap.size, 1, none⟩ = some (.int .i64 LT.sv) := alloc_cells w6 [.int .i64 LT.off, .int .i64 LT.sv, .string LT.nm] 61 1 _ rfl
     have q2 : (w6.alloc (.cells #[.int .i64 LT.off, .int .i64 LT.sv, .string LT.nm] 61)).cell? ⟨w6.heap.size, 2, none⟩ = some (.string LT.nm) := alloc_cells w6 [.int .i64 LT.off, .int .i64 LT.sv, .string LT.nm] 61 2 _ rfl
     have f0 : ∀ i, (w6.alloc (.cells #[.int .i64 LT.off, .int .i64 LT.sv, .string LT.nm] 61)).frozen? ⟨w6.heap.size, i, none⟩ = false := fun i => alloc_frozen _ _ _ i
     have hqW : w6.heap.size < (w6.alloc (.cells #[.int .i64 LT.off, .int .i64 LT.sv, .string LT.nm] 61)).heap.size := by simp
     have hq5 : w5.heap.size ≤ w6.heap.size := hle6
     have hsb : w6.heap.size < (w6.alloc (.cells #[.int .i64 LT.off, .int .i64 LT.sv, .string LT.nm] 61)).heap.size := hqW
     clear hc6 hf6 hb6 hle6
     generalize (w6.alloc (.cells #[.int .i64 LT.off, .int .i64 LT.sv, .string LT.nm] 61)) = W at *
     generalize w6.heap.size = q at *)
   | (
     have hbW := (by assumption : _ ∧ _ ∧ _ ∧ _ ∧ _ ∧ _ ∧ _ ∧ _ ∧ _ ∧ Below w5.heap.size w5 (((w6.setCell _ _).setCell _ _).setCell _ _)).2.2.2.2.2.2.2.2.2
     have k0 : w6.cell? ⟨w5.heap.size, 0, none⟩ = some (.int .i64 0) := (hc6 _ _ (by simp)).trans (by simp)
     have k1 : w6.cell? ⟨w5.heap.size, 1, none⟩ = some (.int .i64 0) := (hc6 _ _ (by simp)).trans (by simp)
     have k2 : w6.cell? ⟨w5.heap.size, 2, none⟩ = some (.string ⟨#[]⟩) := (hc6 _ _ (by simp)).trans (by simp)
     have q0 : (((w6.setCell ⟨w5.heap.size, 0, none⟩ (.int .i64 LT.off)).setCell ⟨w5.heap.size, 1, none⟩ (.int .i64 LT.sv)).setCell ⟨w5.heap.size, 2, none⟩ (.string LT.nm)).cell? ⟨w5.heap.size, 0, none⟩ = some (.int .i64 LT.off) := (set3 k0 k1 k2 _ _ _).1
     have q1 : (((w6.setCell ⟨w5.heap.size, 0, none⟩ (.int .i64 LT.off)).setCell ⟨w5.heap.size, 1, none⟩ (.int .i64 LT.sv)).setCell ⟨w5.heap.size, 2, none⟩ (.string LT.nm)).cell? ⟨w5.heap.size, 1, none⟩ = some (.int .i64 LT.sv) := (set3 k0 k1 k2 _ _ _).2.1
     have q2 : (((w6.setCell ⟨w5.heap.size, 0, none⟩ (.int .i64 LT.off)).setCell ⟨w5.heap.size, 1, none⟩ (.int .i64 LT.sv)).setCell ⟨w5.heap.size, 2, none⟩ (.string LT.nm)).cell? ⟨w5.heap.size, 2, none⟩ = some (.string LT.nm) := (set3 k0 k1 k2 _ _ _).2.2
     have f0 : ∀ i, (((w6.setCell ⟨w5.heap.size, 0, none⟩ (.int .i64 LT.off)).setCell ⟨w5.heap.size, 1, none⟩ (.int .i64 LT.sv)).setCell ⟨w5.heap.size, 2, none⟩ (.string LT.nm)).frozen? ⟨w5.heap.size, i, none⟩ = false := fun i => by
      rw [World.frozen?_setCell, World.frozen?_setCell, World.frozen?_setCell]
      exact (hf6 _ _ (by simp)).trans (alloc_frozen _ _ _ i)
     have hqW : w5.heap.size < (((w6.setCell ⟨w5.heap.size, 0, none⟩ (.int .i64 LT.off)).setCell ⟨w5.heap.size, 1, none⟩ (.int .i64 LT.sv)).setCell ⟨w5.heap.size, 2, none⟩ (.string LT.nm)).heap.size := by have := hb6.size; simp at this ⊢; omega
     clear hc6 hf6 hb6 hle6 k0 k1 k2
     generalize (((w6.setCell ⟨w5.heap.size, 0, none⟩ (.int .i64 LT.off)).setCell ⟨w5.heap.size, 1, none⟩ (.int .i64 LT.sv)).setCell ⟨w5.heap.size, 2, none⟩ (.string LT.nm)) = W at *
     obtain ⟨q, hq⟩ : ∃ q, q = w5.heap.size := ⟨_, rfl⟩
     rw [← hq] at q0 q1 q2 f0 hqW ⊢
     have hq5 : w5.heap.size ≤ q := Nat.le_of_eq hq.symm
     clear hq)
  all_goals
   have R8 := Lib.hid (R5.out.on hbW)
   have HBB := Lib.hid hB5
   have HF0 := Lib.hid f0
   have HBW5 := Lib.hid hbW
   have hq5' := hq5
   have hW5 : w5.heap.size ≤ W.heap.size := hbW.size
   clear HT5 HLa HTT HM HS zc0 zc1 zc2 zc3 zc4 zc5 zc6 zc7 zc8 hb5 hd5 hB5 hF hE hS hf ht ht2 hft hq5 hbW f0
   go_wp2
   go_loopw [9, 11, 46] (fun v9 v11 i wr => ∃ k : Nat, k ≤ L.length ∧ i = .int .i64 k ∧ v11 = .bool (false || decide (0 < k)) ∧ wr.ownsRow W.heap.size 68 4 v9 ((trans LT false (L.take k)).map Prod.snd).length (((trans LT false (L.take k)).map Prod.snd).flatMap Trn.cells) ∧ Below w5.heap.size w5 wr ∧ W.heap.size ≤ wr.heap.size ∧ wr.cell? ⟨q, 0, none⟩ = some (.int .i64 (lastTy LT (L.take k)).off) ∧ wr.cell? ⟨q, 1, none⟩ = some (.int .i64 (lastTy LT (L.take k)).sv) ∧ wr.cell? ⟨q, 2, none⟩ = some (.string (lastTy LT (L.take k)).nm) ∧ Hid (∀ i, wr.frozen? ⟨q, i, none⟩ = false)) (fun _ _ i _ => L.length - (intOf i).toNat)
   case atStart => exact ⟨0, Nat.zero_le _, rfl, rfl, ⟨by simp [trans], .inl ⟨rfl, by simp [trans]⟩⟩, HBW5.out, Nat.le_refl _, q0, q1, q2, HF0.out⟩
   case round =>
     obtain ⟨k, hk, rfl, rfl, hown, hb5w, hWw, p0, p1, p2, HFz⟩ := hrel
     by_cases hlt : k < L.length
     ·obtain ⟨g5, o5, hA5, hg5, hc5⟩ : ∃ g off, A5 = some ⟨g, off, none⟩ ∧ g < w5.heap.size ∧ ∀ j, j < L.length → ∀ i u, (Trn.cells (L[j]!).2)[i]? = some u → w5.cell? ⟨g, off + j * 4 + i, none⟩ = some u := by
       rcases R5.out with ⟨h0, _⟩ | ⟨g, off, c', hv', hg, hc⟩
       ·rw [List.map_eq_nil_iff] at h0; rw [h0] at hlt; simp at hlt
       ·injection hv' with hv1 _ _
        subst hv1
        refine ⟨g, off, rfl, hg, fun j hj i u hu => hc j (by simpa using hj) i u ?_⟩
        rw [getElem!_pos (L.map Prod.snd) j (by simpa using hj), List.getElem_map, ← getElem!_pos L j hj]
        exact hu
      subst hA5
      have e0 := (hb5w.cell (p := ⟨g5, o5 + k * 4 + 0, none⟩) hg5).trans (hc5 k hlt 0 _ rfl)
      have e1 := (hb5w.cell (p := ⟨g5, o5 + k * 4 + 1, none⟩) hg5).trans (hc5 k hlt 1 _ rfl)
      have e2 := (hb5w.cell (p := ⟨g5, o5 + k * 4 + 2, none⟩) hg5).trans (hc5 k hlt 2 _ rfl)
      have e3 := (hb5w.cell (p := ⟨g5, o5 + k * 4 + 3, none⟩) hg5).trans (hc5 k hlt 3 _ rfl)
      rw [Nat.add_zero] at e0
      have hst := tr_step (LT := LT) (K := false) hlt
      have hll : (trans LT false (L.take k)).length ≤ k := by have := (trans_sub LT false (L.take k)).length_le; rw [List.length_take] at this; omega
      generalize (L[k]!).2 = x at *
      obtain ⟨xa, xt⟩ := x
      dsimp only at e0 e1 e2 e3 hst
      generalize lastTy LT (L.take k) = bt at *
      have hqr : q < wr.heap.size := Nat.lt_of_lt_of_le hqW hWw
      have hgr : g5 < wr.heap.size := Nat.lt_of_lt_of_le hg5 hb5w.size
      have hlo : ((trans LT false (L.take k)).map Prod.snd).length ≤ k := by rw [List.length_map]; exact hll
      generalize (trans LT false (L.take k)).map Prod.snd = O at *
      have HOWN := Lib.hid hown
      have HST := Lib.hid hst
      have hne := fun W => neTy xt bt W
      have hgd := gdTy
      have HFz2 := Lib.hid (fun o i => ((World.frozen?_of_block (a := ⟨q, i, none⟩) (_root_.Go.heap_alloc_old wr o (r := q) hqr)).trans (HFz.out i)))
      have HFz3 := Lib.hid (fun o o' i => ((World.frozen?_of_block (a := ⟨q, i, none⟩) (_root_.Go.heap_alloc_old (wr.alloc o) o' (r := q) (by simp; omega))).trans (HFz2.out o i)))
      have HP := Lib.hid (And.intro p0 (And.intro p1 p2))
      clear hc5 hst hown hll
      obtain ⟨kn, hkn⟩ : ∃ kn, (false || decide (0 < k)) = kn := ⟨_, rfl⟩
      rw [hkn] at HST ⊢
      have HKN := Lib.hid hkn
      clear hkn
      by_cases happ : kn = true ∧ xt ≠ bt
      ·obtain ⟨rfl, hx⟩ := happ
       have HO1 := Lib.hid (show (trans LT false (L.take (k + 1))).map Prod.snd = O ++ [⟨xa, xt⟩] by rw [HST.out.1, if_pos ⟨rfl, hx⟩])
       have hdx : decide (xt = bt) = false := decide_eq_false hx
       have hqb : Below wr.heap.size wr (wr.alloc (.cells #[.int .i64 xa, .int .i64 xt.off, .int .i64 xt.sv, .string xt.nm] 68)) := alloc_below' _ _
       have HO2 := Lib.hid (own_on HOWN.out hqb)
       have hyc := alloc_cells wr [.int .i64 xa, .int .i64 xt.off, .int .i64 xt.sv, .string xt.nm] 68
       have HYC := Lib.hid hyc
       have qne : some q ≠ u9.ownBlock := fun e => by have := (HOWN.out.lt _ e.symm).1; omega
       have wne : some wr.heap.size ≠ u9.ownBlock := fun e => by have := (HOWN.out.lt _ e.symm).2; omega
       clear hyc hx
       go_wp2_with (at_builtin; go_loud (refine wpList_append_own _ rfl (.tmp 57) (.tmp 59) _ rfl W.heap.size 68 i0 _ 4 40 Tryz.underlying62 hi0 hz0 hz1 hz2 rfl (by decide) _ _ _ rfl (HO2.out.alloc _) ⟨_, 0, none⟩ 1 1 (Trn.cells ⟨xa, xt⟩) rfl rfl (new_row_at (by simp) _) (trn_one _) (by simp only [maxLen]; omega) (by omega) (by simp; omega) ?_); intro v' w2 hown2 hg2 _; have y1 : w2.cell? ⟨wr.heap.size, 1, none⟩ = some (.int .i64 xt.off) := hg2.cell (Lib.cell?_alloc_some _ (HYC.out 1 _ rfl)) wne; have y2 : w2.cell? ⟨wr.heap.size, 2, none⟩ = some (.int .i64 xt.sv) := hg2.cell (Lib.cell?_alloc_some _ (HYC.out 2 _ rfl)) wne; have y3 : w2.cell? ⟨wr.heap.size, 3, none⟩ = some (.string xt.nm) := hg2.cell (Lib.cell?_alloc_some _ (HYC.out 3 _ rfl)) wne; have p0' : w2.cell? ⟨q, 0, none⟩ = some (.int .i64 bt.off) := hg2.cell (Lib.cell?_alloc_some _ (Lib.cell?_alloc_some _ HP.out.1)) qne; have p1' : w2.cell? ⟨q, 1, none⟩ = some (.int .i64 bt.sv) := hg2.cell (Lib.cell?_alloc_some _ (Lib.cell?_alloc_some _ HP.out.2.1)) qne; have p2' : w2.cell? ⟨q, 2, none⟩ = some (.string bt.nm) := hg2.cell (Lib.cell?_alloc_some _ (Lib.cell?_alloc_some _ HP.out.2.2)) qne; have f2 : ∀ i, w2.frozen? ⟨q, i, none⟩ = false := fun i => (World.frozen?_of_block (a := ⟨q, i, none⟩) (hg2.block q (by simp; omega) qne)).trans (HFz3.out _ _ i))
       have hB8 : Below w5.heap.size w5 ((wr.alloc (.cells #[.int .i64 xa, .int .i64 xt.off, .int .i64 xt.sv, .string xt.nm] 68)).alloc (.cells (Trn.cells ⟨xa, xt⟩).toArray 68)) := (hb5w.trans (hqb.mono hb5w.size)).alloc (by have := hb5w.size; simp; omega) _
       have hB9 : Below w5.heap.size w5 w2 := hB8.grown hg2 hB8.size fun g e => Nat.le_trans hW5 (HO2.out.lt g e).1
       have hW2 : W.heap.size ≤ w2.heap.size := Nat.le_trans hWw (by have := hg2.size; simp at this; omega)
       have hs3 := set3 p0' p1' p2' (.int .i64 xt.off) (.int .i64 xt.sv) (.string xt.nm)
       have HS3 := Lib.hid hs3
       have HF3 := Lib.hid (set3_frozen f2 (.int .i64 xt.off) (.int .i64 xt.sv) (.string xt.nm))
       have hO9 : w2.ownsRow W.heap.size 68 4 v' (O ++ [(⟨xa, xt⟩ : Trn)]).length ((O ++ [(⟨xa, xt⟩ : Trn)]).flatMap Trn.cells) := own_snoc (es := O) (x := (⟨xa, xt⟩ : Trn)) hown2
       clear hs3 f2
       go_roundw
       case rel => exact ⟨k + 1, by omega, by go_num, by simp, by rw [HO1.out]; exact set3_own hO9 hqW _ _ _, set3_below hB9 hq5' _ _ _, by simp; exact hW2, by rw [HST.out.2]; exact HS3.out.1, by rw [HST.out.2]; exact HS3.out.2.1, by rw [HST.out.2]; exact HS3.out.2.2, HF3.out⟩
       case measure => simp [intOf]; omega
      ·have HO1 := Lib.hid (show (trans LT false (L.take (k + 1))).map Prod.snd = O by rw [HST.out.1, if_neg happ, List.append_nil])
       have hqb : Below wr.heap.size wr (wr.alloc (.cells #[.int .i64 xa, .int .i64 xt.off, .int .i64 xt.sv, .string xt.nm] 68)) := alloc_below' _ _
       have HO2 := Lib.hid (own_on HOWN.out hqb)
       have HS3 := Lib.hid (set3 p0 p1 p2 (.int .i64 xt.off) (.int .i64 xt.sv) (.string xt.nm))
       have HO3 := Lib.hid (set3_own HOWN.out hqW (.int .i64 xt.off) (.int .i64 xt.sv) (.string xt.nm))
       have HB3 := Lib.hid (set3_below hb5w hq5' (.int .i64 xt.off) (.int .i64 xt.sv) (.string xt.nm))
       have HFW := Lib.hid (set3_frozen HFz.out (.int .i64 xt.off) (.int .i64 xt.sv) (.string xt.nm))
       have hs3 : (((wr.setCell ⟨q, 0, none⟩ (.int .i64 xt.off)).setCell ⟨q, 1, none⟩ (.int .i64 xt.sv)).setCell ⟨q, 2, none⟩ (.string xt.nm)).heap.size = wr.heap.size := by simp
       have HSZ := Lib.hid hs3
       have HW3 := Lib.hid (after3 (o := (.cells #[.int .i64 xa, .int .i64 xt.off, .int .i64 xt.sv, .string xt.nm] 68)) HO3.out HB3.out HS3.out HFW.out (by omega) (by omega))
       clear hs3
       have hfr := HFz.out
       have hcase : kn = false ∨ (kn = true ∧ xt = bt) := by
        cases kn
        ·exact .inl rfl
        ·exact .inr ⟨rfl, Classical.not_not.1 fun e => happ ⟨rfl, e⟩⟩
       clear happ
       rcases hcase with rfl | ⟨rfl, hx⟩
       ·go_wp2
        go_roundw
        case rel => exact ⟨k + 1, by omega, by go_num, by simp, by rw [HO1.out]; exact HW3.out.1, HW3.out.2.1, by have := HSZ.out; simp; omega, by rw [HST.out.2]; exact HW3.out.2.2.1, by rw [HST.out.2]; exact HW3.out.2.2.2.1, by rw [HST.out.2]; exact HW3.out.2.2.2.2.1, HW3.out.2.2.2.2.2⟩
        case measure => simp [intOf]; omega
       ·have hdx : decide (xt = bt) = true := decide_eq_true hx
        clear hx
        go_wp2
        go_roundw
        case rel => exact ⟨k + 1, by omega, by go_num, by simp, by rw [HO1.out]; exact HW3.out.1, HW3.out.2.1, by have := HSZ.out; simp; omega, by rw [HST.out.2]; exact HW3.out.2.2.1, by rw [HST.out.2]; exact HW3.out.2.2.2.1, by rw [HST.out.2]; exact HW3.out.2.2.2.2.1, HW3.out.2.2.2.2.2⟩
        case measure => simp [intOf]; omega
     ·have hk' : k = L.length := by omega
      subst hk'
      rw [List.take_length] at hown
      have HB5 := Lib.hid hb5w
      clear p0 p1 p2
      go_wp2
      go_ret
      rw [hkS]
      exact ⟨u9, rfl, rd_of_own trn_len (v := u9) hown rfl, HBB.out.trans (HB5.out.mono (Nat.le_of_lt hsz5)), fun g hg => Nat.le_trans HBB.out.size (Nat.le_trans hW5 (hown.lt g hg).1)⟩
 ·skip
  all_goals
   go_region_held3 (fun w' => w'.cell? ⟨w.heap.size, 0, none⟩ = some (.string z.nm) ∧ w'.cell? ⟨w.heap.size, 1, none⟩ = some (.int .i64 z.first.off) ∧ w'.cell? ⟨w.heap.size, 2, none⟩ = some (.int .i64 z.first.sv) ∧ w'.cell? ⟨w.heap.size, 3, none⟩ = some (.string z.first.nm) ∧ w'.cell? ⟨w.heap.size, 4, none⟩ = some (.slice AT z.table.length cT) ∧ w'.cell? ⟨w.heap.size, 5, none⟩ = some (.slice AR z.tail.length cR) ∧ w'.cell? ⟨w.heap.size, 6, none⟩ = some (.int .i64 z.off) ∧ w'.cell? ⟨w.heap.size, 7, none⟩ = some (.string z.form) ∧ w'.cell? ⟨w.heap.size, 8, none⟩ = some (.int .i64 z.year) ∧ Below w5.heap.size w5 w') (first | exact HS.out _ hd5 | exact heldZ hsz5 (by assumption) hb6 | exact HS.out _ ((heldB (by assumption)).alloc (heldB (by assumption)).size _) | exact HS.out _ ((((heldB (by assumption)).setCell (Nat.le_refl _) _).setCell (Nat.le_refl _) _).setCell (Nat.le_refl _) _) | exact HS.out _ (swap_last _ hle6 (heldB (by assumption))) | go_keep)
    (first | (go_at_call 135; refine (HLa.out _ (HT5.out.on (heldB (by assumption)))).mono ?_; rintro e w6 ⟨rfl, hb6⟩; obtain ⟨hc6, hf6⟩ := bcell hb6; have hle6 : w5.heap.size ≤ w6.heap.size := Nat.le_trans (heldB (by assumption)).size hb6.size))
  all_goals
   first
   | (
     have hbW := (by assumption : _ ∧ _ ∧ _ ∧ _ ∧ _ ∧ _ ∧ _ ∧ _ ∧ _ ∧ Below w5.heap.size w5 (w6.alloc _)).2.2.2.2.2.2.2.2.2
     have q0 : (w6.alloc (.cells #[.int .i64 LT.off, .int .i64 LT.sv, .string LT.nm] 61)).cell? ⟨w6.heap.size, 0, none⟩ = some (.int .i64 LT.off) := alloc_cells w6 [.int .i64 LT.off, .int .i64 LT.sv, .string LT.nm] 61 0 _ rfl
     have q1 : (w6.alloc (.cells #[.int .i64 LT.off, .int .i64 LT.sv, .string LT.nm] 61)).cell? ⟨w6.heap.size, 1, none⟩ = some (.int .i64 LT.sv) := alloc_cells w6 [.int .i64 LT.off, .int .i64 LT.sv, .string LT.nm] 61 1 _ rfl
     have q2 : (w6.alloc (.cells #[.int .i64 LT.off, .int .i64 LT.sv, .string LT.nm] 61)).cell? ⟨w6.heap.size, 2, none⟩ = some (.string LT.nm) := alloc_cells w6 [.int .i64 LT.off, .int .i64 LT.sv, .string LT.nm] 61 2 _ rfl
     have f0 : ∀ i, (w6.alloc (.cells #[.int .i64 LT.off, .int .i64 LT.sv, .string LT.nm] 61)).frozen? ⟨w6.heap.size, i, none⟩ = false := fun i => alloc_frozen _ _ _ i
     have hqW : w6.heap.size < (w6.alloc (.cells #[.int .i64 LT.off, .int .i64 LT.sv, .string LT.nm] 61)).heap.size := by simp
     have hq5 : w5.heap.size ≤ w6.heap.size := hle6
     have hsb : w6.heap.size < (w6.alloc (.cells #[.int .i64 LT.off, .int .i64 LT.sv, .string LT.nm] 61)).heap.size := hqW
     clear hc6 hf6 hb6 hle6
     generalize (w6.alloc (.cells #[.int .i64 LT.off, .int .i64 LT.sv, .string LT.nm] 61)) = W at *
     generalize w6.heap.size = q at *)
   | (
     have hbW := (by assumption : _ ∧ _ ∧ _ ∧ _ ∧ _ ∧ _ ∧ _ ∧ _ ∧ _ ∧ Below w5.heap.size w5 (((w6.setCell _ _).setCell _ _).setCell _ _)).2.2.2.2.2.2.2.2.2
     have k0 : w6.cell? ⟨w5.heap.size, 0, none⟩ = some (.int .i64 0) := (hc6 _ _ (by simp)).trans (by simp)
     have k1 : w6.cell? ⟨w5.heap.size, 1, none⟩ = some (.int .i64 0) := (hc6 _ _ (by simp)).trans (by simp)
     have k2 : w6.cell? ⟨w5.heap.size, 2, none⟩ = some (.string ⟨#[]⟩) := (hc6 _ _ (by simp)).trans (by simp)
     have q0 : (((w6.setCell ⟨w5.heap.size, 0, none⟩ (.int .i64 LT.off)).setCell ⟨w5.heap.size, 1, none⟩ (.int .i64 LT.sv)).setCell ⟨w5.heap.size, 2, none⟩ (.string LT.nm)).cell? ⟨w5.heap.size, 0, none⟩ = some (.int .i64 LT.off) := (set3 k0 k1 k2 _ _ _).1
     have q1 : (((w6.setCell ⟨w5.heap.size, 0, none⟩ (.int .i64 LT.off)).setCell ⟨w5.heap.size, 1, none⟩ (.int .i64 LT.sv)).setCell ⟨w5.heap.size, 2, none⟩ (.string LT.nm)).cell? ⟨w5.heap.size, 1, none⟩ = some (.int .i64 LT.sv) := (set3 k0 k1 k2 _ _ _).2.1
     have q2 : (((w6.setCell ⟨w5.heap.size, 0, none⟩ (.int .i64 LT.off)).setCell ⟨w5.heap.size, 1, none⟩ (.int .i64 LT.sv)).setCell ⟨w5.heap.size, 2, none⟩ (.string LT.nm)).cell? ⟨w5.heap.size, 2, none⟩ = some (.string LT.nm) := (set3 k0 k1 k2 _ _ _).2.2
     have f0 : ∀ i, (((w6.setCell ⟨w5.heap.size, 0, none⟩ (.int .i64 LT.off)).setCell ⟨w5.heap.size, 1, none⟩ (.int .i64 LT.sv)).setCell ⟨w5.heap.size, 2, none⟩ (.string LT.nm)).frozen? ⟨w5.heap.size, i, none⟩ = false := fun i => by
      rw [World.frozen?_setCell, World.frozen?_setCell, World.frozen?_setCell]
      exact (hf6 _ _ (by simp)).trans (alloc_frozen _ _ _ i)
     have hqW : w5.heap.size < (((w6.setCell ⟨w5.heap.size, 0, none⟩ (.int .i64 LT.off)).setCell ⟨w5.heap.size, 1, none⟩ (.int .i64 LT.sv)).setCell ⟨w5.heap.size, 2, none⟩ (.string LT.nm)).heap.size := by have := hb6.size; simp at this ⊢; omega
     clear hc6 hf6 hb6 hle6 k0 k1 k2
     generalize (((w6.setCell ⟨w5.heap.size, 0, none⟩ (.int .i64 LT.off)).setCell ⟨w5.heap.size, 1, none⟩ (.int .i64 LT.sv)).setCell ⟨w5.heap.size, 2, none⟩ (.string LT.nm)) = W at *
     obtain ⟨q, hq⟩ : ∃ q, q = w5.heap.size := ⟨_, rfl⟩
     rw [← hq] at q0 q1 q2 f0 hqW ⊢
     have hq5 : w5.heap.size ≤ q := Nat.le_of_eq hq.symm
     clear hq)
  all_goals
   have R8 := Lib.hid (R5.out.on hbW)
   have HBB := Lib.hid hB5
   have HF0 := Lib.hid f0
   have HBW5 := Lib.hid hbW
   have hq5' := hq5
   have hW5 : w5.heap.size ≤ W.heap.size := hbW.size
   clear HT5 HLa HTT HM HS zc0 zc1 zc2 zc3 zc4 zc5 zc6 zc7 zc8 hb5 hd5 hB5 hF hE hS hf ht ht2 hft hq5 hbW f0
   go_wp2
   go_loopw [9, 11, 46] (fun v9 v11 i wr => ∃ k : Nat, k ≤ L.length ∧ i = .int .i64 k ∧ v11 = .bool (true || decide (0 < k)) ∧ wr.ownsRow W.heap.size 68 4 v9 ((trans LT true (L.take k)).map Prod.snd).length (((trans LT true (L.take k)).map Prod.snd).flatMap Trn.cells) ∧ Below w5.heap.size w5 wr ∧ W.heap.size ≤ wr.heap.size ∧ wr.cell? ⟨q, 0, none⟩ = some (.int .i64 (lastTy LT (L.take k)).off) ∧ wr.cell? ⟨q, 1, none⟩ = some (.int .i64 (lastTy LT (L.take k)).sv) ∧ wr.cell? ⟨q, 2, none⟩ = some (.string (lastTy LT (L.take k)).nm) ∧ Hid (∀ i, wr.frozen? ⟨q, i, none⟩ = false)) (fun _ _ i _ => L.length - (intOf i).toNat)
   case atStart => exact ⟨0, Nat.zero_le _, rfl, rfl, ⟨by simp [trans], .inl ⟨rfl, by simp [trans]⟩⟩, HBW5.out, Nat.le_refl _, q0, q1, q2, HF0.out⟩
   case round =>
     obtain ⟨k, hk, rfl, rfl, hown, hb5w, hWw, p0, p1, p2, HFz⟩ := hrel
     by_cases hlt : k < L.length
     ·obtain ⟨g5, o5, hA5, hg5, hc5⟩ : ∃ g off, A5 = some ⟨g, off, none⟩ ∧ g < w5.heap.size ∧ ∀ j, j < L.length → ∀ i u, (Trn.cells (L[j]!).2)[i]? = some u → w5.cell? ⟨g, off + j * 4 + i, none⟩ = some u := by
       rcases R5.out with ⟨h0, _⟩ | ⟨g, off, c', hv', hg, hc⟩
       ·rw [List.map_eq_nil_iff] at h0; rw [h0] at hlt; simp at hlt
       ·injection hv' with hv1 _ _
        subst hv1
        refine ⟨g, off, rfl, hg, fun j hj i u hu => hc j (by simpa using hj) i u ?_⟩
        rw [getElem!_pos (L.map Prod.snd) j (by simpa using hj), List.getElem_map, ← getElem!_pos L j hj]
        exact hu
      subst hA5
      have e0 := (hb5w.cell (p := ⟨g5, o5 + k * 4 + 0, none⟩) hg5).trans (hc5 k hlt 0 _ rfl)
      have e1 := (hb5w.cell (p := ⟨g5, o5 + k * 4 + 1, none⟩) hg5).trans (hc5 k hlt 1 _ rfl)
      have e2 := (hb5w.cell (p := ⟨g5, o5 + k * 4 + 2, none⟩) hg5).trans (hc5 k hlt 2 _ rfl)
      have e3 := (hb5w.cell (p := ⟨g5, o5 + k * 4 + 3, none⟩) hg5).trans (hc5 k hlt 3 _ rfl)
      rw [Nat.add_zero] at e0
      have hst := tr_step (LT := LT) (K := true) hlt
      have hll : (trans LT true (L.take k)).length ≤ k := by have := (trans_sub LT true (L.take k)).length_le; rw [List.length_take] at this; omega
      generalize (L[k]!).2 = x at *
      obtain ⟨xa, xt⟩ := x
      dsimp only at e0 e1 e2 e3 hst
      generalize lastTy LT (L.take k) = bt at *
      have hqr : q < wr.heap.size := Nat.lt_of_lt_of_le hqW hWw
      have hgr : g5 < wr.heap.size := Nat.lt_of_lt_of_le hg5 hb5w.size
      have hlo : ((trans LT true (L.take k)).map Prod.snd).length ≤ k := by rw [List.length_map]; exact hll
      generalize (trans LT true (L.take k)).map Prod.snd = O at *
      have HOWN := Lib.hid hown
      have HST := Lib.hid hst
      have hne := fun W => neTy xt bt W
      have hgd := gdTy
      have HFz2 := Lib.hid (fun o i => ((World.frozen?_of_block (a := ⟨q, i, none⟩) (_root_.Go.heap_alloc_old wr o (r := q) hqr)).trans (HFz.out i)))
      have HFz3 := Lib.hid (fun o o' i => ((World.frozen?_of_block (a := ⟨q, i, none⟩) (_root_.Go.heap_alloc_old (wr.alloc o) o' (r := q) (by simp; omega))).trans (HFz2.out o i)))
      have HP := Lib.hid (And.intro p0 (And.intro p1 p2))
      clear hc5 hst hown hll
      obtain ⟨kn, hkn⟩ : ∃ kn, (true || decide (0 < k)) = kn := ⟨_, rfl⟩
      rw [hkn] at HST ⊢
      have HKN := Lib.hid hkn
      clear hkn
      by_cases happ : kn = true ∧ xt ≠ bt
      ·obtain ⟨rfl, hx⟩ := happ
       have HO1 := Lib.hid (show (trans LT true (L.take (k + 1))).map Prod.snd = O ++ [⟨xa, xt⟩] by rw [HST.out.1, if_pos ⟨rfl, hx⟩])
       have hdx : decide (xt = bt) = false := decide_eq_false hx
       have hqb : Below wr.heap.size wr (wr.alloc (.cells #[.int .i64 xa, .int .i64 xt.off, .int .i64 xt.sv, .string xt.nm] 68)) := alloc_below' _ _
       have HO2 := Lib.hid (own_on HOWN.out hqb)
       have hyc := alloc_cells wr [.int .i64 xa, .int .i64 xt.off, .int .i64 xt.sv, .string xt.nm] 68
       have HYC := Lib.hid hyc
       have qne : some q ≠ u9.ownBlock := fun e => by have := (HOWN.out.lt _ e.symm).1; omega
       have wne : some wr.heap.size ≠ u9.ownBlock := fun e => by have := (HOWN.out.lt _ e.symm).2; omega
       clear hyc hx
       go_wp2_with (at_builtin; go_loud (refine wpList_append_own _ rfl (.tmp 57) (.tmp 59) _ rfl W.heap.size 68 i0 _ 4 40 Tryz.underlying62 hi0 hz0 hz1 hz2 rfl (by decide) _ _ _ rfl (HO2.out.alloc _) ⟨_, 0, none⟩ 1 1 (Trn.cells ⟨xa, xt⟩) rfl rfl (new_row_at (by simp) _) (trn_one _) (by simp only [maxLen]; omega) (by omega) (by simp; omega) ?_); intro v' w2 hown2 hg2 _; have y1 : w2.cell? ⟨wr.heap.size, 1, none⟩ = some (.int .i64 xt.off) := hg2.cell (Lib.cell?_alloc_some _ (HYC.out 1 _ rfl)) wne; have y2 : w2.cell? ⟨wr.heap.size, 2, none⟩ = some (.int .i64 xt.sv) := hg2.cell (Lib.cell?_alloc_some _ (HYC.out 2 _ rfl)) wne; have y3 : w2.cell? ⟨wr.heap.size, 3, none⟩ = some (.string xt.nm) := hg2.cell (Lib.cell?_alloc_some _ (HYC.out 3 _ rfl)) wne; have p0' : w2.cell? ⟨q, 0, none⟩ = some (.int .i64 bt.off) := hg2.cell (Lib.cell?_alloc_some _ (Lib.cell?_alloc_some _ HP.out.1)) qne; have p1' : w2.cell? ⟨q, 1, none⟩ = some (.int .i64 bt.sv) := hg2.cell (Lib.cell?_alloc_some _ (Lib.cell?_alloc_some _ HP.out.2.1)) qne; have p2' : w2.cell? ⟨q, 2, none⟩ = some (.string bt.nm) := hg2.cell (Lib.cell?_alloc_some _ (Lib.cell?_alloc_some _ HP.out.2.2)) qne; have f2 : ∀ i, w2.frozen? ⟨q, i, none⟩ = false := fun i => (World.frozen?_of_block (a := ⟨q, i, none⟩) (hg2.block q (by simp; omega) qne)).trans (HFz3.out _ _ i))
       have hB8 : Below w5.heap.size w5 ((wr.alloc (.cells #[.int .i64 xa, .int .i64 xt.off, .int .i64 xt.sv, .string xt.nm] 68)).alloc (.cells (Trn.cells ⟨xa, xt⟩).toArray 68)) := (hb5w.trans (hqb.mono hb5w.size)).alloc (by have := hb5w.size; simp; omega) _
       have hB9 : Below w5.heap.size w5 w2 := hB8.grown hg2 hB8.size fun g e => Nat.le_trans hW5 (HO2.out.lt g e).1
       have hW2 : W.heap.size ≤ w2.heap.size := Nat.le_trans hWw (by have := hg2.size; simp at this; omega)
       have hs3 := set3 p0' p1' p2' (.int .i64 xt.off) (.int .i64 xt.sv) (.string xt.nm)
       have HS3 := Lib.hid hs3
       have HF3 := Lib.hid (set3_frozen f2 (.int .i64 xt.off) (.int .i64 xt.sv) (.string xt.nm))
       have hO9 : w2.ownsRow W.heap.size 68 4 v' (O ++ [(⟨xa, xt⟩ : Trn)]).length ((O ++ [(⟨xa, xt⟩ : Trn)]).flatMap Trn.cells) := own_snoc (es := O) (x := (⟨xa, xt⟩ : Trn)) hown2
       clear hs3 f2
       go_roundw
       case rel => exact ⟨k + 1, by omega, by go_num, by simp, by rw [HO1.out]; exact set3_own hO9 hqW _ _ _, set3_below hB9 hq5' _ _ _, by simp; exact hW2, by rw [HST.out.2]; exact HS3.out.1, by rw [HST.out.2]; exact HS3.out.2.1, by rw [HST.out.2]; exact HS3.out.2.2, HF3.out⟩
       case measure => simp [intOf]; omega
      ·have HO1 := Lib.hid (show (trans LT true (L.take (k + 1))).map Prod.snd = O by rw [HST.out.1, if_neg happ, List.append_nil])
       have hqb : Below wr.heap.size wr (wr.alloc (.cells #[.int .i64 xa, .int .i64 xt.off, .int .i64 xt.sv, .string xt.nm] 68)) := alloc_below' _ _
       have HO2 := Lib.hid (own_on HOWN.out hqb)
       have HS3 := Lib.hid (set3 p0 p1 p2 (.int .i64 xt.off) (.int .i64 xt.sv) (.string xt.nm))
       have HO3 := Lib.hid (set3_own HOWN.out hqW (.int .i64 xt.off) (.int .i64 xt.sv) (.string xt.nm))
       have HB3 := Lib.hid (set3_below hb5w hq5' (.int .i64 xt.off) (.int .i64 xt.sv) (.string xt.nm))
       have HFW := Lib.hid (set3_frozen HFz.out (.int .i64 xt.off) (.int .i64 xt.sv) (.string xt.nm))
       have hs3 : (((wr.setCell ⟨q, 0, none⟩ (.int .i64 xt.off)).setCell ⟨q, 1, none⟩ (.int .i64 xt.sv)).setCell ⟨q, 2, none⟩ (.string xt.nm)).heap.size = wr.heap.size := by simp
       have HSZ := Lib.hid hs3
       have HW3 := Lib.hid (after3 (o := (.cells #[.int .i64 xa, .int .i64 xt.off, .int .i64 xt.sv, .string xt.nm] 68)) HO3.out HB3.out HS3.out HFW.out (by omega) (by omega))
       clear hs3
       have hfr := HFz.out
       have hcase : kn = false ∨ (kn = true ∧ xt = bt) := by
        cases kn
        ·exact .inl rfl
        ·exact .inr ⟨rfl, Classical.not_not.1 fun e => happ ⟨rfl, e⟩⟩
       clear happ
       rcases hcase with rfl | ⟨rfl, hx⟩
       ·go_wp2
        go_roundw
        case rel => exact ⟨k + 1, by omega, by go_num, by simp, by rw [HO1.out]; exact HW3.out.1, HW3.out.2.1, by have := HSZ.out; simp; omega, by rw [HST.out.2]; exact HW3.out.2.2.1, by rw [HST.out.2]; exact HW3.out.2.2.2.1, by rw [HST.out.2]; exact HW3.out.2.2.2.2.1, HW3.out.2.2.2.2.2⟩
        case measure => simp [intOf]; omega
       ·have hdx : decide (xt = bt) = true := decide_eq_true hx
        clear hx
        go_wp2
        go_roundw
        case rel => exact ⟨k + 1, by omega, by go_num, by simp, by rw [HO1.out]; exact HW3.out.1, HW3.out.2.1, by have := HSZ.out; simp; omega, by rw [HST.out.2]; exact HW3.out.2.2.1, by rw [HST.out.2]; exact HW3.out.2.2.2.1, by rw [HST.out.2]; exact HW3.out.2.2.2.2.1, HW3.out.2.2.2.2.2⟩
        case measure => simp [intOf]; omega
     ·have hk' : k = L.length := by omega
      subst hk'
      rw [List.take_length] at hown
      have HB5 := Lib.hid hb5w
      clear p0 p1 p2
      go_wp2
      go_ret
      rw [hkS]
      exact ⟨u9, rfl, rd_of_own trn_len (v := u9) hown rfl, HBB.out.trans (HB5.out.mono (Nat.le_of_lt hsz5)), fun g hg => Nat.le_trans HBB.out.size (Nat.le_trans hW5 (hown.lt g hg).1)⟩
end Go.Proofs.YtdpbhjaicgkblaaGreatDoor

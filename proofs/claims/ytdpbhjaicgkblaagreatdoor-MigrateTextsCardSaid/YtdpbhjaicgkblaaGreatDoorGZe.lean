/- Joined by merge.py: ZoneW4, Back, ZoneW5. -/
import Derived.Test.YtdpbhjaicgkblaaGreatDoorGZc
import Derived.Shelf.SlSorted.Search
import Derived.Test.YtdpbhjaicgkblaaGreatDoorGRange
import Derived.Test.YtdpbhjaicgkblaaGreatDoorGCrowd
import Derived.Test.YtdpbhjaicgkblaaGreatDoorGSu
/- zone.tail at any zone; zone.search. -/
namespace Go.Proofs.YtdpbhjaicgkblaaGreatDoor
set_option linter.unusedSimpArgs false
set_option linter.unusedVariables false
open Go.ChangeShapes Go.WideShapes Go.ChangeAt Go.RowKit
def TailEnd (z : Zn) (f t : Int) (w : World) (e : Ending) (w' : World) : Prop := ∃ v, e = .returned v ∧ Rd Trn.cells 4 w' v (z.tailL f t) ∧ Below w.heap.size w w' ∧ FrB w.heap.size v
set_option maxRecDepth 100000 in
set_option maxHeartbeats 1000000 in
theorem tail_none (z : Zn) (vT vR : Value) (f t : Int) (w : World) (hl : z.tail.length ≤ 1000000) (hR : Rd Rule.cells 11 w vR z.tail) (h : z.tail = [] ∨ min t 9999 < max f z.year) :
  Calls Tryz.prog 196 #[z.v vT vR, .int .i64 f, .int .i64 t] w (TailEnd z f t w) := by
 have hres : z.tailL f t = [] := if_pos h
 unfold TailEnd
 rw [hres]
 obtain ⟨AR, cR, rfl⟩ := rd_vf hR
 clear hR hres
 unfold Zn.v
 by_cases h0 : z.tail = []
 ·rw [h0] at *
  clear h hl
  rw [List.length_nil]
  go_enter Tryz.func196, Tryz.ntmps196
  go_wp2
  go_ret
  exact ⟨_, rfl, .inl ⟨rfl, _, _, rfl⟩, (Below.refl _ _).alloc (Nat.le_refl _) _, fun g hg => by cases hg⟩
 ·have hab : min t 9999 < max f z.year := h.resolve_left h0
  obtain ⟨F, hF⟩ : ∃ F, max f z.year = F := ⟨_, rfl⟩
  obtain ⟨E, hE⟩ : ∃ E, min t 9999 = E := ⟨_, rfl⟩
  rw [hF, hE] at hab
  have hne0 : ((z.tail.length : Int) == 0) = false := by
   have : 0 < z.tail.length := List.length_pos_iff.2 h0
   simp; omega
  clear h h0
  go_enter Tryz.func196, Tryz.ntmps196
  go_wp2
  go_ret
  exact ⟨_, rfl, .inl ⟨rfl, _, _, rfl⟩, (Below.refl _ _).alloc (Nat.le_refl _) _, fun g hg => by cases hg⟩
theorem tail_any (z : Zn) (vT vR : Value) (f t : Int) (w : World) (hm : HasMax w) (hl : z.table.length ≤ 1000000) (hT : Rd Trn.cells 4 w vT z.table) (hR : Rd Rule.cells 11 w vR z.tail) (hfs : z.form.size < 4294967281) (hll : z.tail.length ≤ 12) (hp : z.tail ≠ [] → TailOk z) (hf : -100000 ≤ f ∧ f ≤ 100000) (ht : t - f ≤ 10) (ht2 : -100000 ≤ t) :
  Calls Tryz.prog 196 #[z.v vT vR, .int .i64 f, .int .i64 t] w (TailEnd z f t w) := by
 by_cases h : z.tail = [] ∨ min t 9999 < max f z.year
 ·exact tail_none z vT vR f t w (by omega) hR h
 ·have h1 : z.tail ≠ [] := fun e => h (.inl e)
  have h2 : max f z.year ≤ min t 9999 := by
   have : ¬ min t 9999 < max f z.year := fun e => h (.inr e)
   omega
  unfold TailEnd
  rw [show z.tailL f t = (z.winW (max f z.year) (min t 9999)).map Prod.snd from if_neg h]
  exact tail_main z vT vR f t w hm hl hT hR hfs hll h1 (hp h1) hf ht ht2 h2
/-! ### the search in the table -/
def Tryz.searchRen : Go.Shelf.Ren := ⟨fun | 16 => 217 | n => n, fun | 3 => 3 | 4 => 4 | 35 => 93 | 38 => 214 | n => n, fun | n => n⟩
theorem Tryz.searchL : Go.Proofs.SlLaysO.n16 Tryz.prog Tryz.searchRen := {
 mixed := by kernel_rfl
 f16 := Tryz.func217.trans (congrArg some (by kernel_rfl))
 t3 := Tryz.underlying3
 a3 := Tryz.isAgg3
 z3 := Tryz.sizeOf3
 v3 := Tryz.zeroValue3
 t4 := Tryz.underlying4
 a4 := Tryz.isAgg4
 z4 := Tryz.sizeOf4
 v4 := Tryz.zeroValue4
 t35 := Tryz.underlying93
 a35 := Tryz.isAgg93
 z35 := Tryz.sizeOf93
 v35 := Tryz.zeroValue93
 t38 := Tryz.underlying214
 a38 := Tryz.isAgg214
 z38 := Tryz.sizeOf214
 v38 := Tryz.zeroValue214 }
set_option maxHeartbeats 1000000 in
theorem search_fn (W : World) (B T g off c n i : Nat) (t a : Int) (hi : i < n) (hn : n ≤ 1000000) (hz : W.cell? ⟨B, 4, none⟩ = some (.slice (some ⟨g, off, none⟩) n c)) (ht : W.cell? ⟨T, 0, none⟩ = some (.int .i64 t)) (hc : W.cell? ⟨g, off + i * 4, none⟩ = some (.int .i64 a)) :
  Calls Tryz.prog 218 (#[.int .i64 i] ++ #[.pointer (some ⟨B, 0, none⟩), .pointer (some ⟨T, 0, none⟩)]) W fun e w' => e = .returned (.bool (decide (t < a))) ∧ ∃ q, w' = W.drewN q := by
 have hiz : (i : Int) < (n : Int) := by omega
 go_enter Tryz.func218, Tryz.ntmps218
 go_wp2
 go_region
 all_goals go_wp2
 all_goals go_ret
 all_goals exact ⟨by first | rfl | simp, 1, rfl⟩
theorem countP_range_list {α : Type} [Inhabited α] (d : List α) (f : α → Bool) : (List.range d.length).countP (fun i => f d[i]!) = d.countP f := by
 have h : d = (List.range d.length).map (fun i => d[i]!) := by
  apply List.ext_getElem
  ·simp
  ·intro i h1 h2
   simp only [List.getElem_map, List.getElem_range]
   rw [getElem!_pos d i h1]
 conv => rhs; rw [h]
 rw [List.countP_map]
 rfl
def Zn.srch (z : Zn) (t : Int) : Nat := z.table.countP (fun x => !decide (t < x.at_))
set_option maxRecDepth 100000 in
set_option maxHeartbeats 2000000 in
theorem search_any (z : Zn) (vT vR : Value) (t : Int) (w : World) (hl : z.table.length ≤ 1000000) (hT : Rd Trn.cells 4 w vT z.table) (hs : ∀ a b, a ≤ b → b < z.table.length → (z.table[a]!).at_ ≤ (z.table[b]!).at_) :
  Calls Tryz.prog 209 #[z.v vT vR, .int .i64 t] w fun e w' => e = .returned (.int .i64 (z.srch t)) ∧ Below w.heap.size w w' := by
 obtain ⟨A, c, hv, hA⟩ : ∃ A c, vT = .slice A z.table.length c ∧ ∀ i, i < z.table.length → ∃ g off, A = some ⟨g, off, none⟩ ∧ g < w.heap.size ∧ w.cell? ⟨g, off + i * 4, none⟩ = some (.int .i64 (z.table[i]!).at_) := by
  rcases hT with ⟨h0, A, c, rfl⟩ | ⟨g, off, c, rfl, hg, hc⟩
  ·exact ⟨A, c, by rw [h0]; rfl, fun i hi => by rw [h0] at hi; simp at hi⟩
  ·exact ⟨_, c, rfl, fun i hi => ⟨g, off, rfl, hg, hc i hi 0 _ rfl⟩⟩
 subst hv
 obtain ⟨W0, hW0⟩ : ∃ W0, W0 = (w.alloc (.cells #[.string z.nm, .int .i64 z.first.off, .int .i64 z.first.sv, .string z.first.nm, .slice A z.table.length c, vR, .int .i64 z.off, .string z.form, .int .i64 z.year] 65)).alloc (.cells #[.int .i64 t] 3) := ⟨_, rfl⟩
 have hsize : W0.heap.size = w.heap.size + 1 + 1 := by rw [hW0]; simp
 have ca : W0.cell? ⟨w.heap.size, 4, none⟩ = some (.slice A z.table.length c) := by
  rw [hW0]; exact Lib.cell?_alloc_some _ (alloc_cells w [.string z.nm, .int .i64 z.first.off, .int .i64 z.first.sv, .string z.first.nm, .slice A z.table.length c, vR, .int .i64 z.off, .string z.form, .int .i64 z.year] 65 4 _ rfl)
 have cx : W0.cell? ⟨w.heap.size + 1, 0, none⟩ = some (.int .i64 t) := by
  rw [hW0]; have := cell_new_sl (w.alloc (.cells #[.string z.nm, .int .i64 z.first.off, .int .i64 z.first.sv, .string z.first.nm, .slice A z.table.length c, vR, .int .i64 z.off, .string z.form, .int .i64 z.year] 65)) (.int .i64 t) 3; rwa [World.size_alloc] at this
 have hA0 : ∀ i, i < z.table.length → ∃ g off, A = some ⟨g, off, none⟩ ∧ g < w.heap.size ∧ W0.cell? ⟨g, off + i * 4, none⟩ = some (.int .i64 (z.table[i]!).at_) := fun i hi => by
  obtain ⟨g, off, h1, h2, h3⟩ := hA i hi
  exact ⟨g, off, h1, h2, by rw [hW0]; exact Lib.cell?_alloc_some _ (Lib.cell?_alloc_some _ h3)⟩
 have eg : ∀ args w, (callFunc 218 args).run Tryz.prog w = .ok (.enter 218 args) w := enters_of Tryz.func218 (by kernel_rfl) rfl
 have hS := Any.sort_Search Tryz.searchL 218 #[.pointer (some ⟨w.heap.size, 0, none⟩), .pointer (some ⟨w.heap.size + 1, 0, none⟩)] z.table.length (fun i => decide (t < (z.table[i]!).at_)) W0 eg (by omega)
  (fun m os i hi => by
   obtain ⟨g, off, h1, h2, h3⟩ := hA0 i hi
   subst h1
   exact (search_fn _ w.heap.size (w.heap.size + 1) g off c z.table.length i t _ hi hl (cell_grown (by simp [hsize]; omega) ca m os) (cell_grown (by simp [hsize]) cx m os) (cell_grown (by simp [hsize]; omega) h3 m os)).mono
    fun _ _ ⟨he, q, hq⟩ => ⟨he, q, #[], by rw [hq, Sort.grow_empty]⟩)
  (fun a b hab hb h => by have h9 := hs a b hab hb; simp only [decide_eq_true_eq] at h ⊢; omega)
 rw [countP_range_list z.table (fun x => !decide (t < x.at_))] at hS
 change Calls Tryz.prog 217 _ _ _ at hS
 change Calls _ _ _ _ (fun e w' => e = .returned (.int .i64 (z.table.countP (fun x => !decide (t < x.at_)) : Nat)) ∧ Below w.heap.size w w')
 clear hT ca cx hA0 hA hs
 generalize z.table.countP (fun x => !decide (t < x.at_)) = r at hS ⊢
 unfold Zn.v
 go_enter Tryz.func209, Tryz.ntmps209
 go_wp2_with (go_at_call 217; rw [← hW0]; refine hS.mono ?_; rintro e w' ⟨rfl, q, os, rfl⟩)
 go_ret
 refine ⟨rfl, ?_⟩
 try rw [← hW0]
 have hB0 : Below w.heap.size w W0 := by rw [hW0]; exact ((Below.refl _ w).alloc (Nat.le_refl _) _).alloc (by simp) _
 exact hB0.trans (below_grown_sl w.heap.size W0 q os (by omega))
end Go.Proofs.YtdpbhjaicgkblaaGreatDoor
/- A copy of a list of rules, and the same turned. -/
namespace Go.Proofs.YtdpbhjaicgkblaaGreatDoor
set_option linter.unusedSimpArgs false
set_option linter.unusedVariables false
open Go.ChangeShapes Go.WideShapes Go.ChangeAt Go.RowKit Go.Lib Go.Sort
theorem infoR : (Tryz.prog.info? 74).map (fun i => (i.zero.map (·.cells.size), i.size, decide (i.bytes ≤ 1000))) = some (some 11, 11, true) := by kernel_rfl
theorem rule_one (r : Rule) : ∀ u ∈ Rule.cells r, u.oneCell' = true := by
 intro u hu
 simp [Rule.cells] at hu
 rcases hu with rfl | rfl | rfl | rfl | rfl | rfl | rfl | rfl | rfl | rfl | rfl <;> rfl
theorem rule_len (x : Rule) : (Rule.cells x).length = 11 := rfl
theorem info_rule : ∃ i0 z, Tryz.prog.info? 74 = some i0 ∧ i0.zero = some z ∧ i0.size = 11 ∧ z.cells.size = 11 ∧ i0.bytes ≤ 1000 := by
 have h := infoR
 cases hi : Tryz.prog.info? 74 with
 | none => rw [hi] at h; cases h
 | some i0 =>
  rw [hi] at h
  simp only [Option.map_some, Option.some.injEq, Prod.mk.injEq, decide_eq_true_eq] at h
  obtain ⟨h1, h2, h3⟩ := h
  cases hz : i0.zero with
  | none => rw [hz] at h1; cases h1
  | some z =>
   rw [hz] at h1
   simp only [Option.map_some, Option.some.injEq] at h1
   exact ⟨i0, z, rfl, hz, h2, h1, h3⟩
theorem rules_flat {rs : List Rule} {b off : Nat} {w : World} (hc : ∀ j, j < rs.length → ∀ i u, (Rule.cells rs[j]!)[i]? = some u → w.cell? ⟨b, off + j * 11 + i, none⟩ = some u) :
  ∀ j u, (rs.flatMap Rule.cells)[j]? = some u → w.cell? ⟨b, off + j, none⟩ = some u := by
 intro j u hu
 have hj : j < (rs.flatMap Rule.cells).length := (List.getElem?_eq_some_iff.1 hu).1
 rw [flat_len rule_len] at hj
 have hq : j / 11 < rs.length := by omega
 have hm : j % 11 < 11 := by omega
 have hg := flat_get rule_len rs (j / 11) (j % 11) hq hm
 rw [show j / 11 * 11 + j % 11 = j by omega] at hg
 rw [hg] at hu
 have h := hc (j / 11) hq (j % 11) u (by rw [← hu]; have hm2 : j % 11 < (Rule.cells rs[j / 11]!).length := hm; rw [List.getElem?_eq_getElem hm2, getElem!_pos (Rule.cells rs[j / 11]!) (j % 11) hm2])
 rw [show off + j / 11 * 11 + j % 11 = off + j by omega] at h
 exact h
theorem Clone_some (rs : List Rule) (b off c : Nat) (w : World) (hl : rs.length ≤ 1000) 
  (hc : ∀ j, j < rs.length → ∀ i u, (Rule.cells rs[j]!)[i]? = some u → w.cell? ⟨b, off + j * 11 + i, none⟩ = some u) :
  Calls Tryz.prog 116 #[.slice (some ⟨b, off, none⟩) rs.length c] w fun e w' => ∃ g cap, e = .returned (.slice (some ⟨g, 0, none⟩) rs.length cap) ∧ w.heap.size ≤ g ∧ g < w'.heap.size ∧ HoldsK Rule.cells 11 w' g 0 rs.toArray ∧ Below w.heap.size w w' := by
 obtain ⟨i0, z, hi, hz0, hz1, hz2, hz3⟩ := info_rule
 refine (Tryz.slices_Clone i0 z 11 i0.bytes hi hz0 hz1 rfl hz2 (by decide) sizeOfR b off rs.length c (rs.flatMap Rule.cells) w (flat_len rule_len rs) (by simp only [maxLen]; omega) ?_ (rules_flat hc) ?_).mono ?_
 ·have := Nat.mul_le_mul hl hz3
  omega
 ·intro u hu
  obtain ⟨r, _, h⟩ := List.mem_flatMap.1 hu
  exact rule_one r u h
 ·rintro e w' ⟨v, rfl, h1, h2, h3⟩
  obtain ⟨g, cap, rfl, h4, h5, _, _, h6⟩ := holdsK_of_own rule_len h1 rfl h2
  exact ⟨g, cap, rfl, h4, h5, h6, h3⟩
set_option maxRecDepth 100000 in
set_option maxHeartbeats 2000000 in
theorem Clone_empty (A : Option Addr) (c : Nat) (w : World) :
  Calls Tryz.prog 116 #[.slice A 0 c] w fun e w' => ∃ A' c', e = .returned (.slice A' 0 c') ∧ Below w.heap.size w w' := by
 cases A with
 | none =>
  refine (Tryz.slices_Clone_nil 0 c w).mono ?_
  rintro e w' ⟨rfl, rfl⟩
  exact ⟨none, 0, rfl, Below.refl _ _⟩
 | some a =>
  obtain ⟨i0, z, hi, hz0, hz1, hz2, hz3⟩ := info_rule
  have q37 : ∀ (w : World) (a : Option Addr) (n c n' c' : Nat), (binOp .eql 63 (.slice a n c) (.slice none n' c')).run Tryz.prog w = .ok (.bool a.isNone) w := fun w a n c n' c' => Lib.run_eql_slice_nil w _ _ a n c n' c' Tryz.underlying63
  go_enter Tryz.func116, Tryz.ntmps116
  go_wp2_with (at_builtin; refine wpList_append_own _ rfl _ _ 63 rfl w.heap.size 74 i0 z 11 i0.bytes Tryz.underlying63 hi hz0 hz1 rfl hz2 (by decide) _ _ _ rfl (World.ownsRow_made w #[] 0 (Nat.le_refl _) (Nat.zero_le _) (by simp)) a 0 c [] rfl ?qc1 ?qc2 ?qc3 ?qc4 ?qc5 ?qc6 ?_)
  case qc1 => rfl
  case qc2 => intro j u hj; simp at hj
  case qc3 => intro u hu; cases hu
  case qc4 => simp [maxLen]
  case qc5 => simp
  case qc6 => simp
  intro v' w1 hown hgrow hnil
  go_wp2
  go_ret
  have hv : ∃ A' c', v' = .slice A' 0 c' := by
   rcases hown.2 with ⟨rfl, _⟩ | ⟨g, cap, cur, rfl, _⟩
   ·exact ⟨none, 0, rfl⟩
   ·exact ⟨_, cap, rfl⟩
  obtain ⟨A', c', rfl⟩ := hv
  exact ⟨A', c', rfl, ((Below.refl _ w).alloc (Nat.le_refl _) _).grown hgrow (by simp) (by intro k hk; simp [Value.ownBlock] at hk; omega)⟩
def Copied (B : Nat) (w : World) (A : Option Addr) (rs : List Rule) : Prop := rs = [] ∨ ∃ g, A = some ⟨g, 0, none⟩ ∧ B ≤ g ∧ g < w.heap.size ∧ HoldsK Rule.cells 11 w g 0 rs.toArray
theorem Clone_any (rs : List Rule) (A : Option Addr) (c : Nat) (w : World) (hl : rs.length ≤ 1000) (h : Rd Rule.cells 11 w (.slice A rs.length c) rs) :
  Calls Tryz.prog 116 #[.slice A rs.length c] w fun e w' => ∃ A' c', e = .returned (.slice A' rs.length c') ∧ Copied w.heap.size w' A' rs ∧ Below w.heap.size w w' := by
 by_cases h0 : rs = []
 ·subst h0
  refine (Clone_empty A c w).mono ?_
  rintro e w' ⟨A', c', rfl, h1⟩
  exact ⟨A', c', rfl, .inl rfl, h1⟩
 ·rcases h with ⟨h1, _⟩ | ⟨g, off, c', hv, hg, hc⟩
  ·exact absurd h1 h0
  ·cases hv
   refine (Clone_some rs g off c w hl hc).mono ?_
   rintro e w' ⟨g', cap, rfl, h1, h2, h3, h4⟩
   exact ⟨_, cap, rfl, .inr ⟨g', rfl, h1, h2, h3⟩, h4⟩
end Go.Proofs.YtdpbhjaicgkblaaGreatDoor
/- zone.tailed: the rules of the tail, and the tail as a whole. -/
namespace Go.Proofs.YtdpbhjaicgkblaaGreatDoor
set_option linter.unusedSimpArgs false
set_option linter.unusedVariables false
open Go.ChangeShapes Go.WideShapes Go.ChangeAt Go.RowKit Go.Lib Go.Sort
theorem all_step {α : Type} [Inhabited α] {p : α → Bool} {l : List α} {k : Nat} (hk : k < l.length) (h : (l.take k).all p = true) (h2 : p l[k]! = true) : (l.take (k + 1)).all p = true := by
 rw [List.take_succ_eq_append_getElem hk, List.all_append, h, List.all_cons, List.all_nil, ← getElem!_pos l k hk, h2]; rfl
theorem all_not {α : Type} [Inhabited α] {p : α → Bool} {l : List α} {k : Nat} (hk : k < l.length) (h2 : p l[k]! = false) : l.all p = false := by
 rw [List.all_eq_false]
 exact ⟨l[k]!, by rw [getElem!_pos l k hk]; exact List.getElem_mem hk, by rw [h2]; exact Bool.false_ne_true⟩
theorem notR {to fr y ee : Int} (h : ¬ (to = 9999 ∧ fr ≤ y ∧ ee = 0)) : (true && (decide (to = 9999) && (decide (fr ≤ y) && decide (ee = 0)))) = false := by
 by_cases h1 : to = 9999 <;> by_cases h2 : fr ≤ y <;> by_cases h3 : ee = 0 <;> simp_all
theorem isR {to fr y ee : Int} (h : to = 9999 ∧ fr ≤ y ∧ ee = 0) : (true && (decide (to = 9999) && (decide (fr ≤ y) && decide (ee = 0)))) = true := by simp [h.1, h.2.1, h.2.2]
theorem form_empty (s : ByteArray) : s.toList.isEmpty = (true && decide (s.size = 0)) := by
 rw [← toList_len, Bool.true_and, Bool.eq_iff_iff, decide_eq_true_eq, List.isEmpty_iff, List.length_eq_zero_iff]
set_option maxHeartbeats 1000000 in
theorem tailed_empty (z : Zn) (vT vR : Value) (w : World) (hR : Rd Rule.cells 11 w vR z.tail) (h0 : z.tail = []) :
  Calls Tryz.prog 107 #[z.v vT vR] w fun e w' => e = .returned (.bool z.tailB) ∧ Below w.heap.size w w' := by
 have hres : z.tailB = (decide (z.year = 0 ∧ z.off = 0) && decide (z.form.size = 0)) := if_pos h0
 rw [hres]
 obtain ⟨AR, cR, rfl⟩ := rd_vf hR
 clear hR hres
 unfold Zn.v
 rw [h0, List.length_nil]
 by_cases h1 : z.year = 0
 ·have b1 : (z.year == 0) = true := by simpa using h1
  by_cases h2 : z.off = 0
  ·have b2 : (z.off == 0) = true := by simpa using h2
   rw [decide_eq_true (show z.year = 0 ∧ z.off = 0 from ⟨h1, h2⟩)]
   go_enter Tryz.func107, Tryz.ntmps107
   go_wp2
   go_ret
   exact ⟨ret1 (vbool (form_empty z.form)), (Below.refl _ _).alloc (Nat.le_refl _) _⟩
  ·have b2 : (z.off == 0) = false := by simpa using h2
   rw [decide_eq_false (show ¬ (z.year = 0 ∧ z.off = 0) from fun e => h2 e.2)]
   go_enter Tryz.func107, Tryz.ntmps107
   go_wp2
   go_ret
   exact ⟨rfl, (Below.refl _ _).alloc (Nat.le_refl _) _⟩
 ·have b1 : (z.year == 0) = false := by simpa using h1
  rw [decide_eq_false (show ¬ (z.year = 0 ∧ z.off = 0) from fun e => h1 e.1)]
  go_enter Tryz.func107, Tryz.ntmps107
  go_wp2
  go_ret
  exact ⟨rfl, (Below.refl _ _).alloc (Nat.le_refl _) _⟩
set_option maxHeartbeats 2000000 in
theorem tailed_out (z : Zn) (vT vR : Value) (w : World) (hll : z.tail.length ≤ 12) (hR : Rd Rule.cells 11 w vR z.tail) (h0 : z.tail ≠ []) (hb : ¬ (1 ≤ z.year ∧ z.year ≤ 9999 ∧ -57600 ≤ z.off ∧ z.off ≤ 57600)) :
  Calls Tryz.prog 107 #[z.v vT vR] w fun e w' => e = .returned (.bool z.tailB) ∧ Below w.heap.size w w' := by
 have hres : z.tailB = false := by unfold Zn.tailB; rw [if_neg h0, decide_eq_false (fun e => hb e.2)]; rfl
 rw [hres]
 obtain ⟨AR, cR, rfl⟩ := rd_vf hR
 have hne0 : ((z.tail.length : Int) == 0) = false := by
  have : 0 < z.tail.length := List.length_pos_iff.2 h0
  simp; omega
 have hn1 : decide ((100 : Int) < (z.tail.length : Int)) = false := decide_eq_false (by omega)
 clear hR hres
 unfold Zn.v
 by_cases h1 : z.year < 1
 ·have d1 : decide (z.year < 1) = true := decide_eq_true h1
  go_enter Tryz.func107, Tryz.ntmps107
  go_wp2
  go_ret
  exact ⟨rfl, (Below.refl _ _).alloc (Nat.le_refl _) _⟩
 have d1 : decide (z.year < 1) = false := decide_eq_false h1
 by_cases h2 : 9999 < z.year
 ·have d2 : decide (9999 < z.year) = true := decide_eq_true h2
  go_enter Tryz.func107, Tryz.ntmps107
  go_wp2
  go_ret
  exact ⟨rfl, (Below.refl _ _).alloc (Nat.le_refl _) _⟩
 have d2 : decide (9999 < z.year) = false := decide_eq_false h2
 by_cases h3 : z.off < -57600
 ·have d3 : decide (z.off < -57600) = true := decide_eq_true h3
  go_enter Tryz.func107, Tryz.ntmps107
  go_wp2
  go_ret
  exact ⟨rfl, (Below.refl _ _).alloc (Nat.le_refl _) _⟩
 have d3 : decide (z.off < -57600) = false := decide_eq_false h3
 have h4 : 57600 < z.off := by omega
 have d4 : decide (57600 < z.off) = true := decide_eq_true h4
 go_enter Tryz.func107, Tryz.ntmps107
 go_wp2
 go_ret
 exact ⟨rfl, (Below.refl _ _).alloc (Nat.le_refl _) _⟩
/-! the first happening of the tail, sought in windows -/
def Zn.quietTo (z : Zn) (y : Int) : Prop := z.happ z.lastT.sv (evT z.tail z.year (min y 10000 - z.year).toNat) = []
theorem aft_nil {z : Zn} : ∀ {s : Int} {xs : List (Int × Int × Int)}, z.happ s xs = [] → z.aft s xs = s
 | s, [], _ => rfl
 | s, x :: xs, h => by
  rw [Zn.happ] at h
  rw [Zn.aft]
  split at h
  ·rename_i h1
   rw [if_pos h1]; exact aft_nil h
  ·cases h
theorem quiet_zero (z : Zn) (h : z.year ≤ 10000) : z.quietTo z.year := by
 unfold Zn.quietTo
 rw [show (min z.year 10000 - z.year).toNat = 0 by omega]; rfl
theorem quiet_split {z : Zn} {y : Int} (h1 : z.year ≤ y) (h2 : y ≤ 9999) (hq : z.quietTo y) (n : Nat) : z.happ z.lastT.sv (evT z.tail z.year ((y - z.year).toNat + n)) = z.happ z.lastT.sv (evT z.tail y n) := by
 unfold Zn.quietTo at hq
 rw [show min y 10000 = y by omega] at hq
 rw [evT_add, happ_append, hq, aft_nil hq, List.nil_append, show z.year + ((y - z.year).toNat : Int) = y by omega]
theorem hapL_of {z : Zn} (h : z.tail ≠ []) {y : Int} (h2 : y ≤ 9999) : z.hapL y (min (y + 8) 9999) = (z.happ z.lastT.sv (evT z.tail y (min (y + 8) 9999 - y + 1).toNat)).map Prod.snd := if_neg (by rintro (e | e); exact h e; omega)
theorem quiet_step {z : Zn} (h : z.tail ≠ []) {y : Int} (h1 : z.year ≤ y) (h2 : y ≤ 9999) (hq : z.quietTo y) (he : z.hapL y (min (y + 8) 9999) = []) : z.quietTo (y + 9) := by
 rw [hapL_of h h2, List.map_eq_nil_iff] at he
 unfold Zn.quietTo
 rw [show (min (y + 9) 10000 - z.year).toNat = (y - z.year).toNat + (min (y + 8) 9999 - y + 1).toNat by omega, quiet_split h1 h2 hq]
 exact he
theorem quiet_hit {z : Zn} (h : z.tail ≠ []) (ht : z.table ≠ []) {y : Int} (h1 : z.year ≤ y) (h2 : y ≤ 9999) (hq : z.quietTo y) {x : Trn} {xs : List Trn} (he : z.hapL y (min (y + 8) 9999) = x :: xs) : z.behindB = decide (z.lastAt < x.at_) := by
 rw [hapL_of h h2] at he
 obtain ⟨p, l, e1, e2, e3⟩ := List.map_eq_cons_iff.1 he
 unfold Zn.behindB Zn.HF
 rw [show (10000 - z.year).toNat = (y - z.year).toNat + ((min (y + 8) 9999 - y + 1).toNat + (10000 - (min (y + 8) 9999 + 1)).toNat) by omega, quiet_split h1 h2 hq, evT_add, happ_append, e1]
 rw [show z.table.isEmpty = false by cases hx : z.table with | nil => exact absurd hx ht | cons => rfl]
 subst e2
 rfl
theorem quiet_end {z : Zn} {y : Int} (hy : 9999 < y) (hq : z.quietTo y) : z.behindB = true := by
 unfold Zn.quietTo at hq
 rw [show min y 10000 = 10000 by omega] at hq
 unfold Zn.behindB Zn.HF
 rw [hq]
 cases z.table.isEmpty <;> rfl
/-! the years that are written into the copy of the rules -/
def YS (w1 wx : World) (g k : Nat) (Y : Int) : Prop := (∀ o, wx.cell? ⟨g, o, none⟩ = if o % 11 = 1 ∧ o / 11 < k then some (.int .i64 Y) else w1.cell? ⟨g, o, none⟩) ∧ ∀ o, wx.frozen? ⟨g, o, none⟩ = w1.frozen? ⟨g, o, none⟩
theorem YS.zero (w1 : World) (g : Nat) (Y : Int) : YS w1 w1 g 0 Y := ⟨fun o => by rw [if_neg (by omega)], fun _ => rfl⟩
theorem YS.step {w1 wx : World} {g k : Nat} {Y : Int} (h : YS w1 wx g k Y) {v : Value} (hs : wx.cell? ⟨g, k * 11 + 1, none⟩ = some v) : YS w1 (wx.setCell ⟨g, k * 11 + 1, none⟩ (.int .i64 Y)) g (k + 1) Y := by
 refine ⟨fun o => ?_, fun o => by rw [World.frozen?_setCell]; exact h.2 o⟩
 by_cases ho : o = k * 11 + 1
 ·subst ho
  rw [World.cell?_setCell_same' wx ⟨g, k * 11 + 1, none⟩ _ (by rw [hs]; rfl), if_pos (by omega)]
 ·rw [setNe wx ⟨g, k * 11 + 1, none⟩ ⟨g, o, none⟩ _ (by intro e; injection e with _ e2; exact ho e2.symm), h.1 o]
  by_cases h1 : o % 11 = 1 ∧ o / 11 < k
  ·rw [if_pos h1, if_pos ⟨h1.1, by omega⟩]
  ·rw [if_neg h1, if_neg (by omega)]
theorem YS.rd {z : Zn} {w1 wx : World} {g c : Nat} (h : YS w1 wx g z.tail.length z.year) (hg : g < wx.heap.size) (hH : HoldsK Rule.cells 11 w1 g 0 z.tail.toArray) : Rd Rule.cells 11 wx (.slice (some ⟨g, 0, none⟩) z.tail.length c) z.rules0 := by
 have hl : z.rules0.length = z.tail.length := by simp [Zn.rules0]
 rw [← hl]
 refine .inr ⟨g, 0, c, rfl, hg, fun j hj i u hu => ?_⟩
 rw [hl] at hj
 have hi : i < 11 := (List.getElem?_eq_some_iff.1 hu).1
 have hr : z.rules0[j]! = { z.tail[j]! with fr := z.year } := by
  rw [getElem!_pos z.rules0 j (by rw [hl]; exact hj), getElem!_pos z.tail j hj]
  simp [Zn.rules0]
 rw [hr] at hu
 rw [h.1]
 by_cases h1 : i = 1
 ·subst h1
  rw [if_pos (by omega)]
  exact hu
 ·rw [if_neg (by omega)]
  have hc := HoldsK.cells hH rule_len (i := j) (by simpa using hj) i u
  rw [List.getElem!_toArray] at hc
  have := hc (by
   rw [← hu]
   rcases i with _ | _ | _ | _ | _ | _ | _ | _ | _ | _ | _ | i <;> first | rfl | exact absurd rfl h1 | omega)
  rw [Addr.add_lit] at this
  exact this
set_option maxRecDepth 100000 in
set_option maxHeartbeats 8000000 in
theorem tailed_rules (z : Zn) (vT vR : Value) (w : World) (hm : HasMax w) (hl : z.table.length ≤ 1000) (hT : Rd Trn.cells 4 w vT z.table) (hR : Rd Rule.cells 11 w vR z.tail) (hfs : z.form.size < 4294967281) (hll : z.tail.length ≤ 12) (h0 : z.tail ≠ []) (hb : 1 ≤ z.year ∧ z.year ≤ 9999 ∧ -57600 ≤ z.off ∧ z.off ≤ 57600) (hh : z.headB = true) :
  Calls Tryz.prog 107 #[z.v vT vR] w fun e w' => e = .returned (.bool z.tailB) ∧ Below w.heap.size w w' := by
 have H0 := Lib.hid h0
 have HHD := Lib.hid hh
 have hTB : z.tailB = (z.tail.all z.ruleB && (spacedF z.rules0 && z.behindB)) := by unfold Zn.tailB; rw [if_neg h0, decide_eq_true ⟨by omega, hb⟩]; rfl
 have hne0 : ((z.tail.length : Int) == 0) = false := by
  have : 0 < z.tail.length := List.length_pos_iff.2 h0
  simp; omega
 have hn1 : decide ((100 : Int) < (z.tail.length : Int)) = false := decide_eq_false (by omega)
 have d1 : decide (z.year < 1) = false := decide_eq_false (by omega)
 have d2 : decide (9999 < z.year) = false := decide_eq_false (by omega)
 have d3 : decide (z.off < -57600) = false := decide_eq_false (by omega)
 have d4 : decide (57600 < z.off) = false := decide_eq_false (by omega)
 obtain ⟨B, hB⟩ : ∃ B, z.tailB = B := ⟨_, rfl⟩
 rw [hB]
 rw [hTB] at hB
 have HB := Lib.hid hB
 have HTT := Lib.hid hT
 have HRR := Lib.hid hR
 have HM := Lib.hid hm
 obtain ⟨AT, cT, rfl⟩ := rd_vf hT
 obtain ⟨g, off, cR, rfl, hg, hc⟩ : ∃ g off c, vR = .slice (some ⟨g, off, none⟩) z.tail.length c ∧ g < w.heap.size ∧ ∀ j, j < z.tail.length → ∀ i u, (Rule.cells z.tail[j]!)[i]? = some u → w.cell? ⟨g, off + j * 11 + i, none⟩ = some u := by
  rcases hR with ⟨e, _⟩ | ⟨g, off, c, rfl, hg, hc⟩
  ·exact absurd e h0
  ·exact ⟨g, off, c, rfl, hg, hc⟩
 have HC := Lib.hid hc
 have hzc := alloc_cells w [.string z.nm, .int .i64 z.first.off, .int .i64 z.first.sv, .string z.first.nm, .slice AT z.table.length cT, .slice (some ⟨g, off, none⟩) z.tail.length cR, .int .i64 z.off, .string z.form, .int .i64 z.year] 65
 have hbz : Below w.heap.size w (w.alloc (.cells #[.string z.nm, .int .i64 z.first.off, .int .i64 z.first.sv, .string z.first.nm, .slice AT z.table.length cT, .slice (some ⟨g, off, none⟩) z.tail.length cR, .int .i64 z.off, .string z.form, .int .i64 z.year] 65)) := (Below.refl _ _).alloc (Nat.le_refl _) _
 have hszz : w.heap.size < (w.alloc (.cells #[.string z.nm, .int .i64 z.first.off, .int .i64 z.first.sv, .string z.first.nm, .slice AT z.table.length cT, .slice (some ⟨g, off, none⟩) z.tail.length cR, .int .i64 z.off, .string z.form, .int .i64 z.year] 65)).heap.size := by simp
 have HZC := Lib.hid hzc
 have HBZ := Lib.hid hbz
 clear hT hR hm hzc hbz hTB hB hc h0 hh
 unfold Zn.v
 go_enter Tryz.func107, Tryz.ntmps107
 go_wp2_with fail
 generalize w.alloc (.cells #[.string z.nm, .int .i64 z.first.off, .int .i64 z.first.sv, .string z.first.nm, .slice AT z.table.length cT, .slice (some ⟨g, off, none⟩) z.tail.length cR, .int .i64 z.off, .string z.form, .int .i64 z.year] 65) = wz at *
 go_loopw [56] (fun i wr => ∃ k : Nat, k ≤ z.tail.length ∧ i = .int .i64 k ∧ Hid ((z.tail.take k).all z.ruleB = true) ∧ Below wz.heap.size wz wr) (fun i _ => z.tail.length - (intOf i).toNat)
 case atStart => exact ⟨0, Nat.zero_le _, rfl, by simp [RowKit.Hid], Below.refl _ _⟩
 case round =>
  obtain ⟨k, hk, rfl, HR, hbw⟩ := hrel
  have hszr : w.heap.size < wr.heap.size := Nat.lt_of_lt_of_le hszz hbw.size
  have hbw0 : Below w.heap.size w wr := HBZ.out.trans (hbw.mono (Nat.le_of_lt hszz))
  have HM2 := Lib.hid (HM.out.on hbw0)
  have zc := fun i u h => (hbw.cell (p := ⟨w.heap.size, i, none⟩) hszz).trans (HZC.out i u h)
  have zc4 := zc 4 _ rfl
  have zc5 := zc 5 _ rfl
  have zc7 := zc 7 _ rfl
  have zc8 := zc 8 _ rfl
  clear zc
  by_cases hlt : k < z.tail.length
  ·have hYES := Lib.hid (fun h => all_step (p := z.ruleB) hlt HR.out h)
   have hNO := Lib.hid (fun h => all_not (p := z.ruleB) hlt h)
   have hcw := fun i u h => (hbw0.cell (p := ⟨g, off + k * 11 + i, none⟩) hg).trans (HC.out k hlt i u h)
   have e0 := hcw 0 _ rfl
   have e1 := hcw 1 _ rfl
   have e2 := hcw 2 _ rfl
   have e3 := hcw 3 _ rfl
   have e4 := hcw 4 _ rfl
   have e5 := hcw 5 _ rfl
   have e6 := hcw 6 _ rfl
   have e7 := hcw 7 _ rfl
   have e8 := hcw 8 _ rfl
   have e9 := hcw 9 _ rfl
   have e10 := hcw 10 _ rfl
   rw [Nat.add_zero] at e0
   have hrr : z.ruleB z.tail[k]! = ((z.tail[k]!).valid && (decide ((z.tail[k]!).to = 9999) && (decide ((z.tail[k]!).fr ≤ z.year) && decide ((formatF z.form (z.tail[k]!).lt (z.tail[k]!).sv).2 = 0)))) := rfl
   rw [hrr] at hYES hNO
   clear hrr hcw
   generalize z.tail[k]! = r at *
   have HV := Lib.hid (fun W => Valid_any r W)
   have HF := Lib.hid (fun W h => Format_any z.form r.lt r.sv W h hfs)
   obtain ⟨nm, fr, to, mo, kk, wk, d, at_, cl, sv, lt⟩ := r
   dsimp only at *
   have hq0 : Below wz.heap.size wz (wr.alloc (.cells (Rule.cells ⟨nm, fr, to, mo, kk, wk, d, at_, cl, sv, lt⟩).toArray 74)) := hbw.alloc hbw.size _
   have HYC := Lib.hid (alloc_cells wr (Rule.cells ⟨nm, fr, to, mo, kk, wk, d, at_, cl, sv, lt⟩) 74)
   cases hv : (⟨nm, fr, to, mo, kk, wk, d, at_, cl, sv, lt⟩ : Rule).valid
   ·have hB0 : B = false := by rw [← HB.out, hNO.out (by rw [hv]; rfl)]; rfl
    subst hB0
    rw [hv] at HV
    clear hYES hNO hv
    go_wp2_with (go_at_call 114; refine (HV.out _).mono ?_; rintro e w1 ⟨rfl, hb1⟩; have hz1 : wr.heap.size + 1 ≤ w1.heap.size := (by have := hb1.size; simp at this; omega); have hq1 : Below wz.heap.size wz w1 := hq0.trans (hb1.mono hq0.size); have hx : ∀ i u, (Rule.cells ⟨nm, fr, to, mo, kk, wk, d, at_, cl, sv, lt⟩)[i]? = some u → w1.cell? ⟨wr.heap.size, i, none⟩ = some u := (fun i u h => (hb1.cell (p := ⟨wr.heap.size, i, none⟩) (by simp)).trans (HYC.out i u h)); have y1 : w1.cell? ⟨wr.heap.size, 1, none⟩ = some (.int .i64 fr) := hx 1 _ rfl; have y2 : w1.cell? ⟨wr.heap.size, 2, none⟩ = some (.int .i64 to) := hx 2 _ rfl; have y9 : w1.cell? ⟨wr.heap.size, 9, none⟩ = some (.int .i64 sv) := hx 9 _ rfl; have y10 : w1.cell? ⟨wr.heap.size, 10, none⟩ = some (.string lt) := hx 10 _ rfl; have x7 : w1.cell? ⟨w.heap.size, 7, none⟩ = some (.string z.form) := (hb1.cell (p := ⟨w.heap.size, 7, none⟩) (by simp; omega)).trans (Lib.cell?_alloc_some _ zc7); have x8 : w1.cell? ⟨w.heap.size, 8, none⟩ = some (.int .i64 z.year) := (hb1.cell (p := ⟨w.heap.size, 8, none⟩) (by simp; omega)).trans (Lib.cell?_alloc_some _ zc8); clear hx)
    go_ret
    exact ⟨rfl, HBZ.out.trans (hq1.mono (Nat.le_of_lt hszz))⟩
   rw [hv] at HV
   rw [hv] at hYES hNO
   generalize hfm : formatF z.form lt sv = fm at *
   obtain ⟨f1, ee⟩ := fm
   dsimp only at *
   have HNO := Lib.hid (fun h : ¬ (to = 9999 ∧ fr ≤ z.year ∧ ee = 0) => show false = B by rw [← HB.out, hNO.out (notR h)]; rfl)
   have HYES := Lib.hid (fun h : to = 9999 ∧ fr ≤ z.year ∧ ee = 0 => hYES.out (isR h))
   clear hYES hNO hv hfm
   go_wp2_with (first | (go_at_call 114; refine (HV.out _).mono ?_; rintro e w1 ⟨rfl, hb1⟩; have hz1 : wr.heap.size + 1 ≤ w1.heap.size := (by have := hb1.size; simp at this; omega); have hq1 : Below wz.heap.size wz w1 := hq0.trans (hb1.mono hq0.size); have hx : ∀ i u, (Rule.cells ⟨nm, fr, to, mo, kk, wk, d, at_, cl, sv, lt⟩)[i]? = some u → w1.cell? ⟨wr.heap.size, i, none⟩ = some u := (fun i u h => (hb1.cell (p := ⟨wr.heap.size, i, none⟩) (by simp)).trans (HYC.out i u h)); have y1 : w1.cell? ⟨wr.heap.size, 1, none⟩ = some (.int .i64 fr) := hx 1 _ rfl; have y2 : w1.cell? ⟨wr.heap.size, 2, none⟩ = some (.int .i64 to) := hx 2 _ rfl; have y9 : w1.cell? ⟨wr.heap.size, 9, none⟩ = some (.int .i64 sv) := hx 9 _ rfl; have y10 : w1.cell? ⟨wr.heap.size, 10, none⟩ = some (.string lt) := hx 10 _ rfl; have x7 : w1.cell? ⟨w.heap.size, 7, none⟩ = some (.string z.form) := (hb1.cell (p := ⟨w.heap.size, 7, none⟩) (by simp; omega)).trans (Lib.cell?_alloc_some _ zc7); have x8 : w1.cell? ⟨w.heap.size, 8, none⟩ = some (.int .i64 z.year) := (hb1.cell (p := ⟨w.heap.size, 8, none⟩) (by simp; omega)).trans (Lib.cell?_alloc_some _ zc8); clear hx) | (go_at_call 115; refine (HF.out _ (HM.out.on (HBZ.out.trans (hq1.mono (Nat.le_of_lt hszz))))).mono ?_; rintro e w2 ⟨rfl, hb2⟩; have hq2 : Below wz.heap.size wz w2 := hq1.trans (hb2.mono hq1.size)))
   all_goals rename_i hE
   all_goals try simp only [bne_iff_ne, ne_eq, bne_eq_false_iff_eq] at hE
   all_goals first
    | (go_ret; exact ⟨ret1 (vbool (HNO.out (by omega))), HBZ.out.trans ((by first | exact hq2 | exact hq1 : Below wz.heap.size wz _).mono (Nat.le_of_lt hszz))⟩)
    | (
      go_roundw
      case rel => exact ⟨k + 1, by omega, by go_num, HYES.out (by omega), hq2⟩
      case measure => simp [intOf]; omega)
  ·have hk' : k = z.tail.length := by omega
   subst hk'
   rw [List.take_length] at HR
   have hall : z.tail.all z.ruleB = true := HR.out
   have hBr : B = (spacedF z.rules0 && z.behindB) := by rw [← HB.out, hall, Bool.true_and]
   have HRW := Lib.hid (HRR.out.on hbw0)
   have HTW := Lib.hid (HTT.out.on hbw0)
   have HCL := Lib.hid (fun W h => Clone_any z.tail (some ⟨g, off, none⟩) cR W (by omega) h)
   have HBR := Lib.hid hBr
   have HAL := Lib.hid hall
   clear hBr hall
   go_wp2_with (go_at_call 116; refine (HCL.out _ HRW.out).mono ?_; rintro e w1 ⟨A1, c1, rfl, hcp, hb1⟩)
   obtain ⟨g1, rfl, hg1, hg2, hH⟩ := hcp.resolve_left (by rintro e; rw [e] at hne0; simp at hne0)
   have HH := Lib.hid hH
   have hb1w : wr.heap.size ≤ w1.heap.size := hb1.size
   have hall : ∀ j c, j < z.tail.length → c < 11 → w1.cell? ⟨g1, j * 11 + c, none⟩ = some (Rule.cells z.tail[j]!)[c]! ∧ w1.frozen? ⟨g1, j * 11 + c, none⟩ = false := fun j c h1 h2 => by
    have := hH.cell (i := j) (c := c) (by simpa using h1) h2
    rwa [Nat.zero_add, List.getElem!_toArray] at this
   have HALL := Lib.hid hall
   clear hH hcp hall
   have hwz1 : w.heap.size < w1.heap.size := Nat.lt_of_lt_of_le hszr hb1w
   generalize hwq : wr = wq at *
   clear hwq
   go_loopw [8, 93] (fun i i2 wx => ∃ k : Nat, k ≤ z.tail.length ∧ i2 = .int .i64 k ∧ Below wq.heap.size wq wx ∧ w1.heap.size ≤ wx.heap.size ∧ Hid (YS w1 wx g1 k z.year)) (fun _ i _ => z.tail.length - (intOf i).toNat)
   case atStart => exact ⟨0, Nat.zero_le _, rfl, hb1, Nat.le_refl _, Lib.hid (YS.zero _ _ _)⟩
   case round =>
    obtain ⟨k, hk, rfl, hbx, hsx, HY⟩ := hrel
    have zx := fun i u h => (hbx.cell (p := ⟨w.heap.size, i, none⟩) hszr).trans ((hbw.cell (p := ⟨w.heap.size, i, none⟩) hszz).trans (HZC.out i u h))
    by_cases hlt : k < z.tail.length
    ·have x8 := zx 8 _ rfl
     have ha := HALL.out k 1 hlt (by omega)
     have hc1 : wr.cell? ⟨g1, k * 11 + 1, none⟩ = some (.int .i64 (z.tail[k]!).fr) := by rw [HY.out.1, if_neg (by omega)]; exact ha.1
     have hf1 : wr.frozen? ⟨g1, k * 11 + 1, none⟩ = false := by rw [HY.out.2]; exact ha.2
     have HS := Lib.hid (HY.out.step hc1)
     clear zx ha
     go_wp2
     go_roundw
     case rel => exact ⟨k + 1, by omega, by go_num, hbx.setCell (p := ⟨g1, k * 11 + 1, none⟩) hg1 _, by simp; exact hsx, HS⟩
     case measure => simp [intOf]; omega
    ·have hk' : k = z.tail.length := by omega
     subst hk'
     have hszx : w.heap.size < wr.heap.size := Nat.lt_of_lt_of_le hszr hbx.size
     have hbx0 : Below w.heap.size w wr := hbw0.trans (hbx.mono (Nat.le_of_lt hszr))
     have hrl : z.rules0.length ≤ 300000 := by simp [Zn.rules0]; omega
     have HSP := Lib.hid (Spaced_any z.rules0 _ wr hrl (HY.out.rd (c := c1) (Nat.lt_of_lt_of_le hg2 hsx) HH.out))
     have ZX := Lib.hid zx
     clear zx
     cases hsp : spacedF z.rules0
     ·have hB0 : false = B := by rw [HBR.out, hsp]; rfl
      rw [hsp] at HSP
      have HB0 := Lib.hid hB0
      clear hsp hB0
      go_wp2_with (go_at_call 117; refine HSP.out.mono ?_; rintro e w3 ⟨rfl, hb3⟩)
      go_ret
      exact ⟨ret1 (vbool HB0.out), hbx0.trans (hb3.mono (Nat.le_of_lt hszx))⟩
     ·have HBB := Lib.hid (show B = z.behindB by rw [HBR.out, hsp, Bool.true_and])
      have HSPF := Lib.hid hsp
      rw [hsp] at HSP
      clear hsp
      cases hn : z.table.length with
      | zero =>
       have hB1 : true = B := by rw [HBB.out]; unfold Zn.behindB; rw [List.eq_nil_of_length_eq_zero hn]; rfl
       have HB1 := Lib.hid hB1
       have X4 := Lib.hid ((ZX.out 4 _ rfl).trans (by rw [hn]))
       clear hB1
       go_wp2_with (go_at_call 117; refine HSP.out.mono ?_; rintro e w3 ⟨rfl, hb3⟩; have x4 : w3.cell? ⟨w.heap.size, 4, none⟩ = some (.slice AT 0 cT) := (hb3.cell (p := ⟨w.heap.size, 4, none⟩) hszx).trans X4.out)
       go_ret
       exact ⟨ret1 (vbool HB1.out), hbx0.trans (hb3.mono (Nat.le_of_lt hszx))⟩
      | succ q =>
       have X4 := Lib.hid ((ZX.out 4 _ rfl).trans (by rw [hn]))
       have X8 := Lib.hid (ZX.out 8 _ rfl)
       go_wp2_with (go_at_call 117; refine HSP.out.mono ?_; rintro e w3 ⟨rfl, hb3⟩; have x4 : w3.cell? ⟨w.heap.size, 4, none⟩ = some (.slice AT (q + 1) cT) := (hb3.cell (p := ⟨w.heap.size, 4, none⟩) hszx).trans X4.out; have x8 : w3.cell? ⟨w.heap.size, 8, none⟩ = some (.int .i64 z.year) := (hb3.cell (p := ⟨w.heap.size, 8, none⟩) hszx).trans X8.out)
       have OK := Lib.hid (tail_ok HHD.out H0.out hb HAL.out HSPF.out)
       have hT0 : z.table ≠ [] := by intro e; rw [e] at hn; simp at hn
       have HT0 := Lib.hid hT0
       obtain ⟨LA, hLA⟩ : ∃ LA, z.lastAt = LA := ⟨_, rfl⟩
       obtain ⟨gT, oT, hAT, hgT, hcT⟩ : ∃ gT oT, AT = some ⟨gT, oT, none⟩ ∧ gT < w.heap.size ∧ w.cell? ⟨gT, oT + q * 4, none⟩ = some (.int .i64 LA) := by
        have ht1 : z.lastAt = (z.table[q]!).at_ := by unfold Zn.lastAt; rw [hn]; rfl
        rcases HTT.out with ⟨e, _⟩ | ⟨gT, oT, c', hv, hgT, hcT⟩
        ·exact absurd e hT0
        ·injection hv with e1 _ _
         exact ⟨gT, oT, e1, hgT, by rw [← hLA, ht1]; exact hcT q (by omega) 0 _ rfl⟩
       have HLA := Lib.hid hLA
       subst hAT
       generalize hw6 : wr = w6 at *
       clear hw6 hT0 hLA
       have hb30 : Below w.heap.size w w3 := hbx0.trans (hb3.mono (Nat.le_of_lt hszx))
       have hsz3 : w.heap.size < w3.heap.size := Nat.lt_of_lt_of_le hszx hb3.size
       have Z3 := Lib.hid (fun i u h => (hb3.cell (p := ⟨w.heap.size, i, none⟩) hszx).trans (ZX.out i u h))
       have HCT := Lib.hid hcT
       clear hcT x4 x8 HY HH HALL hbx hsx hsz3
       have hsz3 : w.heap.size < w3.heap.size := Nat.lt_of_lt_of_le hszx hb3.size
       go_loopw [10] (fun v wv => ∃ y, v = .int .i64 y ∧ z.year ≤ y ∧ y ≤ 10010 ∧ Below w3.heap.size w3 wv ∧ Hid (z.quietTo y)) (fun v _ => (20000 - intOf v).toNat)
       case atStart => exact ⟨z.year, rfl, Int.le_refl _, by omega, Below.refl _ _, Lib.hid (quiet_zero z (by omega))⟩
       case round =>
        obtain ⟨y, rfl, hy1, hy2, hbv, HQ⟩ := hrel
        have hbv0 : Below w.heap.size w wr := hb30.trans (hbv.mono (Nat.le_of_lt hsz3))
        have hszv : w.heap.size < wr.heap.size := Nat.lt_of_lt_of_le hsz3 hbv.size
        by_cases hlt : y ≤ 9999
        ·have zv := fun i u h => (hbv.cell (p := ⟨w.heap.size, i, none⟩) hsz3).trans (Z3.out i u h)
         have zv0 := zv 0 _ rfl
         have zv1 := zv 1 _ rfl
         have zv2 := zv 2 _ rfl
         have zv3 := zv 3 _ rfl
         have zv4 := zv 4 _ rfl
         have zv5 := zv 5 _ rfl
         have zv6 := zv 6 _ rfl
         have zv7 := zv 7 _ rfl
         have zv8 := zv 8 _ rfl
         clear zv
         have ZV4 := Lib.hid (zv4.trans (show _ = some (Value.slice (some ⟨gT, oT, none⟩) (q + 1) cT) by rw [hn]))
         have hTq : Rd Trn.cells 4 wr (.slice (some ⟨gT, oT, none⟩) (q + 1) cT) z.table := by rw [← hn]; exact HTT.out.on hbv0
         have HHP := Lib.hid (happenings_any z _ _ y (min (y + 8) 9999) wr (HM.out.on hbv0) (by omega) hTq (HRR.out.on hbv0) hfs hll (fun _ _ => pre_of OK.out hll hy1 (by omega) (by omega)))
         unfold HapEnd at HHP
         unfold Zn.v at HHP
         clear hTq
         have hCT := (hbv0.cell (p := ⟨gT, oT + q * 4, none⟩) hgT).trans HCT.out
         have HCV := Lib.hid hCT
         have hgTv : gT < wr.heap.size := Nat.lt_trans hgT hszv
         clear hCT
         cases hL : z.hapL y (min (y + 8) 9999) with
         | nil =>
          have HS := Lib.hid (quiet_step H0.out hy1 hlt HQ.out hL)
          rw [hL] at HHP
          clear hL
          obtain ⟨E, hE⟩ : ∃ E, min (y + 8) 9999 = E := ⟨_, rfl⟩
          have hE9 : min (y + 9 - 1) 9999 = E := by rw [← hE]; congr 1; omega
          rw [hE] at HHP
          go_wp2_with (go_at_call 118; refine HHP.out.mono ?_; rintro e w4 ⟨v4, rfl, hr4, hb4⟩; obtain ⟨A4, c4, rfl⟩ := rd_vf hr4; rw [List.length_nil] at *)
          go_roundw
          case rel => exact ⟨y + 9, by go_num, by omega, by omega, hbv.trans (hb4.mono hbv.size), HS⟩
          case measure => simp [intOf]; omega
         | cons x xs =>
          have HS := Lib.hid (show decide (LA < x.at_) = B by rw [HBB.out, quiet_hit H0.out HT0.out hy1 hlt HQ.out hL, HLA.out])
          rw [hL] at HHP
          clear hL
          obtain ⟨E, hE⟩ : ∃ E, min (y + 8) 9999 = E := ⟨_, rfl⟩
          have hE9 : min (y + 9 - 1) 9999 = E := by rw [← hE]; congr 1; omega
          rw [hE] at HHP
          go_wp2_with (go_at_call 118; refine HHP.out.mono ?_; rintro e w4 ⟨v4, rfl, hr4, hb4⟩; obtain ⟨g4, o4, c4, rfl, hg4, hc4⟩ : ∃ g4 o4 c4, v4 = .slice (some ⟨g4, o4, none⟩) (x :: xs).length c4 ∧ g4 < w4.heap.size ∧ w4.cell? ⟨g4, o4, none⟩ = some (.int .i64 x.at_) := (by
           rcases hr4 with ⟨e, _⟩ | ⟨g4, o4, c4, rfl, hg4, hc4⟩
           ·cases e
           ·exact ⟨g4, o4, c4, rfl, hg4, by simpa using hc4 0 (by simp) 0 _ rfl⟩); clear hr4; obtain ⟨L4, hL4⟩ : ∃ L4, (x :: xs).length = L4 + 1 := ⟨xs.length, rfl⟩; rw [hL4]; have x4 : w4.cell? ⟨w.heap.size, 4, none⟩ = some (.slice (some ⟨gT, oT, none⟩) (q + 1) cT) := (hb4.cell (p := ⟨w.heap.size, 4, none⟩) hszv).trans ZV4.out; have tc : w4.cell? ⟨gT, oT + q * 4, none⟩ = some (.int .i64 LA) := (hb4.cell (p := ⟨gT, oT + q * 4, none⟩) hgTv).trans HCV.out)
          go_region
          all_goals go_wp2
          all_goals go_ret
          all_goals exact ⟨ret1 (vbool HS.out), (hbv0.trans (hb4.mono (Nat.le_of_lt hszv))).trans (below_drewN (Below.refl w.heap.size w4) 1)⟩
        ·have HE := Lib.hid (show true = B by rw [HBB.out, quiet_end (by omega) HQ.out])
         go_wp2
         go_ret
         exact ⟨ret1 (vbool HE.out), hbv0⟩
set_option maxHeartbeats 1000000 in
theorem tailed_big (z : Zn) (vT vR : Value) (w : World) (hll : 100 < z.tail.length) (hR : Rd Rule.cells 11 w vR z.tail) :
  Calls Tryz.prog 107 #[z.v vT vR] w fun e w' => e = .returned (.bool z.tailB) ∧ Below w.heap.size w w' := by
 have h0 : z.tail ≠ [] := by intro e; rw [e] at hll; simp at hll
 have hres : z.tailB = false := by unfold Zn.tailB; rw [if_neg h0, decide_eq_false (by omega)]; rfl
 rw [hres]
 obtain ⟨AR, cR, rfl⟩ := rd_vf hR
 have hne0 : ((z.tail.length : Int) == 0) = false := by
  have : 0 < z.tail.length := List.length_pos_iff.2 h0
  simp; omega
 have hn1 : decide ((100 : Int) < (z.tail.length : Int)) = true := decide_eq_true (by omega)
 clear hR hres
 unfold Zn.v
 go_enter Tryz.func107, Tryz.ntmps107
 go_wp2
 go_ret
 exact ⟨rfl, (Below.refl _ _).alloc (Nat.le_refl _) _⟩
theorem tailed_any (z : Zn) (vT vR : Value) (w : World) (hm : HasMax w) (hl : z.table.length ≤ 1000) (hT : Rd Trn.cells 4 w vT z.table) (hR : Rd Rule.cells 11 w vR z.tail) (hfs : z.form.size < 4294967281) (hll : z.tail.length ≤ 12 ∨ 100 < z.tail.length) (hh : z.headB = true) :
  Calls Tryz.prog 107 #[z.v vT vR] w fun e w' => e = .returned (.bool z.tailB) ∧ Below w.heap.size w w' := by
 rcases hll with hll | hll
 ·by_cases h0 : z.tail = []
  ·exact tailed_empty z vT vR w hR h0
  ·by_cases hb : 1 ≤ z.year ∧ z.year ≤ 9999 ∧ -57600 ≤ z.off ∧ z.off ≤ 57600
   ·exact tailed_rules z vT vR w hm hl hT hR hfs hll h0 hb hh
   ·exact tailed_out z vT vR w hll hR h0 hb
 ·exact tailed_big z vT vR w hll hR
end Go.Proofs.YtdpbhjaicgkblaaGreatDoor

/- Joined by merge.py: LocW10. -/
import Derived.Test.YtdpbhjaicgkblaaGreatDoorGLb
import Derived.Test.YtdpbhjaicgkblaaGreatDoorGZn
import Derived.Deep.RegionHeld3
/- local.Resolve. Printed by gen_locw10.py. -/
namespace Go.Proofs.YtdpbhjaicgkblaaGreatDoor
set_option linter.unusedSimpArgs false
set_option linter.unusedVariables false
open Go.RowKit Go.Shelf Go.ChangeShapes Go.WideShapes Go.ChangeAt
attribute [local go_sem] Oper.semAt_some
theorem res2 {W : World} {B3 B4 : Nat} {a b : Value} {T3 T4 : TypeId} (h3 : Blk W B3 #[a] T3) (h4 : Blk W B4 #[b] T4) (hne : B3 ≠ B4) (x y : Value) : ((W.setCell ⟨B3, 0, none⟩ x).setCell ⟨B4, 0, none⟩ y).cell? ⟨B3, 0, none⟩ = some x ∧ ((W.setCell ⟨B3, 0, none⟩ x).setCell ⟨B4, 0, none⟩ y).cell? ⟨B4, 0, none⟩ = some y := by
 have g3 : Blk (W.setCell ⟨B3, 0, none⟩ x) B3 #[x] T3 := Boxed.set _ h3
 have g4 := h4.other (B' := B3) (i := 0) (fun e => hne e.symm) x
 have k4 : Blk ((W.setCell ⟨B3, 0, none⟩ x).setCell ⟨B4, 0, none⟩ y) B4 #[y] T4 := Boxed.set _ g4
 exact ⟨(g3.other (B' := B4) (i := 0) hne y).cl 0 _ rfl, k4.cl 0 _ rfl⟩
theorem int_row {W : World} {base : Nat} {A : Option Addr} {n c : Nat} {IL : List Int} (h : W.ownsRow base 3 1 (.slice A n c) IL.length (IL.map encI)) (hn : 0 < IL.length) : ∃ g off, A = some ⟨g, off, none⟩ ∧ n = IL.length ∧ g < W.heap.size ∧ ∀ j, j < IL.length → W.cell? ⟨g, off + j, none⟩ = some (.int .i64 IL[j]!) := by
 have e : ∀ l : List Int, l.map encI = l.flatMap (fun t => [encI t]) := fun l => by
  induction l with
  | nil => rfl
  | cons x l ih => rw [List.map_cons, List.flatMap_cons, ih]; rfl
 rw [e IL] at h
 rcases rd_of_own (enc := fun t : Int => [encI t]) (fun _ => rfl) h rfl with ⟨h1, _⟩ | ⟨g, off, c', hv, hg, hc⟩
 ·subst h1; simp at hn
 ·injection hv with h1 h2 h3
  refine ⟨g, off, h1, h2, hg, fun j hj => ?_⟩
  have := hc j hj 0 (encI IL[j]!) rfl
  rwa [Nat.mul_one, Nat.add_zero] at this
def skB (l : Int) (x : Skip) : Bool := decide (wrap64 (x.at_ + x.bef) ≤ l) && decide (l < wrap64 (x.at_ + x.aft))
def gapW (g l : Int) (x : Skip) : Int × Int := if g = 1 then (0, 11) else if g = 2 then (wrap64 (l - x.bef), 0) else if g = 3 then (wrap64 (l - x.aft), 0) else (x.at_, 0)
def resX (g l : Int) (x : Skip) : Int × Int := if (gapW g l x).2 ≠ 0 then (0, (gapW g l x).2) else if inT (gapW g l x).1 = true then ((gapW g l x).1, 0) else (0, 2)
theorem bseqS_map {L : List Skip} {k : Nat} (hk : k ≤ L.length) : (bseqS L k).map Prod.snd = L.reverse.take k := by
 apply List.ext_getElem
 ·simp [bseqS_len, hk]
 ·intro i h1 h2
  simp [bseqS_len] at h1
  simp only [bseqS, List.getElem_map, List.getElem_range, List.getElem_take, List.getElem_reverse]
  rw [getElem!_pos L (L.length - 1 - i) (by omega)]
theorem find_noneS {L : List Skip} {q : Skip → Bool} (h : ∀ p ∈ bseqS L L.length, q p.2 = false) : L.reverse.find? q = none := by
 have e := bseqS_map (L := L) (Nat.le_refl _)
 rw [List.take_of_length_le (by simp)] at e
 rw [← e]
 refine List.find?_eq_none.2 fun x hx => ?_
 obtain ⟨p, hp, rfl⟩ := List.mem_map.1 hx
 rw [h p hp]; decide
theorem find_someS {L : List Skip} {q : Skip → Bool} {k : Nat} (hk : k ≤ L.length) {ini : List (Int × Skip)} {last : Int × Skip} (e : bseqS L k = ini ++ [last]) (h : ∀ p ∈ ini, q p.2 = false) (hl : q last.2 = true) : L.reverse.find? q = some last.2 := by
 have e2 := bseqS_map hk
 rw [e, List.map_append] at e2
 rw [← List.take_append_drop k L.reverse, ← e2, List.find?_append, List.find?_append, List.find?_eq_none.2 fun x hx => by
  obtain ⟨p, hp, rfl⟩ := List.mem_map.1 hx
  rw [h p hp]; decide]
 simp [hl]
theorem find_eq {α : Type} {p q : α → Bool} : ∀ {L : List α}, (∀ x ∈ L, p x = q x) → L.find? p = L.find? q
 | [], _ => rfl
 | x :: L, h => by
  rw [List.find?_cons, List.find?_cons, h x List.mem_cons_self, find_eq fun y hy => h y (List.mem_cons_of_mem _ hy)]
theorem skB_eq {l : Int} {x : Skip} (h : -63000000000 ≤ x.at_ ∧ x.at_ ≤ 254000000000) (h1 : -93600 < x.bef ∧ x.bef < 93600) (h2 : -93600 < x.aft ∧ x.aft < 93600) : skB l x = inSkip l x := by
 unfold skB inSkip
 rw [show wrap64 (x.at_ + x.bef) = x.at_ + x.bef by unfold wrap64; omega, show wrap64 (x.at_ + x.aft) = x.at_ + x.aft by unfold wrap64; omega, ← Bool.decide_and]
theorem resX_eq {g l : Int} {x : Skip} (hl : -62135596800 ≤ l ∧ l < 253402300800) (h1 : -93600 < x.bef ∧ x.bef < 93600) (h2 : -93600 < x.aft ∧ x.aft < 93600) : resX g l x = if (gapF g l x).2 ≠ 0 then (0, (gapF g l x).2) else if inTB (gapF g l x).1 = true then ((gapF g l x).1, 0) else (0, 2) := by
 have e : gapW g l x = gapF g l x := by
  unfold gapW gapF
  rw [show wrap64 (l - x.bef) = l - x.bef by unfold wrap64; omega, show wrap64 (l - x.aft) = l - x.aft by unfold wrap64; omega]
 unfold resX
 rw [e, inTB_T]
def SkP (l : Int) (pre : List (Int × Skip)) : Prop := ∀ p ∈ pre, skB l p.2 = false
def SkX (B3 B4 : Nat) (l g : Int) (pre : List (Int × Skip)) (W : World) : Prop := ∃ ini last, (pre = ini ++ [last] ∧ SkP l ini ∧ skB l last.2 = true) ∧ W.cell? ⟨B3, 0, none⟩ = some (.int .i64 (resX g l last.2).1) ∧ W.cell? ⟨B4, 0, none⟩ = some (.int .i64 (resX g l last.2).2)
theorem skX_own (B3 B4 : Nat) (l g : Int) : Own (SkX B3 B4 l g) := own_ex fun ini => own_ex fun last => Own.and' (own_pure' _) (Own.and' (cell_own _ fun _ => _) (cell_own _ fun _ => _))
theorem gidx1 (w : World) : (Instr.index 192 (.agg #[.nilFunc, .func (.func 140) #[] #[], .func (.func 141) #[] #[], .func (.func 142) #[] #[], .func (.func 143) #[] #[]]) (.int .i64 1)).run Tryz.prog w = .ok (.func (.func 140) #[] #[]) w := by kernel_rfl
theorem gidx2 (w : World) : (Instr.index 192 (.agg #[.nilFunc, .func (.func 140) #[] #[], .func (.func 141) #[] #[], .func (.func 142) #[] #[], .func (.func 143) #[] #[]]) (.int .i64 2)).run Tryz.prog w = .ok (.func (.func 141) #[] #[]) w := by kernel_rfl
theorem gidx3 (w : World) : (Instr.index 192 (.agg #[.nilFunc, .func (.func 140) #[] #[], .func (.func 141) #[] #[], .func (.func 142) #[] #[], .func (.func 143) #[] #[]]) (.int .i64 3)).run Tryz.prog w = .ok (.func (.func 142) #[] #[]) w := by kernel_rfl
theorem gidx4 (w : World) : (Instr.index 192 (.agg #[.nilFunc, .func (.func 140) #[] #[], .func (.func 141) #[] #[], .func (.func 142) #[] #[], .func (.func 143) #[] #[]]) (.int .i64 4)).run Tryz.prog w = .ok (.func (.func 143) #[] #[]) w := by kernel_rfl
theorem keeps2 (W : World) (p1 p2 : Addr) (v1 v2 : Value) : KeepsOthers W ((W.setCell p1 v1).setCell p2 v2) := (KeepsOthers.setCell _ _ _).trans (KeepsOthers.setCell _ _ _)
set_option maxRecDepth 100000 in
set_option maxHeartbeats 8000000 in
theorem Resolve_any (z : Zn) (vT vR : Value) (l g f : Int) (w : World) (hm : HasMax w) (hT : Rd Trn.cells 4 w vT z.table) (hR : Rd Rule.cells 11 w vR z.tail) (hfs : z.form.size < 4294967281) (hll : z.tail.length ≤ 12) (htl : z.table.length ≤ 300) :
  Calls Tryz.prog 109 #[z.v vT vR, .int .i64 l, .agg #[.int .i64 g, .int .i64 f]] w fun e w' => e = .returned (.tuple #[.int .i64 (z.resV l g f).1, .int .i64 (z.resV l g f).2]) ∧ Below w.heap.size w w' := by
 have HV := Lib.hid (fun W (hb : Below w.heap.size w W) => Valid_zone z vT vR W (hm.on hb) (hT.on hb) (hR.on hb) hfs (.inl hll))
 have HI := Lib.hid (fun hv hl W (hb : Below w.heap.size w W) => instants_any z vT vR l W (hm.on hb) (hT.on hb) (hR.on hb) hfs hll htl hv hl)
 have HSK := Lib.hid (fun hM W (hb : Below w.heap.size w W) => skips_any z vT vR (wideA l) (wideB (l + 1)) W (hm.on hb) (hT.on hb) (hR.on hb) hfs hll hM)
 obtain ⟨AT, cT, rfl⟩ := rd_vf hT
 obtain ⟨AR, cR, rfl⟩ := rd_vf hR
 unfold Zn.v at HV HI HSK ⊢
 have HRV := Lib.hid (show z.resV l g f = if z.valid = false ∨ polB g f = false then (0, 1) else if inT l = false then (0, 2) else z.resF l g f by unfold Zn.resV; rw [inTB_T])
 generalize hRR : z.resV l g f = R at *
 clear hT hR hm hRR
 refine (callsIn_wide (n := 6)).1 ?_
 refine callsIn_of_wp_marks Tryz.func109 rfl trivial ?_ rfl
 simp only [Tryz.ntmps109, List.size_toArray, List.length_cons, List.length_nil, Nat.reduceAdd, Nat.reduceSub, Array.replicate_succ, Array.replicate_zero, List.push_toArray, List.append_toArray, List.nil_append, List.cons_append]
 have b0 := Blk.new w #[.string z.nm, .int .i64 z.first.off, .int .i64 z.first.sv, .string z.first.nm, .slice AT z.table.length cT, .slice AR z.tail.length cR, .int .i64 z.off, .string z.form, .int .i64 z.year] 65
 have b1 := Blk.new (w.alloc (.cells #[.string z.nm, .int .i64 z.first.off, .int .i64 z.first.sv, .string z.first.nm, .slice AT z.table.length cT, .slice AR z.tail.length cR, .int .i64 z.off, .string z.form, .int .i64 z.year] 65)) #[.int .i64 l] 3
 have b2 := Blk.new ((w.alloc (.cells #[.string z.nm, .int .i64 z.first.off, .int .i64 z.first.sv, .string z.first.nm, .slice AT z.table.length cT, .slice AR z.tail.length cR, .int .i64 z.off, .string z.form, .int .i64 z.year] 65)).alloc (.cells #[.int .i64 l] 3)) #[.int .i64 g, .int .i64 f] 36
 have b3 := Blk.new (((w.alloc (.cells #[.string z.nm, .int .i64 z.first.off, .int .i64 z.first.sv, .string z.first.nm, .slice AT z.table.length cT, .slice AR z.tail.length cR, .int .i64 z.off, .string z.form, .int .i64 z.year] 65)).alloc (.cells #[.int .i64 l] 3)).alloc (.cells #[.int .i64 g, .int .i64 f] 36)) #[.int .i64 0] 3
 have b4 := Blk.new ((((w.alloc (.cells #[.string z.nm, .int .i64 z.first.off, .int .i64 z.first.sv, .string z.first.nm, .slice AT z.table.length cT, .slice AR z.tail.length cR, .int .i64 z.off, .string z.form, .int .i64 z.year] 65)).alloc (.cells #[.int .i64 l] 3)).alloc (.cells #[.int .i64 g, .int .i64 f] 36)).alloc (.cells #[.int .i64 0] 3)) #[.int .i64 0] 29
 have hB2 : Below w.heap.size w (((((w.alloc (.cells #[.string z.nm, .int .i64 z.first.off, .int .i64 z.first.sv, .string z.first.nm, .slice AT z.table.length cT, .slice AR z.tail.length cR, .int .i64 z.off, .string z.form, .int .i64 z.year] 65)).alloc (.cells #[.int .i64 l] 3)).alloc (.cells #[.int .i64 g, .int .i64 f] 36)).alloc (.cells #[.int .i64 0] 3)).alloc (.cells #[.int .i64 0] 29)) := (((((Below.refl _ _).alloc (Nat.le_refl _) _).alloc (by simp) _).alloc (by simp; omega) _).alloc (by simp; omega) _).alloc (by simp; omega) _
 have hsz2 : w.heap.size + 1 + 1 + 1 + 1 < (((((w.alloc (.cells #[.string z.nm, .int .i64 z.first.off, .int .i64 z.first.sv, .string z.first.nm, .slice AT z.table.length cT, .slice AR z.tail.length cR, .int .i64 z.off, .string z.form, .int .i64 z.year] 65)).alloc (.cells #[.int .i64 l] 3)).alloc (.cells #[.int .i64 g, .int .i64 f] 36)).alloc (.cells #[.int .i64 0] 3)).alloc (.cells #[.int .i64 0] 29)).heap.size := by simp
 simp only [World.size_alloc] at b1 b2 b3 b4
 have b0 := (((b0.alloc (.cells #[.int .i64 l] 3)).alloc (.cells #[.int .i64 g, .int .i64 f] 36)).alloc (.cells #[.int .i64 0] 3)).alloc (.cells #[.int .i64 0] 29)
 have b1 := ((b1.alloc (.cells #[.int .i64 g, .int .i64 f] 36)).alloc (.cells #[.int .i64 0] 3)).alloc (.cells #[.int .i64 0] 29)
 have b2 := (b2.alloc (.cells #[.int .i64 0] 3)).alloc (.cells #[.int .i64 0] 29)
 have b3 := b3.alloc (.cells #[.int .i64 0] 29)
 gi_wp2_with fail
 generalize (((((w.alloc (.cells #[.string z.nm, .int .i64 z.first.off, .int .i64 z.first.sv, .string z.first.nm, .slice AT z.table.length cT, .slice AR z.tail.length cR, .int .i64 z.off, .string z.form, .int .i64 z.year] 65)).alloc (.cells #[.int .i64 l] 3)).alloc (.cells #[.int .i64 g, .int .i64 f] 36)).alloc (.cells #[.int .i64 0] 3)).alloc (.cells #[.int .i64 0] 29)) = W2 at *
 have z0 := b0.cl 0 _ rfl
 have z1 := b0.cl 1 _ rfl
 have z2 := b0.cl 2 _ rfl
 have z3 := b0.cl 3 _ rfl
 have z4 := b0.cl 4 _ rfl
 have z5 := b0.cl 5 _ rfl
 have z6 := b0.cl 6 _ rfl
 have z7 := b0.cl 7 _ rfl
 have z8 := b0.cl 8 _ rfl
 have l0 := b1.cl 0 _ rfl
 have p0 := b2.cl 0 _ rfl
 have p1 := b2.cl 1 _ rfl
 have r0 := b3.cl 0 _ rfl
 have r1 := b4.cl 0 _ rfl
 have rf0 := b3.frozen 0
 have rf1 := b4.frozen 0
 have hw2 : w.heap.size ≤ W2.heap.size := hB2.size
 cases hv : z.valid
 ·rw [hv] at HV HRV
  rw [if_pos (.inl rfl)] at HRV
  gi_wp2_with (refine ⟨trivial, ?_⟩; gi_at_call 99; refine (callsIn_wide.2 (HV.out W2 hB2)).mono ?_; rintro e w3 ⟨rfl, hb3⟩; clear HV; have KB0 := b0.below hb3 b0.lt; have KB1 := b1.below hb3 b1.lt; have KB2 := b2.below hb3 b2.lt; have KB3 := b3.below hb3 b3.lt; have KB4 := b4.below hb3 b4.lt; have K0 := KB0.lt; have K1 := KB1.lt; have K2 := KB2.lt; have K3 := KB3.lt; have K4 := KB4.lt; have z0 := KB0.cl 0 _ rfl; have z1 := KB0.cl 1 _ rfl; have z2 := KB0.cl 2 _ rfl; have z3 := KB0.cl 3 _ rfl; have z4 := KB0.cl 4 _ rfl; have z5 := KB0.cl 5 _ rfl; have z6 := KB0.cl 6 _ rfl; have z7 := KB0.cl 7 _ rfl; have z8 := KB0.cl 8 _ rfl; have l0 := KB1.cl 0 _ rfl; have p0 := KB2.cl 0 _ rfl; have p1 := KB2.cl 1 _ rfl; have r0 := KB3.cl 0 _ rfl; have r1 := KB4.cl 0 _ rfl; have rf0 := KB3.frozen 0; have rf1 := KB4.frozen 0)
  refine ⟨trivial, ?_⟩
  gi_wp2
  obtain ⟨s0, s1⟩ := res2 KB3 KB4 (by omega) (.int .i64 0) (.int .i64 1)
  have hB9 : Below w.heap.size w ((w3.setCell ⟨w.heap.size + 1 + 1 + 1, 0, none⟩ (.int .i64 0)).setCell ⟨w.heap.size + 1 + 1 + 1 + 1, 0, none⟩ (.int .i64 1)) := ((hB2.trans (hb3.mono hw2)).setCell (p := ⟨w.heap.size + 1 + 1 + 1, 0, none⟩) (by show w.heap.size ≤ w.heap.size + 1 + 1 + 1; omega) _).setCell (p := ⟨w.heap.size + 1 + 1 + 1 + 1, 0, none⟩) (by show w.heap.size ≤ w.heap.size + 1 + 1 + 1 + 1; omega) _
  generalize (w3.setCell ⟨w.heap.size + 1 + 1 + 1, 0, none⟩ (.int .i64 0)).setCell ⟨w.heap.size + 1 + 1 + 1 + 1, 0, none⟩ (.int .i64 1) = W9 at *
  exact ⟨.tuple #[.int .i64 0, .int .i64 1], by simp [results, Tryz.results109, go_sem, s0, s1], by rw [HRV.out], hB9⟩
 ·rw [hv] at HV
  cases hp : polB g f
  ·rw [hp] at HRV
   rw [if_pos (.inr rfl)] at HRV
   gi_wp2_with (first | (refine ⟨trivial, ?_⟩; gi_at_call 99; refine (callsIn_wide.2 (HV.out W2 hB2)).mono ?_; rintro e w3 ⟨rfl, hb3⟩; clear HV; have KB0 := b0.below hb3 b0.lt; have KB1 := b1.below hb3 b1.lt; have KB2 := b2.below hb3 b2.lt; have KB3 := b3.below hb3 b3.lt; have KB4 := b4.below hb3 b4.lt; have K0 := KB0.lt; have K1 := KB1.lt; have K2 := KB2.lt; have K3 := KB3.lt; have K4 := KB4.lt; have z0 := KB0.cl 0 _ rfl; have z1 := KB0.cl 1 _ rfl; have z2 := KB0.cl 2 _ rfl; have z3 := KB0.cl 3 _ rfl; have z4 := KB0.cl 4 _ rfl; have z5 := KB0.cl 5 _ rfl; have z6 := KB0.cl 6 _ rfl; have z7 := KB0.cl 7 _ rfl; have z8 := KB0.cl 8 _ rfl; have l0 := KB1.cl 0 _ rfl; have p0 := KB2.cl 0 _ rfl; have p1 := KB2.cl 1 _ rfl; have r0 := KB3.cl 0 _ rfl; have r1 := KB4.cl 0 _ rfl; have rf0 := KB3.frozen 0; have rf1 := KB4.frozen 0) | (refine ⟨trivial, ?_⟩; gi_at_call 63; refine (callsIn_wide.2 (pol_any g f w3)).mono ?_; rintro e w4 ⟨rfl, hb4⟩; rw [hp]; have hb4 := hb3.trans (hb4.mono hb3.size); have KB0 := b0.below hb4 b0.lt; have KB1 := b1.below hb4 b1.lt; have KB2 := b2.below hb4 b2.lt; have KB3 := b3.below hb4 b3.lt; have KB4 := b4.below hb4 b4.lt; have K0 := KB0.lt; have K1 := KB1.lt; have K2 := KB2.lt; have K3 := KB3.lt; have K4 := KB4.lt; have z0 := KB0.cl 0 _ rfl; have z1 := KB0.cl 1 _ rfl; have z2 := KB0.cl 2 _ rfl; have z3 := KB0.cl 3 _ rfl; have z4 := KB0.cl 4 _ rfl; have z5 := KB0.cl 5 _ rfl; have z6 := KB0.cl 6 _ rfl; have z7 := KB0.cl 7 _ rfl; have z8 := KB0.cl 8 _ rfl; have l0 := KB1.cl 0 _ rfl; have p0 := KB2.cl 0 _ rfl; have p1 := KB2.cl 1 _ rfl; have r0 := KB3.cl 0 _ rfl; have r1 := KB4.cl 0 _ rfl; have rf0 := KB3.frozen 0; have rf1 := KB4.frozen 0))
   obtain ⟨s0, s1⟩ := res2 KB3 KB4 (by omega) (.int .i64 0) (.int .i64 1)
   have hB9 : Below w.heap.size w ((w4.setCell ⟨w.heap.size + 1 + 1 + 1, 0, none⟩ (.int .i64 0)).setCell ⟨w.heap.size + 1 + 1 + 1 + 1, 0, none⟩ (.int .i64 1)) := ((hB2.trans (hb4.mono hw2)).setCell (p := ⟨w.heap.size + 1 + 1 + 1, 0, none⟩) (by show w.heap.size ≤ w.heap.size + 1 + 1 + 1; omega) _).setCell (p := ⟨w.heap.size + 1 + 1 + 1 + 1, 0, none⟩) (by show w.heap.size ≤ w.heap.size + 1 + 1 + 1 + 1; omega) _
   generalize (w4.setCell ⟨w.heap.size + 1 + 1 + 1, 0, none⟩ (.int .i64 0)).setCell ⟨w.heap.size + 1 + 1 + 1 + 1, 0, none⟩ (.int .i64 1) = W9 at *
   exact ⟨.tuple #[.int .i64 0, .int .i64 1], by simp [results, Tryz.results109, go_sem, s0, s1], by rw [HRV.out], hB9⟩
  ·rw [hp, hv, if_neg (by decide)] at HRV
   cases hl : inT l
   ·rw [hl, if_pos rfl] at HRV
    gi_wp2_with (first | (refine ⟨trivial, ?_⟩; gi_at_call 99; refine (callsIn_wide.2 (HV.out W2 hB2)).mono ?_; rintro e w3 ⟨rfl, hb3⟩; clear HV; have KB0 := b0.below hb3 b0.lt; have KB1 := b1.below hb3 b1.lt; have KB2 := b2.below hb3 b2.lt; have KB3 := b3.below hb3 b3.lt; have KB4 := b4.below hb3 b4.lt; have K0 := KB0.lt; have K1 := KB1.lt; have K2 := KB2.lt; have K3 := KB3.lt; have K4 := KB4.lt; have z0 := KB0.cl 0 _ rfl; have z1 := KB0.cl 1 _ rfl; have z2 := KB0.cl 2 _ rfl; have z3 := KB0.cl 3 _ rfl; have z4 := KB0.cl 4 _ rfl; have z5 := KB0.cl 5 _ rfl; have z6 := KB0.cl 6 _ rfl; have z7 := KB0.cl 7 _ rfl; have z8 := KB0.cl 8 _ rfl; have l0 := KB1.cl 0 _ rfl; have p0 := KB2.cl 0 _ rfl; have p1 := KB2.cl 1 _ rfl; have r0 := KB3.cl 0 _ rfl; have r1 := KB4.cl 0 _ rfl; have rf0 := KB3.frozen 0; have rf1 := KB4.frozen 0) | (refine ⟨trivial, ?_⟩; gi_at_call 63; refine (callsIn_wide.2 (pol_any g f w3)).mono ?_; rintro e w4 ⟨rfl, hb4⟩; rw [hp]; have hb4 := hb3.trans (hb4.mono hb3.size); have KB0 := b0.below hb4 b0.lt; have KB1 := b1.below hb4 b1.lt; have KB2 := b2.below hb4 b2.lt; have KB3 := b3.below hb4 b3.lt; have KB4 := b4.below hb4 b4.lt; have K0 := KB0.lt; have K1 := KB1.lt; have K2 := KB2.lt; have K3 := KB3.lt; have K4 := KB4.lt; have z0 := KB0.cl 0 _ rfl; have z1 := KB0.cl 1 _ rfl; have z2 := KB0.cl 2 _ rfl; have z3 := KB0.cl 3 _ rfl; have z4 := KB0.cl 4 _ rfl; have z5 := KB0.cl 5 _ rfl; have z6 := KB0.cl 6 _ rfl; have z7 := KB0.cl 7 _ rfl; have z8 := KB0.cl 8 _ rfl; have l0 := KB1.cl 0 _ rfl; have p0 := KB2.cl 0 _ rfl; have p1 := KB2.cl 1 _ rfl; have r0 := KB3.cl 0 _ rfl; have r1 := KB4.cl 0 _ rfl; have rf0 := KB3.frozen 0; have rf1 := KB4.frozen 0) | (refine ⟨trivial, ?_⟩; gi_at_call 120; refine (callsIn_wide.2 (isTime_any l w4)).mono ?_; rintro e w5 ⟨rfl, rfl⟩; rw [hl]))
    obtain ⟨s0, s1⟩ := res2 KB3 KB4 (by omega) (.int .i64 0) (.int .i64 2)
    have hB9 : Below w.heap.size w ((w4.setCell ⟨w.heap.size + 1 + 1 + 1, 0, none⟩ (.int .i64 0)).setCell ⟨w.heap.size + 1 + 1 + 1 + 1, 0, none⟩ (.int .i64 2)) := ((hB2.trans (hb4.mono hw2)).setCell (p := ⟨w.heap.size + 1 + 1 + 1, 0, none⟩) (by show w.heap.size ≤ w.heap.size + 1 + 1 + 1; omega) _).setCell (p := ⟨w.heap.size + 1 + 1 + 1 + 1, 0, none⟩) (by show w.heap.size ≤ w.heap.size + 1 + 1 + 1 + 1; omega) _
    generalize (w4.setCell ⟨w.heap.size + 1 + 1 + 1, 0, none⟩ (.int .i64 0)).setCell ⟨w.heap.size + 1 + 1 + 1 + 1, 0, none⟩ (.int .i64 2) = W9 at *
    exact ⟨.tuple #[.int .i64 0, .int .i64 2], by simp [results, Tryz.results109, go_sem, s0, s1], by rw [HRV.out], hB9⟩
   ·rw [hl, if_neg (by decide)] at HRV
    obtain ⟨l1, l2⟩ : -62135596800 ≤ l ∧ l < 253402300800 := by unfold inT at hl; simpa using hl
    have hM := mild_wide hv htl (a := l) (b := l + 1) (by omega)
    have HI2 := Lib.hid (HI.out hv hl)
    have HSK2 := Lib.hid (HSK.out hM)
    have hILn : (z.insts l).length ≤ 1001 := by
     have h1 := pieces_len hM
     have h2 : (z.insts l).length ≤ (z.pieces (wideA l) (wideB (l + 1))).length := List.length_filterMap_le _ _
     omega
    have HSB := Lib.hid (fun x h => mem_skips hv (show wideA l < wideB (l + 1) by unfold wideA wideB; omega) (x := x) h)
    have HSN : (z.skips (wideA l) (wideB (l + 1))).length ≤ 1001 := Nat.le_trans (skipsF_len _ _ _) (pieces_len hM)
    unfold Zn.resF at HRV
    generalize z.insts l = IL at *
    generalize z.skips (wideA l) (wideB (l + 1)) = SL at *
    clear HI HSK hM
    by_cases h1 : IL.length = 1
    ·have d1 : decide ((IL.length : Int) = 1) = true := decide_eq_true (by omega)
     rw [if_pos h1] at HRV
     obtain ⟨u, hu⟩ : ∃ u, IL[0]! = u := ⟨_, rfl⟩
     rw [hu] at HRV
     have HU := Lib.hid hu
     clear hu
     gi_wp2_with (first | (refine ⟨trivial, ?_⟩; gi_at_call 99; refine (callsIn_wide.2 (HV.out W2 hB2)).mono ?_; rintro e w3 ⟨rfl, hb3⟩; clear HV; have KB0 := b0.below hb3 b0.lt; have KB1 := b1.below hb3 b1.lt; have KB2 := b2.below hb3 b2.lt; have KB3 := b3.below hb3 b3.lt; have KB4 := b4.below hb3 b4.lt; have K0 := KB0.lt; have K1 := KB1.lt; have K2 := KB2.lt; have K3 := KB3.lt; have K4 := KB4.lt; have z0 := KB0.cl 0 _ rfl; have z1 := KB0.cl 1 _ rfl; have z2 := KB0.cl 2 _ rfl; have z3 := KB0.cl 3 _ rfl; have z4 := KB0.cl 4 _ rfl; have z5 := KB0.cl 5 _ rfl; have z6 := KB0.cl 6 _ rfl; have z7 := KB0.cl 7 _ rfl; have z8 := KB0.cl 8 _ rfl; have l0 := KB1.cl 0 _ rfl; have p0 := KB2.cl 0 _ rfl; have p1 := KB2.cl 1 _ rfl; have r0 := KB3.cl 0 _ rfl; have r1 := KB4.cl 0 _ rfl; have rf0 := KB3.frozen 0; have rf1 := KB4.frozen 0) | (refine ⟨trivial, ?_⟩; gi_at_call 63; refine (callsIn_wide.2 (pol_any g f w3)).mono ?_; rintro e w4 ⟨rfl, hb4⟩; rw [hp]; have hb4 := hb3.trans (hb4.mono hb3.size); have KB0 := b0.below hb4 b0.lt; have KB1 := b1.below hb4 b1.lt; have KB2 := b2.below hb4 b2.lt; have KB3 := b3.below hb4 b3.lt; have KB4 := b4.below hb4 b4.lt; have K0 := KB0.lt; have K1 := KB1.lt; have K2 := KB2.lt; have K3 := KB3.lt; have K4 := KB4.lt; have z0 := KB0.cl 0 _ rfl; have z1 := KB0.cl 1 _ rfl; have z2 := KB0.cl 2 _ rfl; have z3 := KB0.cl 3 _ rfl; have z4 := KB0.cl 4 _ rfl; have z5 := KB0.cl 5 _ rfl; have z6 := KB0.cl 6 _ rfl; have z7 := KB0.cl 7 _ rfl; have z8 := KB0.cl 8 _ rfl; have l0 := KB1.cl 0 _ rfl; have p0 := KB2.cl 0 _ rfl; have p1 := KB2.cl 1 _ rfl; have r0 := KB3.cl 0 _ rfl; have r1 := KB4.cl 0 _ rfl; have rf0 := KB3.frozen 0; have rf1 := KB4.frozen 0) | (refine ⟨trivial, ?_⟩; gi_at_call 120; refine (callsIn_wide.2 (isTime_any l w4)).mono ?_; rintro e w5 ⟨rfl, rfl⟩; rw [hl]) | ((refine ⟨trivial, ?_⟩; gi_at_call 121; refine (callsIn_wide.2 (HI2.out w4 (hB2.trans (hb4.mono hw2)))).mono ?_; rintro e w6 ⟨v6, rfl, hr6, hb6⟩; clear HI2; have hb6 := hb4.trans (hb6.mono hb4.size); obtain ⟨A6, c6, rfl⟩ := own_formN hr6; have KB0 := b0.below hb6 b0.lt; have KB1 := b1.below hb6 b1.lt; have KB2 := b2.below hb6 b2.lt; have KB3 := b3.below hb6 b3.lt; have KB4 := b4.below hb6 b4.lt; have K0 := KB0.lt; have K1 := KB1.lt; have K2 := KB2.lt; have K3 := KB3.lt; have K4 := KB4.lt; have z0 := KB0.cl 0 _ rfl; have z1 := KB0.cl 1 _ rfl; have z2 := KB0.cl 2 _ rfl; have z3 := KB0.cl 3 _ rfl; have z4 := KB0.cl 4 _ rfl; have z5 := KB0.cl 5 _ rfl; have z6 := KB0.cl 6 _ rfl; have z7 := KB0.cl 7 _ rfl; have z8 := KB0.cl 8 _ rfl; have l0 := KB1.cl 0 _ rfl; have p0 := KB2.cl 0 _ rfl; have p1 := KB2.cl 1 _ rfl; have r0 := KB3.cl 0 _ rfl; have r1 := KB4.cl 0 _ rfl; have rf0 := KB3.frozen 0; have rf1 := KB4.frozen 0); obtain ⟨gI, oI, rfl, _, hgI, hcI⟩ := int_row hr6 (by omega); have e0 := hcI 0 (by omega); rw [Nat.add_zero, HU.out] at e0))
     obtain ⟨s0, s1⟩ := res2 KB3 KB4 (by omega) (.int .i64 u) (.int .i64 0)
     have hB9 : Below w.heap.size w ((w6.setCell ⟨w.heap.size + 1 + 1 + 1, 0, none⟩ (.int .i64 u)).setCell ⟨w.heap.size + 1 + 1 + 1 + 1, 0, none⟩ (.int .i64 0)) := ((hB2.trans (hb6.mono hw2)).setCell (p := ⟨w.heap.size + 1 + 1 + 1, 0, none⟩) (by show w.heap.size ≤ w.heap.size + 1 + 1 + 1; omega) _).setCell (p := ⟨w.heap.size + 1 + 1 + 1 + 1, 0, none⟩) (by show w.heap.size ≤ w.heap.size + 1 + 1 + 1 + 1; omega) _
     generalize (w6.setCell ⟨w.heap.size + 1 + 1 + 1, 0, none⟩ (.int .i64 u)).setCell ⟨w.heap.size + 1 + 1 + 1 + 1, 0, none⟩ (.int .i64 0) = W9 at *
     exact ⟨.tuple #[.int .i64 u, .int .i64 0], by simp [results, Tryz.results109, go_sem, s0, s1], by rw [HRV.out], hB9⟩
    ·have d1 : decide ((IL.length : Int) = 1) = false := decide_eq_false (by omega)
     rw [if_neg h1] at HRV
     by_cases h2 : 1 < IL.length
     ·have d2 : decide (1 < (IL.length : Int)) = true := decide_eq_true (by omega)
      rw [if_pos h2] at HRV
      obtain ⟨k, hk⟩ : ∃ k, IL.length = k + 1 := ⟨IL.length - 1, by omega⟩
      have hk1 : (IL.length : Int) - 1 = (k : Int) := by omega
      rw [show IL.length - 1 = k by omega] at HRV
      obtain ⟨u, hu⟩ : ∃ u, IL[0]! = u := ⟨_, rfl⟩
      obtain ⟨y, hy⟩ : ∃ y, IL[k]! = y := ⟨_, rfl⟩
      rw [hu, hy] at HRV
      have HU := Lib.hid hu
      have HY := Lib.hid hy
      clear hu hy
      gi_wp2_with (first | (refine ⟨trivial, ?_⟩; gi_at_call 99; refine (callsIn_wide.2 (HV.out W2 hB2)).mono ?_; rintro e w3 ⟨rfl, hb3⟩; clear HV; have KB0 := b0.below hb3 b0.lt; have KB1 := b1.below hb3 b1.lt; have KB2 := b2.below hb3 b2.lt; have KB3 := b3.below hb3 b3.lt; have KB4 := b4.below hb3 b4.lt; have K0 := KB0.lt; have K1 := KB1.lt; have K2 := KB2.lt; have K3 := KB3.lt; have K4 := KB4.lt; have z0 := KB0.cl 0 _ rfl; have z1 := KB0.cl 1 _ rfl; have z2 := KB0.cl 2 _ rfl; have z3 := KB0.cl 3 _ rfl; have z4 := KB0.cl 4 _ rfl; have z5 := KB0.cl 5 _ rfl; have z6 := KB0.cl 6 _ rfl; have z7 := KB0.cl 7 _ rfl; have z8 := KB0.cl 8 _ rfl; have l0 := KB1.cl 0 _ rfl; have p0 := KB2.cl 0 _ rfl; have p1 := KB2.cl 1 _ rfl; have r0 := KB3.cl 0 _ rfl; have r1 := KB4.cl 0 _ rfl; have rf0 := KB3.frozen 0; have rf1 := KB4.frozen 0) | (refine ⟨trivial, ?_⟩; gi_at_call 63; refine (callsIn_wide.2 (pol_any g f w3)).mono ?_; rintro e w4 ⟨rfl, hb4⟩; rw [hp]; have hb4 := hb3.trans (hb4.mono hb3.size); have KB0 := b0.below hb4 b0.lt; have KB1 := b1.below hb4 b1.lt; have KB2 := b2.below hb4 b2.lt; have KB3 := b3.below hb4 b3.lt; have KB4 := b4.below hb4 b4.lt; have K0 := KB0.lt; have K1 := KB1.lt; have K2 := KB2.lt; have K3 := KB3.lt; have K4 := KB4.lt; have z0 := KB0.cl 0 _ rfl; have z1 := KB0.cl 1 _ rfl; have z2 := KB0.cl 2 _ rfl; have z3 := KB0.cl 3 _ rfl; have z4 := KB0.cl 4 _ rfl; have z5 := KB0.cl 5 _ rfl; have z6 := KB0.cl 6 _ rfl; have z7 := KB0.cl 7 _ rfl; have z8 := KB0.cl 8 _ rfl; have l0 := KB1.cl 0 _ rfl; have p0 := KB2.cl 0 _ rfl; have p1 := KB2.cl 1 _ rfl; have r0 := KB3.cl 0 _ rfl; have r1 := KB4.cl 0 _ rfl; have rf0 := KB3.frozen 0; have rf1 := KB4.frozen 0) | (refine ⟨trivial, ?_⟩; gi_at_call 120; refine (callsIn_wide.2 (isTime_any l w4)).mono ?_; rintro e w5 ⟨rfl, rfl⟩; rw [hl]) | ((refine ⟨trivial, ?_⟩; gi_at_call 121; refine (callsIn_wide.2 (HI2.out w4 (hB2.trans (hb4.mono hw2)))).mono ?_; rintro e w6 ⟨v6, rfl, hr6, hb6⟩; clear HI2; have hb6 := hb4.trans (hb6.mono hb4.size); obtain ⟨A6, c6, rfl⟩ := own_formN hr6; have KB0 := b0.below hb6 b0.lt; have KB1 := b1.below hb6 b1.lt; have KB2 := b2.below hb6 b2.lt; have KB3 := b3.below hb6 b3.lt; have KB4 := b4.below hb6 b4.lt; have K0 := KB0.lt; have K1 := KB1.lt; have K2 := KB2.lt; have K3 := KB3.lt; have K4 := KB4.lt; have z0 := KB0.cl 0 _ rfl; have z1 := KB0.cl 1 _ rfl; have z2 := KB0.cl 2 _ rfl; have z3 := KB0.cl 3 _ rfl; have z4 := KB0.cl 4 _ rfl; have z5 := KB0.cl 5 _ rfl; have z6 := KB0.cl 6 _ rfl; have z7 := KB0.cl 7 _ rfl; have z8 := KB0.cl 8 _ rfl; have l0 := KB1.cl 0 _ rfl; have p0 := KB2.cl 0 _ rfl; have p1 := KB2.cl 1 _ rfl; have r0 := KB3.cl 0 _ rfl; have r1 := KB4.cl 0 _ rfl; have rf0 := KB3.frozen 0; have rf1 := KB4.frozen 0); obtain ⟨gI, oI, rfl, _, hgI, hcI⟩ := int_row hr6 (by omega); have e0 := hcI 0 (by omega); rw [Nat.add_zero, HU.out] at e0; have ek := hcI k (by omega); rw [HY.out] at ek; clear hcI))
      all_goals
       first
       | (
         have hf : f = 1 := eq_of_beq (by assumption)
         rw [if_pos hf] at HRV
         obtain ⟨s0, s1⟩ := res2 KB3 KB4 (by omega) (.int .i64 0) (.int .i64 12)
         have hB9 : Below w.heap.size w ((w6.setCell ⟨w.heap.size + 1 + 1 + 1, 0, none⟩ (.int .i64 0)).setCell ⟨w.heap.size + 1 + 1 + 1 + 1, 0, none⟩ (.int .i64 12)) := ((hB2.trans (hb6.mono hw2)).setCell (p := ⟨w.heap.size + 1 + 1 + 1, 0, none⟩) (by show w.heap.size ≤ w.heap.size + 1 + 1 + 1; omega) _).setCell (p := ⟨w.heap.size + 1 + 1 + 1 + 1, 0, none⟩) (by show w.heap.size ≤ w.heap.size + 1 + 1 + 1 + 1; omega) _
         generalize (w6.setCell ⟨w.heap.size + 1 + 1 + 1, 0, none⟩ (.int .i64 0)).setCell ⟨w.heap.size + 1 + 1 + 1 + 1, 0, none⟩ (.int .i64 12) = W9 at *
         exact ⟨.tuple #[.int .i64 0, .int .i64 12], by simp [results, Tryz.results109, go_sem, s0, s1], by rw [HRV.out], hB9⟩)
       | (
         have hf : f = 2 := eq_of_beq (by assumption)
         rw [if_neg (by omega), if_pos hf] at HRV
         obtain ⟨s0, s1⟩ := res2 KB3 KB4 (by omega) (.int .i64 u) (.int .i64 0)
         have hB9 : Below w.heap.size w ((w6.setCell ⟨w.heap.size + 1 + 1 + 1, 0, none⟩ (.int .i64 u)).setCell ⟨w.heap.size + 1 + 1 + 1 + 1, 0, none⟩ (.int .i64 0)) := ((hB2.trans (hb6.mono hw2)).setCell (p := ⟨w.heap.size + 1 + 1 + 1, 0, none⟩) (by show w.heap.size ≤ w.heap.size + 1 + 1 + 1; omega) _).setCell (p := ⟨w.heap.size + 1 + 1 + 1 + 1, 0, none⟩) (by show w.heap.size ≤ w.heap.size + 1 + 1 + 1 + 1; omega) _
         generalize (w6.setCell ⟨w.heap.size + 1 + 1 + 1, 0, none⟩ (.int .i64 u)).setCell ⟨w.heap.size + 1 + 1 + 1 + 1, 0, none⟩ (.int .i64 0) = W9 at *
         exact ⟨.tuple #[.int .i64 u, .int .i64 0], by simp [results, Tryz.results109, go_sem, s0, s1], by rw [HRV.out], hB9⟩)
       | (
         rw [if_neg (ne_of_beq_false (by assumption)), if_neg (ne_of_beq_false (by assumption))] at HRV
         obtain ⟨s0, s1⟩ := res2 KB3 KB4 (by omega) (.int .i64 y) (.int .i64 0)
         have hB9 : Below w.heap.size w ((w6.setCell ⟨w.heap.size + 1 + 1 + 1, 0, none⟩ (.int .i64 y)).setCell ⟨w.heap.size + 1 + 1 + 1 + 1, 0, none⟩ (.int .i64 0)) := ((hB2.trans (hb6.mono hw2)).setCell (p := ⟨w.heap.size + 1 + 1 + 1, 0, none⟩) (by show w.heap.size ≤ w.heap.size + 1 + 1 + 1; omega) _).setCell (p := ⟨w.heap.size + 1 + 1 + 1 + 1, 0, none⟩) (by show w.heap.size ≤ w.heap.size + 1 + 1 + 1 + 1; omega) _
         generalize (w6.setCell ⟨w.heap.size + 1 + 1 + 1, 0, none⟩ (.int .i64 y)).setCell ⟨w.heap.size + 1 + 1 + 1 + 1, 0, none⟩ (.int .i64 0) = W9 at *
         exact ⟨.tuple #[.int .i64 y, .int .i64 0], by simp [results, Tryz.results109, go_sem, s0, s1], by rw [HRV.out], hB9⟩)
     ·have d1' : decide ((IL.length : Int) = 1) = false := decide_eq_false (by omega)
      have h0 : IL.length = 0 := by omega
      rw [if_neg h2] at HRV
      have HEQ : SL.reverse.find? (inSkip l) = SL.reverse.find? (skB l) := find_eq fun x hx => by
       have h5 := HSB.out x (List.mem_reverse.1 hx)
       have h6 : -63000000000 ≤ wideA l ∧ wideB (l + 1) ≤ 254000000000 := by unfold wideA wideB; omega
       exact (skB_eq (by omega) h5.2.2.2.1 h5.2.2.2.2).symm
      rw [HEQ] at HRV
      have HRS := Lib.hid (fun x (h : SL.reverse.find? (skB l) = some x) => show R = resX g l x by
       have h5 := HSB.out x (List.mem_reverse.1 (List.mem_of_find?_eq_some h))
       rw [resX_eq ⟨l1, l2⟩ h5.2.2.2.1 h5.2.2.2.2, HRV.out, h])
      have HRN := Lib.hid (fun (h : SL.reverse.find? (skB l) = none) => show R = (0, 2) by rw [HRV.out, h])
      clear HEQ HRV HSB
      have HWD := Lib.hid (fun W => wide_any l (l + 1) W ⟨by omega, by omega⟩ ⟨by omega, by omega⟩)
      have HBK := Lib.hid (fun A n c W => (callsIn_wide (n := 1)).1 (bk_in Fence.wide 1 trivial rfl A n c W))
      gi_wp2_with (first | (refine ⟨trivial, ?_⟩; gi_at_call 99; refine (callsIn_wide.2 (HV.out W2 hB2)).mono ?_; rintro e w3 ⟨rfl, hb3⟩; clear HV; have KB0 := b0.below hb3 b0.lt; have KB1 := b1.below hb3 b1.lt; have KB2 := b2.below hb3 b2.lt; have KB3 := b3.below hb3 b3.lt; have KB4 := b4.below hb3 b4.lt; have K0 := KB0.lt; have K1 := KB1.lt; have K2 := KB2.lt; have K3 := KB3.lt; have K4 := KB4.lt; have z0 := KB0.cl 0 _ rfl; have z1 := KB0.cl 1 _ rfl; have z2 := KB0.cl 2 _ rfl; have z3 := KB0.cl 3 _ rfl; have z4 := KB0.cl 4 _ rfl; have z5 := KB0.cl 5 _ rfl; have z6 := KB0.cl 6 _ rfl; have z7 := KB0.cl 7 _ rfl; have z8 := KB0.cl 8 _ rfl; have l0 := KB1.cl 0 _ rfl; have p0 := KB2.cl 0 _ rfl; have p1 := KB2.cl 1 _ rfl; have r0 := KB3.cl 0 _ rfl; have r1 := KB4.cl 0 _ rfl; have rf0 := KB3.frozen 0; have rf1 := KB4.frozen 0) | (refine ⟨trivial, ?_⟩; gi_at_call 63; refine (callsIn_wide.2 (pol_any g f w3)).mono ?_; rintro e w4 ⟨rfl, hb4⟩; rw [hp]; have hb4 := hb3.trans (hb4.mono hb3.size); have KB0 := b0.below hb4 b0.lt; have KB1 := b1.below hb4 b1.lt; have KB2 := b2.below hb4 b2.lt; have KB3 := b3.below hb4 b3.lt; have KB4 := b4.below hb4 b4.lt; have K0 := KB0.lt; have K1 := KB1.lt; have K2 := KB2.lt; have K3 := KB3.lt; have K4 := KB4.lt; have z0 := KB0.cl 0 _ rfl; have z1 := KB0.cl 1 _ rfl; have z2 := KB0.cl 2 _ rfl; have z3 := KB0.cl 3 _ rfl; have z4 := KB0.cl 4 _ rfl; have z5 := KB0.cl 5 _ rfl; have z6 := KB0.cl 6 _ rfl; have z7 := KB0.cl 7 _ rfl; have z8 := KB0.cl 8 _ rfl; have l0 := KB1.cl 0 _ rfl; have p0 := KB2.cl 0 _ rfl; have p1 := KB2.cl 1 _ rfl; have r0 := KB3.cl 0 _ rfl; have r1 := KB4.cl 0 _ rfl; have rf0 := KB3.frozen 0; have rf1 := KB4.frozen 0) | (refine ⟨trivial, ?_⟩; gi_at_call 120; refine (callsIn_wide.2 (isTime_any l w4)).mono ?_; rintro e w5 ⟨rfl, rfl⟩; rw [hl]) | ((refine ⟨trivial, ?_⟩; gi_at_call 121; refine (callsIn_wide.2 (HI2.out w4 (hB2.trans (hb4.mono hw2)))).mono ?_; rintro e w6 ⟨v6, rfl, hr6, hb6⟩; clear HI2; have hb6 := hb4.trans (hb6.mono hb4.size); obtain ⟨A6, c6, rfl⟩ := own_formN hr6; have KB0 := b0.below hb6 b0.lt; have KB1 := b1.below hb6 b1.lt; have KB2 := b2.below hb6 b2.lt; have KB3 := b3.below hb6 b3.lt; have KB4 := b4.below hb6 b4.lt; have K0 := KB0.lt; have K1 := KB1.lt; have K2 := KB2.lt; have K3 := KB3.lt; have K4 := KB4.lt; have z0 := KB0.cl 0 _ rfl; have z1 := KB0.cl 1 _ rfl; have z2 := KB0.cl 2 _ rfl; have z3 := KB0.cl 3 _ rfl; have z4 := KB0.cl 4 _ rfl; have z5 := KB0.cl 5 _ rfl; have z6 := KB0.cl 6 _ rfl; have z7 := KB0.cl 7 _ rfl; have z8 := KB0.cl 8 _ rfl; have l0 := KB1.cl 0 _ rfl; have p0 := KB2.cl 0 _ rfl; have p1 := KB2.cl 1 _ rfl; have r0 := KB3.cl 0 _ rfl; have r1 := KB4.cl 0 _ rfl; have rf0 := KB3.frozen 0; have rf1 := KB4.frozen 0)))
      have hB6 : Below w.heap.size w w6 := hB2.trans (hb6.mono hw2)
      have hw6 : w.heap.size ≤ w6.heap.size := hB6.size
      have hdr : Below w6.heap.size w6 w6.drew := below_drewN (Below.refl w6.heap.size w6) 1
      have HS := Lib.hid (fun w' (hb : Below w6.heap.size w6 w') => And.intro hb (And.intro ((hb.cell (p := ⟨w.heap.size, 0, none⟩) K0).trans z0) (And.intro ((hb.cell (p := ⟨w.heap.size, 1, none⟩) K0).trans z1) (And.intro ((hb.cell (p := ⟨w.heap.size, 2, none⟩) K0).trans z2) (And.intro ((hb.cell (p := ⟨w.heap.size, 3, none⟩) K0).trans z3) (And.intro ((hb.cell (p := ⟨w.heap.size, 4, none⟩) K0).trans z4) (And.intro ((hb.cell (p := ⟨w.heap.size, 5, none⟩) K0).trans z5) (And.intro ((hb.cell (p := ⟨w.heap.size, 6, none⟩) K0).trans z6) (And.intro ((hb.cell (p := ⟨w.heap.size, 7, none⟩) K0).trans z7) (And.intro ((hb.cell (p := ⟨w.heap.size, 8, none⟩) K0).trans z8) ((hb.cell (p := ⟨w.heap.size + 1, 0, none⟩) K1).trans l0)))))))))))
      have hw1 : IntKind.i64.wrap (l + 1) = l + 1 := by rw [IntKind.wrap_i64]; omega
      refine wpIn_wide.2 (wp_region_noPanic ?_)
      go_region_held3 (fun w' => Below w6.heap.size w6 w' ∧ w'.cell? ⟨w.heap.size, 0, none⟩ = some (.string z.nm) ∧ w'.cell? ⟨w.heap.size, 1, none⟩ = some (.int .i64 z.first.off) ∧ w'.cell? ⟨w.heap.size, 2, none⟩ = some (.int .i64 z.first.sv) ∧ w'.cell? ⟨w.heap.size, 3, none⟩ = some (.string z.first.nm) ∧ w'.cell? ⟨w.heap.size, 4, none⟩ = some (.slice AT z.table.length cT) ∧ w'.cell? ⟨w.heap.size, 5, none⟩ = some (.slice AR z.tail.length cR) ∧ w'.cell? ⟨w.heap.size, 6, none⟩ = some (.int .i64 z.off) ∧ w'.cell? ⟨w.heap.size, 7, none⟩ = some (.string z.form) ∧ w'.cell? ⟨w.heap.size, 8, none⟩ = some (.int .i64 z.year) ∧ w'.cell? ⟨w.heap.size + 1, 0, none⟩ = some (.int .i64 l)) (first | exact HS.out _ hdr | exact HS.out _ K9 | exact HS.out _ K8 | exact HS.out _ K7 | go_keep)
       (first | (go_at_call 124; (try rw [hw1]); refine (HWD.out _).mono ?_; rintro e w7 ⟨rfl, hb7⟩; have K7 := hdr.trans (hb7.mono hdr.size); clear HWD) | (go_at_call 123; refine (HSK2.out _ (hB6.trans (K7.mono hw6))).mono ?_; rintro e w8 ⟨v8, rfl, hr8, hb8⟩; obtain ⟨A8, c8, rfl⟩ := own_formN hr8; have K8 := K7.trans (hb8.mono K7.size); clear HSK2) | (go_at_call 122; refine (HBK.out _ _ _ _).mono ?_; rintro e w9 ⟨rfl, rfl⟩; have K9 := K8.alloc K8.size (.cells #[.slice A8 SL.length c8] 184); clear HBK))
      refine NoPanic.normal ?_
      gi_wp2
      have hbs := Blk.new w8 #[.slice A8 SL.length c8] 184
      have hb89 : Below w8.heap.size w8 (w8.alloc (.cells #[.slice A8 SL.length c8] 184)) := (Below.refl _ _).alloc (Nat.le_refl _) _
      have hB9 : Below w.heap.size w (w8.alloc (.cells #[.slice A8 SL.length c8] 184)) := hB6.trans (K9.mono hw6)
      have hs9 : w6.heap.size ≤ w8.heap.size := K8.size
      have hs89 : w8.heap.size < (w8.alloc (.cells #[.slice A8 SL.length c8] 184)).heap.size := by simp
      generalize (w8.alloc (.cells #[.slice A8 SL.length c8] 184)) = w9 at *
      have c1 := KB1.below K9 K1
      have c2 := KB2.below K9 K2
      have c3 := KB3.below K9 K3
      have c4 := KB4.below K9 K4
      have hg4 : g = 1 ∨ g = 2 ∨ g = 3 ∨ g = 4 := by unfold polB at hp; simp only [decide_eq_true_eq] at hp; omega
      have hrd := rd_of_own skip_len hr8 rfl
      clear HS z0 z1 z2 z3 z4 z5 z6 z7 z8 l0 p0 p1 r0 r1 rf0 rf1 b0 b1 b2 b3 b4 KB0 KB1 KB2 KB3 KB4 hdr K7 K8 K9 hb8 hb7 hr8 hr6 hb6 hb4 hb3 hB2 hB6
      refine wpIn_rangeFunc_ownH rfl (by omega) (gf := 139) (lb := #[.pointer (some ⟨w8.heap.size, 0, none⟩)]) rfl trivial (enters_of Tryz.func139 (by kernel_rfl) rfl)
       (bk_stops Fence.wide (6 - 1) trivial rfl (by omega) w8.heap.size w9.heap.size _ SL (by omega) w9 hs89 (Nat.le_refl _) (hbs.cl 0 _ rfl) ⟨w8, hrd, hb89, hb89.size⟩) (fun h k => h.trans k) (belowK_b (Nat.le_refl _)) (Below.refl _ _) (fun _ => rfl)
       (fun pre W => SkP l pre ∧ Below w9.heap.size w9 W)
       (fun c pre W => (c = .ret ∧ SkX (w.heap.size + 1 + 1 + 1) (w.heap.size + 1 + 1 + 1 + 1) l g pre W) ∧ Below w.heap.size w W)
       (OwnFrom.and ((own_pure' _).from _) (ownFrom_below (Nat.le_refl _) (Nat.le_refl _)))
       (fun c => OwnFrom.and ((Own.and' (own_pure' _) (skX_own _ _ _ _)).from _) (ownFrom_below (by omega) (by omega)))
       ⟨fun p hp => (by cases hp), Below.refl _ _⟩
       (fun x a' W => ∃ Bx, w.heap.size + 1 + 1 + 1 + 1 < Bx ∧ Blk W Bx #[.int .i64 x.2.at_, .int .i64 x.2.bef, .int .i64 x.2.aft] 186 ∧ a' = { tmps := #[.agg #[.string z.nm, .int .i64 z.first.off, .int .i64 z.first.sv, .string z.first.nm, .slice AT z.table.length cT, .slice AR z.tail.length cR, .int .i64 z.off, .string z.form, .int .i64 z.year], .int .i64 l, .agg #[.int .i64 g, .int .i64 f], .pointer (some ⟨w.heap.size, 0, none⟩), .pointer (some ⟨w.heap.size + 1, 0, none⟩), .pointer (some ⟨w.heap.size + 1 + 1, 0, none⟩), .pointer (some ⟨w.heap.size + 1 + 1 + 1, 0, none⟩), .pointer (some ⟨w.heap.size + 1 + 1 + 1 + 1, 0, none⟩), .slice A6 0 c6, undef, .pointer (some ⟨Bx, 0, none⟩), undef, undef, .bool false, .agg #[.string z.nm, .int .i64 z.first.off, .int .i64 z.first.sv, .string z.first.nm, .slice AT z.table.length cT, .slice AR z.tail.length cR, .int .i64 z.off, .string z.form, .int .i64 z.year], .bool true, .bool false, .bool false, .agg #[.int .i64 g, .int .i64 f], .bool true, .bool false, .bool false, .bool false, .int .i64 l, .bool true, .bool false, .agg #[.string z.nm, .int .i64 z.first.off, .int .i64 z.first.sv, .string z.first.nm, .slice AT z.table.length cT, .slice AR z.tail.length cR, .int .i64 z.off, .string z.form, .int .i64 z.year], .int .i64 l, .slice A6 0 c6, .bool false, .slice A6 0 c6, .int .i64 0, .bool false, undef, undef, undef, .bool false, .slice A6 0 c6, .int .i64 0, .bool false, .bool false, undef, undef, undef, .bool false, .bool false, .slice A6 0 c6, .int .i64 0, .bool false, .bool false, undef, undef, undef, .bool false, undef, undef, undef, .bool false, .slice A6 0 c6, .int .i64 0, .bool false, undef, undef, undef, undef, undef, undef, .agg #[.string z.nm, .int .i64 z.first.off, .int .i64 z.first.sv, .string z.first.nm, .slice AT z.table.length cT, .slice AR z.tail.length cR, .int .i64 z.off, .string z.form, .int .i64 z.year], .int .i64 l, .int .i64 l, .int .i64 (l + 1), .agg #[.int .i64 l, .int .i64 (l + 1)], .agg #[.int .i64 (wideA l), .int .i64 (wideB (l + 1))], .slice A8 SL.length c8, .func (.func 139) #[] #[.pointer (some ⟨w8.heap.size, 0, none⟩)], .int .i64 x.1, .agg #[.int .i64 x.2.at_, .int .i64 x.2.bef, .int .i64 x.2.aft], undef, undef, undef, undef, undef, undef, undef, undef, undef, undef, undef, undef, undef, undef, undef, undef, undef, undef, undef, undef, undef, undef, undef, undef, undef, undef, undef, undef, undef, undef, undef, undef, undef], defers := [] })
       (fun x a' => (own_ex fun Bx => Own.and' (own_pure' _) (Own.and' (blk_own _ _ fun _ => _) (own_pure' _))).from _) ?assign ?body ?done ?stop
      case assign =>
       rintro l1 pre x W K ⟨hi, hb⟩ hK
       unfold encS
       gi_wp2
       exact hK _ _ ((KeepsOthers.alloc _ _).from _) ((Below.refl _ W).alloc hb.size _) ⟨hi, hb.alloc hb.size _⟩ ⟨W.heap.size, by have := hb.size; omega, Blk.new W _ _, rfl⟩
      case body =>
       rintro l1' pre x a' W hlr hrec ⟨hp0, hbW⟩ ⟨Bx, hBx, bX, rfl⟩ hlt
       have hb : Below w.heap.size w W := hB9.trans (hbW.mono hB9.size)
       have d1 := c1.below hbW (by omega)
       have d2 := c2.below hbW (by omega)
       have d3 := c3.below hbW (by omega)
       have d4 := c4.below hbW (by omega)
       have x0 := bX.cl 0 _ rfl
       have x1 := bX.cl 1 _ rfl
       have x2 := bX.cl 2 _ rfl
       have l0 := d1.cl 0 _ rfl
       by_cases k1 : wrap64 (x.2.at_ + x.2.bef) ≤ l
       ·by_cases k2 : l < wrap64 (x.2.at_ + x.2.aft)
        ·have dk1 : decide (wrap64 (x.2.at_ + x.2.bef) ≤ l) = true := decide_eq_true k1
         have dk2 : decide (l < wrap64 (x.2.at_ + x.2.aft)) = true := decide_eq_true k2
         have hsk : skB l x.2 = true := by unfold skB; rw [dk1, dk2]; rfl
         have p0 := d2.cl 0 _ rfl
         have r0 := d3.cl 0 _ rfl
         have r1 := d4.cl 0 _ rfl
         have rf0 := d3.frozen 0
         have rf1 := d4.frozen 0
         have GA := Lib.hid (fun W => gaps_any W)
         unfold fn0 at GA
         have hdr : Below W.heap.size W W.drew := below_drewN (Below.refl W.heap.size W) 1
         have hS1 : ∀ w' : World, Below W.heap.size W w' → Below W.heap.size W w' ∧ w'.cell? ⟨w.heap.size + 1 + 1, 0, none⟩ = some (.int .i64 g) ∧ w'.cell? ⟨w.heap.size + 1, 0, none⟩ = some (.int .i64 l) ∧ w'.cell? ⟨Bx, 0, none⟩ = some (.int .i64 x.2.at_) ∧ w'.cell? ⟨Bx, 1, none⟩ = some (.int .i64 x.2.bef) ∧ w'.cell? ⟨Bx, 2, none⟩ = some (.int .i64 x.2.aft) := fun w' h =>
          ⟨h, (h.cell (p := ⟨w.heap.size + 1 + 1, 0, none⟩) d2.lt).trans p0, (h.cell (p := ⟨w.heap.size + 1, 0, none⟩) d1.lt).trans l0, (h.cell (p := ⟨Bx, 0, none⟩) bX.lt).trans x0, (h.cell (p := ⟨Bx, 1, none⟩) bX.lt).trans x1, (h.cell (p := ⟨Bx, 2, none⟩) bX.lt).trans x2⟩
         have HS := Lib.hid hS1
         have hH0 := hS1 _ hdr
         clear hS1
         rcases hg4 with rfl | rfl | rfl | rfl
         ·have GX := gidx1
          gi_wp2
          refine wpIn_region_round (S := fun w' => Below W.heap.size W w' ∧ w'.cell? ⟨w.heap.size + 1 + 1, 0, none⟩ = some (.int .i64 1) ∧ w'.cell? ⟨w.heap.size + 1, 0, none⟩ = some (.int .i64 l) ∧ w'.cell? ⟨Bx, 0, none⟩ = some (.int .i64 x.2.at_) ∧ w'.cell? ⟨Bx, 1, none⟩ = some (.int .i64 x.2.bef) ∧ w'.cell? ⟨Bx, 2, none⟩ = some (.int .i64 x.2.aft)) (by kernel_rfl) (by kernel_rfl) (by rintro ⟨_, _, h⟩; exact h) ?_
          refine wpAnyH_take (i := 1) (oi := { dst := some 95, op := Op.fieldAddr 36 (Operand.tmp 5) 0, type := 0, pos := "local.go:153", after := #[], guard := none }) (v := ?v100) rfl (by kernel_rfl) (by kernel_rfl) (by kernel_rfl) (fun _ _ _ h => h) (Or.inl ⟨by rfl, ?hy100⟩) hH0 ?rest100
          case hy100 => (intro w' hSw; (try dsimp only at hSw); go_simp; (try with_reducible rfl))
          try simp only [Act.put, List.setIfInBounds_toArray, List.set_cons_zero, List.set_cons_succ]
          refine wpAnyH_take (i := 2) (oi := { dst := some 96, op := Op.load 3 (Operand.tmp 95), type := 3, pos := "local.go:153", after := #[{ on := 1, ground := Ground.data }], guard := none }) (v := ?v101) rfl (by kernel_rfl) (by kernel_rfl) (by kernel_rfl) (fun _ _ _ h => h) (Or.inl ⟨by rfl, ?hy101⟩) hH0 ?rest101
          case hy101 => (intro w' hSw; (try dsimp only at hSw); go_simp; (try with_reducible rfl))
          try simp only [Act.put, List.setIfInBounds_toArray, List.set_cons_zero, List.set_cons_succ]
          refine wpAnyH_take (i := 4) (oi := { dst := some 98, op := Op.load 3 (Operand.tmp 4), type := 3, pos := "local.go:153", after := #[], guard := none }) (v := ?v102) rfl (by kernel_rfl) (by kernel_rfl) (by kernel_rfl) (fun _ _ _ h => h) (Or.inl ⟨by rfl, ?hy102⟩) hH0 ?rest102
          case hy102 => (intro w' hSw; (try dsimp only at hSw); go_simp; (try with_reducible rfl))
          try simp only [Act.put, List.setIfInBounds_toArray, List.set_cons_zero, List.set_cons_succ]
          refine wpAnyH_take (i := 5) (oi := { dst := some 99, op := Op.load 186 (Operand.tmp 10), type := 186, pos := "local.go:153", after := #[], guard := none }) (v := ?v103) rfl (by kernel_rfl) (by kernel_rfl) (by kernel_rfl) (fun _ _ _ h => h) (Or.inl ⟨by rfl, ?hy103⟩) hH0 ?rest103
          case hy103 => (intro w' hSw; (try dsimp only at hSw); go_simp; (try with_reducible rfl))
          try simp only [Act.put, List.setIfInBounds_toArray, List.set_cons_zero, List.set_cons_succ]
          refine wpAnyH_ready (rs := [0]) (by kernel_rfl) (by simp) ?_
          refine AllReadyH.cons (o := { dst := some 94, op := Op.call { callee := Callee.value (Operand.func 125), args := #[], argTypes := #[] }, type := 192, pos := "local.go:153", after := #[], guard := none }) rfl (fun K hK => ?_) AllReadyH.nil
          go_simp
          go_at_call 125; refine (GA.out _).mono ?_; rintro e wg ⟨rfl, hbg⟩
          refine hK.out _ _ ?_ (fun hH1 => ?_)
          ·exact HS.out _ (hdr.trans (hbg.mono hdr.size))
          clear hK K
          refine wpAnyH_take (i := 3) (oi := { dst := some 97, op := Op.index 192 (Operand.tmp 94) (Operand.tmp 96), type := 191, pos := "local.go:153", after := #[{ on := 0, ground := Ground.data }, { on := 2, ground := Ground.data }], guard := none }) (v := ?v104) rfl (by kernel_rfl) (by kernel_rfl) (by kernel_rfl) (fun _ _ _ h => h) (Or.inl ⟨by rfl, ?hy104⟩) hH1 ?rest104
          case hy104 => (intro w' hSw; (try dsimp only at hSw); go_simp; (try with_reducible rfl))
          try simp only [Act.put, List.setIfInBounds_toArray, List.set_cons_zero, List.set_cons_succ]
          refine wpAnyH_ready (rs := [6]) (by kernel_rfl) (by simp) ?_
          refine AllReadyH.cons (o := { dst := some 100, op := Op.call { callee := Callee.value (Operand.tmp 97), args := #[Operand.tmp 98, Operand.tmp 99], argTypes := #[3, 186] }, type := 140, pos := "local.go:153", after := #[{ on := 3, ground := Ground.data }, { on := 4, ground := Ground.data }, { on := 5, ground := Ground.data }, { on := 0, ground := Ground.chain }], guard := none }) rfl (fun K hK => ?_) AllReadyH.nil
          go_simp
          go_at_call 140; refine (gap1_any l x.2 _).mono ?_; rintro e wh ⟨rfl, hbh⟩
          refine hK.out _ _ ?_ (fun hH2 => ?_)
          ·exact HS.out _ (hH1.1.trans (hbh.mono hH1.1.size))
          clear hK K
          refine wpAnyH_take (i := 7) (oi := { dst := some 93, op := Op.move (Operand.tmp 100), type := 140, pos := "local.go:153", after := #[{ on := 6, ground := Ground.data }], guard := none }) (v := ?v105) rfl (by kernel_rfl) (by kernel_rfl) (by kernel_rfl) (fun _ _ _ h => h) (Or.inl ⟨by rfl, ?hy105⟩) hH2 ?rest105
          case hy105 => (intro w' hSw; (try dsimp only at hSw); go_simp; (try with_reducible rfl))
          try simp only [Act.put, List.setIfInBounds_toArray, List.set_cons_zero, List.set_cons_succ]
          refine wpAnyH_take (i := 8) (oi := { dst := some 101, op := Op.extract (Operand.tmp 93) 0, type := 3, pos := "local.go:153", after := #[{ on := 7, ground := Ground.data }], guard := none }) (v := ?v106) rfl (by kernel_rfl) (by kernel_rfl) (by kernel_rfl) (fun _ _ _ h => h) (Or.inl ⟨by rfl, ?hy106⟩) hH2 ?rest106
          case hy106 => (intro w' hSw; (try dsimp only at hSw); go_simp; (try with_reducible rfl))
          try simp only [Act.put, List.setIfInBounds_toArray, List.set_cons_zero, List.set_cons_succ]
          refine wpAnyH_take (i := 9) (oi := { dst := some 102, op := Op.extract (Operand.tmp 93) 1, type := 29, pos := "local.go:153", after := #[{ on := 7, ground := Ground.data }, { on := 10, ground := Ground.gcOnly Departure.lateStores }], guard := none }) (v := ?v107) rfl (by kernel_rfl) (by kernel_rfl) (by kernel_rfl) (fun _ _ _ h => h) (Or.inl ⟨by rfl, ?hy107⟩) hH2 ?rest107
          case hy107 => (intro w' hSw; (try dsimp only at hSw); go_simp; (try with_reducible rfl))
          try simp only [Act.put, List.setIfInBounds_toArray, List.set_cons_zero, List.set_cons_succ]
          refine wpAnyH_take (i := 10) (oi := { dst := some 11, op := Op.assign (Operand.tmp 101), type := 3, pos := "local.go:153", after := #[{ on := 8, ground := Ground.data }, { on := 6, ground := Ground.chain }, { on := 0, ground := Ground.phase }, { on := 1, ground := Ground.phase }, { on := 2, ground := Ground.phase }, { on := 3, ground := Ground.phase }, { on := 4, ground := Ground.phase }, { on := 5, ground := Ground.phase }, { on := 6, ground := Ground.phase }, { on := 7, ground := Ground.phase }, { on := 8, ground := Ground.phase }, { on := 9, ground := Ground.textOnly Departure.lateStores }], guard := none }) (v := ?v108) rfl (by kernel_rfl) (by kernel_rfl) (by kernel_rfl) (fun _ _ _ h => h) (Or.inl ⟨by rfl, ?hy108⟩) hH2 ?rest108
          case hy108 => (intro w' hSw; (try dsimp only at hSw); go_simp; (try with_reducible rfl))
          try simp only [Act.put, List.setIfInBounds_toArray, List.set_cons_zero, List.set_cons_succ]
          refine wpAnyH_take (i := 11) (oi := { dst := some 12, op := Op.assign (Operand.tmp 102), type := 29, pos := "local.go:153", after := #[{ on := 9, ground := Ground.data }, { on := 10, ground := Ground.chain }, { on := 0, ground := Ground.phase }, { on := 1, ground := Ground.phase }, { on := 2, ground := Ground.phase }, { on := 3, ground := Ground.phase }, { on := 4, ground := Ground.phase }, { on := 5, ground := Ground.phase }, { on := 6, ground := Ground.phase }, { on := 7, ground := Ground.phase }, { on := 8, ground := Ground.phase }, { on := 9, ground := Ground.phase }, { on := 10, ground := Ground.phase }], guard := none }) (v := ?v109) rfl (by kernel_rfl) (by kernel_rfl) (by kernel_rfl) (fun _ _ _ h => h) (Or.inl ⟨by rfl, ?hy109⟩) hH2 ?rest109
          case hy109 => (intro w' hSw; (try dsimp only at hSw); go_simp; (try with_reducible rfl))
          try simp only [Act.put, List.setIfInBounds_toArray, List.set_cons_zero, List.set_cons_succ]
          refine wpAnyH_done (by kernel_rfl) ?_ _
          have hWh := hH2.1
          have e3 := d3.below hWh d3.lt
          have e4 := d4.below hWh d4.lt
          clear r0 r1 rf0 rf1 hH0 hH1 hH2 HS hdr GA GX
          have r0 := e3.cl 0 _ rfl
          have r1 := e4.cl 0 _ rfl
          have rf0 := e3.frozen 0
          have rf1 := e4.frozen 0
          have q3 := e3.lt
          have q4 := e4.lt
          have HX := Lib.hid (show resX 1 l x.2 = (0, 11) by unfold resX gapW; simp)
          gi_wp2
          obtain ⟨s0, s1⟩ := res2 e3 e4 (by omega) (.int .i64 0) (.int .i64 11)
          have hB10 : Below w.heap.size w ((wh.setCell ⟨w.heap.size + 1 + 1 + 1, 0, none⟩ (.int .i64 0)).setCell ⟨w.heap.size + 1 + 1 + 1 + 1, 0, none⟩ (.int .i64 11)) := ((hb.trans (hWh.mono hb.size)).setCell (p := ⟨w.heap.size + 1 + 1 + 1, 0, none⟩) (by show w.heap.size ≤ w.heap.size + 1 + 1 + 1; omega) _).setCell (p := ⟨w.heap.size + 1 + 1 + 1 + 1, 0, none⟩) (by show w.heap.size ≤ w.heap.size + 1 + 1 + 1 + 1; omega) _
          refine ⟨((KeepsOthers.of_grownBy (only_of_below hWh none) (fun j o e => by cases e)).trans (keeps2 _ _ _ _ _)).from _, ⟨rfl, pre, x, ⟨rfl, hp0, hsk⟩, ?_, ?_⟩, hB10⟩
          ·rw [HX.out]; exact s0
          ·rw [HX.out]; exact s1
         ·have GX := gidx2
          gi_wp2
          refine wpIn_region_round (S := fun w' => Below W.heap.size W w' ∧ w'.cell? ⟨w.heap.size + 1 + 1, 0, none⟩ = some (.int .i64 2) ∧ w'.cell? ⟨w.heap.size + 1, 0, none⟩ = some (.int .i64 l) ∧ w'.cell? ⟨Bx, 0, none⟩ = some (.int .i64 x.2.at_) ∧ w'.cell? ⟨Bx, 1, none⟩ = some (.int .i64 x.2.bef) ∧ w'.cell? ⟨Bx, 2, none⟩ = some (.int .i64 x.2.aft)) (by kernel_rfl) (by kernel_rfl) (by rintro ⟨_, _, h⟩; exact h) ?_
          refine wpAnyH_take (i := 1) (oi := { dst := some 95, op := Op.fieldAddr 36 (Operand.tmp 5) 0, type := 0, pos := "local.go:153", after := #[], guard := none }) (v := ?v200) rfl (by kernel_rfl) (by kernel_rfl) (by kernel_rfl) (fun _ _ _ h => h) (Or.inl ⟨by rfl, ?hy200⟩) hH0 ?rest200
          case hy200 => (intro w' hSw; (try dsimp only at hSw); go_simp; (try with_reducible rfl))
          try simp only [Act.put, List.setIfInBounds_toArray, List.set_cons_zero, List.set_cons_succ]
          refine wpAnyH_take (i := 2) (oi := { dst := some 96, op := Op.load 3 (Operand.tmp 95), type := 3, pos := "local.go:153", after := #[{ on := 1, ground := Ground.data }], guard := none }) (v := ?v201) rfl (by kernel_rfl) (by kernel_rfl) (by kernel_rfl) (fun _ _ _ h => h) (Or.inl ⟨by rfl, ?hy201⟩) hH0 ?rest201
          case hy201 => (intro w' hSw; (try dsimp only at hSw); go_simp; (try with_reducible rfl))
          try simp only [Act.put, List.setIfInBounds_toArray, List.set_cons_zero, List.set_cons_succ]
          refine wpAnyH_take (i := 4) (oi := { dst := some 98, op := Op.load 3 (Operand.tmp 4), type := 3, pos := "local.go:153", after := #[], guard := none }) (v := ?v202) rfl (by kernel_rfl) (by kernel_rfl) (by kernel_rfl) (fun _ _ _ h => h) (Or.inl ⟨by rfl, ?hy202⟩) hH0 ?rest202
          case hy202 => (intro w' hSw; (try dsimp only at hSw); go_simp; (try with_reducible rfl))
          try simp only [Act.put, List.setIfInBounds_toArray, List.set_cons_zero, List.set_cons_succ]
          refine wpAnyH_take (i := 5) (oi := { dst := some 99, op := Op.load 186 (Operand.tmp 10), type := 186, pos := "local.go:153", after := #[], guard := none }) (v := ?v203) rfl (by kernel_rfl) (by kernel_rfl) (by kernel_rfl) (fun _ _ _ h => h) (Or.inl ⟨by rfl, ?hy203⟩) hH0 ?rest203
          case hy203 => (intro w' hSw; (try dsimp only at hSw); go_simp; (try with_reducible rfl))
          try simp only [Act.put, List.setIfInBounds_toArray, List.set_cons_zero, List.set_cons_succ]
          refine wpAnyH_ready (rs := [0]) (by kernel_rfl) (by simp) ?_
          refine AllReadyH.cons (o := { dst := some 94, op := Op.call { callee := Callee.value (Operand.func 125), args := #[], argTypes := #[] }, type := 192, pos := "local.go:153", after := #[], guard := none }) rfl (fun K hK => ?_) AllReadyH.nil
          go_simp
          go_at_call 125; refine (GA.out _).mono ?_; rintro e wg ⟨rfl, hbg⟩
          refine hK.out _ _ ?_ (fun hH1 => ?_)
          ·exact HS.out _ (hdr.trans (hbg.mono hdr.size))
          clear hK K
          refine wpAnyH_take (i := 3) (oi := { dst := some 97, op := Op.index 192 (Operand.tmp 94) (Operand.tmp 96), type := 191, pos := "local.go:153", after := #[{ on := 0, ground := Ground.data }, { on := 2, ground := Ground.data }], guard := none }) (v := ?v204) rfl (by kernel_rfl) (by kernel_rfl) (by kernel_rfl) (fun _ _ _ h => h) (Or.inl ⟨by rfl, ?hy204⟩) hH1 ?rest204
          case hy204 => (intro w' hSw; (try dsimp only at hSw); go_simp; (try with_reducible rfl))
          try simp only [Act.put, List.setIfInBounds_toArray, List.set_cons_zero, List.set_cons_succ]
          refine wpAnyH_ready (rs := [6]) (by kernel_rfl) (by simp) ?_
          refine AllReadyH.cons (o := { dst := some 100, op := Op.call { callee := Callee.value (Operand.tmp 97), args := #[Operand.tmp 98, Operand.tmp 99], argTypes := #[3, 186] }, type := 140, pos := "local.go:153", after := #[{ on := 3, ground := Ground.data }, { on := 4, ground := Ground.data }, { on := 5, ground := Ground.data }, { on := 0, ground := Ground.chain }], guard := none }) rfl (fun K hK => ?_) AllReadyH.nil
          go_simp
          go_at_call 141; refine (gap2_any l x.2 _).mono ?_; rintro e wh ⟨rfl, hbh⟩
          refine hK.out _ _ ?_ (fun hH2 => ?_)
          ·exact HS.out _ (hH1.1.trans (hbh.mono hH1.1.size))
          clear hK K
          refine wpAnyH_take (i := 7) (oi := { dst := some 93, op := Op.move (Operand.tmp 100), type := 140, pos := "local.go:153", after := #[{ on := 6, ground := Ground.data }], guard := none }) (v := ?v205) rfl (by kernel_rfl) (by kernel_rfl) (by kernel_rfl) (fun _ _ _ h => h) (Or.inl ⟨by rfl, ?hy205⟩) hH2 ?rest205
          case hy205 => (intro w' hSw; (try dsimp only at hSw); go_simp; (try with_reducible rfl))
          try simp only [Act.put, List.setIfInBounds_toArray, List.set_cons_zero, List.set_cons_succ]
          refine wpAnyH_take (i := 8) (oi := { dst := some 101, op := Op.extract (Operand.tmp 93) 0, type := 3, pos := "local.go:153", after := #[{ on := 7, ground := Ground.data }], guard := none }) (v := ?v206) rfl (by kernel_rfl) (by kernel_rfl) (by kernel_rfl) (fun _ _ _ h => h) (Or.inl ⟨by rfl, ?hy206⟩) hH2 ?rest206
          case hy206 => (intro w' hSw; (try dsimp only at hSw); go_simp; (try with_reducible rfl))
          try simp only [Act.put, List.setIfInBounds_toArray, List.set_cons_zero, List.set_cons_succ]
          refine wpAnyH_take (i := 9) (oi := { dst := some 102, op := Op.extract (Operand.tmp 93) 1, type := 29, pos := "local.go:153", after := #[{ on := 7, ground := Ground.data }, { on := 10, ground := Ground.gcOnly Departure.lateStores }], guard := none }) (v := ?v207) rfl (by kernel_rfl) (by kernel_rfl) (by kernel_rfl) (fun _ _ _ h => h) (Or.inl ⟨by rfl, ?hy207⟩) hH2 ?rest207
          case hy207 => (intro w' hSw; (try dsimp only at hSw); go_simp; (try with_reducible rfl))
          try simp only [Act.put, List.setIfInBounds_toArray, List.set_cons_zero, List.set_cons_succ]
          refine wpAnyH_take (i := 10) (oi := { dst := some 11, op := Op.assign (Operand.tmp 101), type := 3, pos := "local.go:153", after := #[{ on := 8, ground := Ground.data }, { on := 6, ground := Ground.chain }, { on := 0, ground := Ground.phase }, { on := 1, ground := Ground.phase }, { on := 2, ground := Ground.phase }, { on := 3, ground := Ground.phase }, { on := 4, ground := Ground.phase }, { on := 5, ground := Ground.phase }, { on := 6, ground := Ground.phase }, { on := 7, ground := Ground.phase }, { on := 8, ground := Ground.phase }, { on := 9, ground := Ground.textOnly Departure.lateStores }], guard := none }) (v := ?v208) rfl (by kernel_rfl) (by kernel_rfl) (by kernel_rfl) (fun _ _ _ h => h) (Or.inl ⟨by rfl, ?hy208⟩) hH2 ?rest208
          case hy208 => (intro w' hSw; (try dsimp only at hSw); go_simp; (try with_reducible rfl))
          try simp only [Act.put, List.setIfInBounds_toArray, List.set_cons_zero, List.set_cons_succ]
          refine wpAnyH_take (i := 11) (oi := { dst := some 12, op := Op.assign (Operand.tmp 102), type := 29, pos := "local.go:153", after := #[{ on := 9, ground := Ground.data }, { on := 10, ground := Ground.chain }, { on := 0, ground := Ground.phase }, { on := 1, ground := Ground.phase }, { on := 2, ground := Ground.phase }, { on := 3, ground := Ground.phase }, { on := 4, ground := Ground.phase }, { on := 5, ground := Ground.phase }, { on := 6, ground := Ground.phase }, { on := 7, ground := Ground.phase }, { on := 8, ground := Ground.phase }, { on := 9, ground := Ground.phase }, { on := 10, ground := Ground.phase }], guard := none }) (v := ?v209) rfl (by kernel_rfl) (by kernel_rfl) (by kernel_rfl) (fun _ _ _ h => h) (Or.inl ⟨by rfl, ?hy209⟩) hH2 ?rest209
          case hy209 => (intro w' hSw; (try dsimp only at hSw); go_simp; (try with_reducible rfl))
          try simp only [Act.put, List.setIfInBounds_toArray, List.set_cons_zero, List.set_cons_succ]
          refine wpAnyH_done (by kernel_rfl) ?_ _
          have hWh := hH2.1
          have e3 := d3.below hWh d3.lt
          have e4 := d4.below hWh d4.lt
          clear r0 r1 rf0 rf1 hH0 hH1 hH2 HS hdr GA GX
          have r0 := e3.cl 0 _ rfl
          have r1 := e4.cl 0 _ rfl
          have rf0 := e3.frozen 0
          have rf1 := e4.frozen 0
          have q3 := e3.lt
          have q4 := e4.lt
          have HY := Lib.hid (show resX 2 l x.2 = if inT (wrap64 (l - x.2.bef)) = true then (wrap64 (l - x.2.bef), 0) else (0, 2) by unfold resX gapW; simp)
          cases ht : inT (wrap64 (l - x.2.bef))
          ·have HX := Lib.hid (HY.out.trans (if_neg (by rw [ht]; decide)))
           gi_wp2_with (refine ⟨trivial, ?_⟩; gi_at_call 120; refine (CallsIn.inRound l1' (callsIn_wide.2 (isTime_any (wrap64 (l - x.2.bef)) _))).mono ?_; rintro e wt ⟨rfl, rfl⟩; rw [ht])
           obtain ⟨s0, s1⟩ := res2 e3 e4 (by omega) (.int .i64 0) (.int .i64 2)
           have hB10 : Below w.heap.size w ((wh.setCell ⟨w.heap.size + 1 + 1 + 1, 0, none⟩ (.int .i64 0)).setCell ⟨w.heap.size + 1 + 1 + 1 + 1, 0, none⟩ (.int .i64 2)) := ((hb.trans (hWh.mono hb.size)).setCell (p := ⟨w.heap.size + 1 + 1 + 1, 0, none⟩) (by show w.heap.size ≤ w.heap.size + 1 + 1 + 1; omega) _).setCell (p := ⟨w.heap.size + 1 + 1 + 1 + 1, 0, none⟩) (by show w.heap.size ≤ w.heap.size + 1 + 1 + 1 + 1; omega) _
           refine ⟨((KeepsOthers.of_grownBy (only_of_below hWh none) (fun j o e => by cases e)).trans (keeps2 _ _ _ _ _)).from _, ⟨rfl, pre, x, ⟨rfl, hp0, hsk⟩, ?_, ?_⟩, hB10⟩
           ·rw [HX.out]; exact s0
           ·rw [HX.out]; exact s1
          ·have HX := Lib.hid (HY.out.trans (if_pos ht))
           gi_wp2_with (refine ⟨trivial, ?_⟩; gi_at_call 120; refine (CallsIn.inRound l1' (callsIn_wide.2 (isTime_any (wrap64 (l - x.2.bef)) _))).mono ?_; rintro e wt ⟨rfl, rfl⟩; rw [ht])
           obtain ⟨s0, s1⟩ := res2 e3 e4 (by omega) (.int .i64 (wrap64 (l - x.2.bef))) (.int .i64 0)
           have hB10 : Below w.heap.size w ((wh.setCell ⟨w.heap.size + 1 + 1 + 1, 0, none⟩ (.int .i64 (wrap64 (l - x.2.bef)))).setCell ⟨w.heap.size + 1 + 1 + 1 + 1, 0, none⟩ (.int .i64 0)) := ((hb.trans (hWh.mono hb.size)).setCell (p := ⟨w.heap.size + 1 + 1 + 1, 0, none⟩) (by show w.heap.size ≤ w.heap.size + 1 + 1 + 1; omega) _).setCell (p := ⟨w.heap.size + 1 + 1 + 1 + 1, 0, none⟩) (by show w.heap.size ≤ w.heap.size + 1 + 1 + 1 + 1; omega) _
           refine ⟨((KeepsOthers.of_grownBy (only_of_below hWh none) (fun j o e => by cases e)).trans (keeps2 _ _ _ _ _)).from _, ⟨rfl, pre, x, ⟨rfl, hp0, hsk⟩, ?_, ?_⟩, hB10⟩
           ·rw [HX.out]; exact s0
           ·rw [HX.out]; exact s1
         ·have GX := gidx3
          gi_wp2
          refine wpIn_region_round (S := fun w' => Below W.heap.size W w' ∧ w'.cell? ⟨w.heap.size + 1 + 1, 0, none⟩ = some (.int .i64 3) ∧ w'.cell? ⟨w.heap.size + 1, 0, none⟩ = some (.int .i64 l) ∧ w'.cell? ⟨Bx, 0, none⟩ = some (.int .i64 x.2.at_) ∧ w'.cell? ⟨Bx, 1, none⟩ = some (.int .i64 x.2.bef) ∧ w'.cell? ⟨Bx, 2, none⟩ = some (.int .i64 x.2.aft)) (by kernel_rfl) (by kernel_rfl) (by rintro ⟨_, _, h⟩; exact h) ?_
          refine wpAnyH_take (i := 1) (oi := { dst := some 95, op := Op.fieldAddr 36 (Operand.tmp 5) 0, type := 0, pos := "local.go:153", after := #[], guard := none }) (v := ?v300) rfl (by kernel_rfl) (by kernel_rfl) (by kernel_rfl) (fun _ _ _ h => h) (Or.inl ⟨by rfl, ?hy300⟩) hH0 ?rest300
          case hy300 => (intro w' hSw; (try dsimp only at hSw); go_simp; (try with_reducible rfl))
          try simp only [Act.put, List.setIfInBounds_toArray, List.set_cons_zero, List.set_cons_succ]
          refine wpAnyH_take (i := 2) (oi := { dst := some 96, op := Op.load 3 (Operand.tmp 95), type := 3, pos := "local.go:153", after := #[{ on := 1, ground := Ground.data }], guard := none }) (v := ?v301) rfl (by kernel_rfl) (by kernel_rfl) (by kernel_rfl) (fun _ _ _ h => h) (Or.inl ⟨by rfl, ?hy301⟩) hH0 ?rest301
          case hy301 => (intro w' hSw; (try dsimp only at hSw); go_simp; (try with_reducible rfl))
          try simp only [Act.put, List.setIfInBounds_toArray, List.set_cons_zero, List.set_cons_succ]
          refine wpAnyH_take (i := 4) (oi := { dst := some 98, op := Op.load 3 (Operand.tmp 4), type := 3, pos := "local.go:153", after := #[], guard := none }) (v := ?v302) rfl (by kernel_rfl) (by kernel_rfl) (by kernel_rfl) (fun _ _ _ h => h) (Or.inl ⟨by rfl, ?hy302⟩) hH0 ?rest302
          case hy302 => (intro w' hSw; (try dsimp only at hSw); go_simp; (try with_reducible rfl))
          try simp only [Act.put, List.setIfInBounds_toArray, List.set_cons_zero, List.set_cons_succ]
          refine wpAnyH_take (i := 5) (oi := { dst := some 99, op := Op.load 186 (Operand.tmp 10), type := 186, pos := "local.go:153", after := #[], guard := none }) (v := ?v303) rfl (by kernel_rfl) (by kernel_rfl) (by kernel_rfl) (fun _ _ _ h => h) (Or.inl ⟨by rfl, ?hy303⟩) hH0 ?rest303
          case hy303 => (intro w' hSw; (try dsimp only at hSw); go_simp; (try with_reducible rfl))
          try simp only [Act.put, List.setIfInBounds_toArray, List.set_cons_zero, List.set_cons_succ]
          refine wpAnyH_ready (rs := [0]) (by kernel_rfl) (by simp) ?_
          refine AllReadyH.cons (o := { dst := some 94, op := Op.call { callee := Callee.value (Operand.func 125), args := #[], argTypes := #[] }, type := 192, pos := "local.go:153", after := #[], guard := none }) rfl (fun K hK => ?_) AllReadyH.nil
          go_simp
          go_at_call 125; refine (GA.out _).mono ?_; rintro e wg ⟨rfl, hbg⟩
          refine hK.out _ _ ?_ (fun hH1 => ?_)
          ·exact HS.out _ (hdr.trans (hbg.mono hdr.size))
          clear hK K
          refine wpAnyH_take (i := 3) (oi := { dst := some 97, op := Op.index 192 (Operand.tmp 94) (Operand.tmp 96), type := 191, pos := "local.go:153", after := #[{ on := 0, ground := Ground.data }, { on := 2, ground := Ground.data }], guard := none }) (v := ?v304) rfl (by kernel_rfl) (by kernel_rfl) (by kernel_rfl) (fun _ _ _ h => h) (Or.inl ⟨by rfl, ?hy304⟩) hH1 ?rest304
          case hy304 => (intro w' hSw; (try dsimp only at hSw); go_simp; (try with_reducible rfl))
          try simp only [Act.put, List.setIfInBounds_toArray, List.set_cons_zero, List.set_cons_succ]
          refine wpAnyH_ready (rs := [6]) (by kernel_rfl) (by simp) ?_
          refine AllReadyH.cons (o := { dst := some 100, op := Op.call { callee := Callee.value (Operand.tmp 97), args := #[Operand.tmp 98, Operand.tmp 99], argTypes := #[3, 186] }, type := 140, pos := "local.go:153", after := #[{ on := 3, ground := Ground.data }, { on := 4, ground := Ground.data }, { on := 5, ground := Ground.data }, { on := 0, ground := Ground.chain }], guard := none }) rfl (fun K hK => ?_) AllReadyH.nil
          go_simp
          go_at_call 142; refine (gap3_any l x.2 _).mono ?_; rintro e wh ⟨rfl, hbh⟩
          refine hK.out _ _ ?_ (fun hH2 => ?_)
          ·exact HS.out _ (hH1.1.trans (hbh.mono hH1.1.size))
          clear hK K
          refine wpAnyH_take (i := 7) (oi := { dst := some 93, op := Op.move (Operand.tmp 100), type := 140, pos := "local.go:153", after := #[{ on := 6, ground := Ground.data }], guard := none }) (v := ?v305) rfl (by kernel_rfl) (by kernel_rfl) (by kernel_rfl) (fun _ _ _ h => h) (Or.inl ⟨by rfl, ?hy305⟩) hH2 ?rest305
          case hy305 => (intro w' hSw; (try dsimp only at hSw); go_simp; (try with_reducible rfl))
          try simp only [Act.put, List.setIfInBounds_toArray, List.set_cons_zero, List.set_cons_succ]
          refine wpAnyH_take (i := 8) (oi := { dst := some 101, op := Op.extract (Operand.tmp 93) 0, type := 3, pos := "local.go:153", after := #[{ on := 7, ground := Ground.data }], guard := none }) (v := ?v306) rfl (by kernel_rfl) (by kernel_rfl) (by kernel_rfl) (fun _ _ _ h => h) (Or.inl ⟨by rfl, ?hy306⟩) hH2 ?rest306
          case hy306 => (intro w' hSw; (try dsimp only at hSw); go_simp; (try with_reducible rfl))
          try simp only [Act.put, List.setIfInBounds_toArray, List.set_cons_zero, List.set_cons_succ]
          refine wpAnyH_take (i := 9) (oi := { dst := some 102, op := Op.extract (Operand.tmp 93) 1, type := 29, pos := "local.go:153", after := #[{ on := 7, ground := Ground.data }, { on := 10, ground := Ground.gcOnly Departure.lateStores }], guard := none }) (v := ?v307) rfl (by kernel_rfl) (by kernel_rfl) (by kernel_rfl) (fun _ _ _ h => h) (Or.inl ⟨by rfl, ?hy307⟩) hH2 ?rest307
          case hy307 => (intro w' hSw; (try dsimp only at hSw); go_simp; (try with_reducible rfl))
          try simp only [Act.put, List.setIfInBounds_toArray, List.set_cons_zero, List.set_cons_succ]
          refine wpAnyH_take (i := 10) (oi := { dst := some 11, op := Op.assign (Operand.tmp 101), type := 3, pos := "local.go:153", after := #[{ on := 8, ground := Ground.data }, { on := 6, ground := Ground.chain }, { on := 0, ground := Ground.phase }, { on := 1, ground := Ground.phase }, { on := 2, ground := Ground.phase }, { on := 3, ground := Ground.phase }, { on := 4, ground := Ground.phase }, { on := 5, ground := Ground.phase }, { on := 6, ground := Ground.phase }, { on := 7, ground := Ground.phase }, { on := 8, ground := Ground.phase }, { on := 9, ground := Ground.textOnly Departure.lateStores }], guard := none }) (v := ?v308) rfl (by kernel_rfl) (by kernel_rfl) (by kernel_rfl) (fun _ _ _ h => h) (Or.inl ⟨by rfl, ?hy308⟩) hH2 ?rest308
          case hy308 => (intro w' hSw; (try dsimp only at hSw); go_simp; (try with_reducible rfl))
          try simp only [Act.put, List.setIfInBounds_toArray, List.set_cons_zero, List.set_cons_succ]
          refine wpAnyH_take (i := 11) (oi := { dst := some 12, op := Op.assign (Operand.tmp 102), type := 29, pos := "local.go:153", after := #[{ on := 9, ground := Ground.data }, { on := 10, ground := Ground.chain }, { on := 0, ground := Ground.phase }, { on := 1, ground := Ground.phase }, { on := 2, ground := Ground.phase }, { on := 3, ground := Ground.phase }, { on := 4, ground := Ground.phase }, { on := 5, ground := Ground.phase }, { on := 6, ground := Ground.phase }, { on := 7, ground := Ground.phase }, { on := 8, ground := Ground.phase }, { on := 9, ground := Ground.phase }, { on := 10, ground := Ground.phase }], guard := none }) (v := ?v309) rfl (by kernel_rfl) (by kernel_rfl) (by kernel_rfl) (fun _ _ _ h => h) (Or.inl ⟨by rfl, ?hy309⟩) hH2 ?rest309
          case hy309 => (intro w' hSw; (try dsimp only at hSw); go_simp; (try with_reducible rfl))
          try simp only [Act.put, List.setIfInBounds_toArray, List.set_cons_zero, List.set_cons_succ]
          refine wpAnyH_done (by kernel_rfl) ?_ _
          have hWh := hH2.1
          have e3 := d3.below hWh d3.lt
          have e4 := d4.below hWh d4.lt
          clear r0 r1 rf0 rf1 hH0 hH1 hH2 HS hdr GA GX
          have r0 := e3.cl 0 _ rfl
          have r1 := e4.cl 0 _ rfl
          have rf0 := e3.frozen 0
          have rf1 := e4.frozen 0
          have q3 := e3.lt
          have q4 := e4.lt
          have HY := Lib.hid (show resX 3 l x.2 = if inT (wrap64 (l - x.2.aft)) = true then (wrap64 (l - x.2.aft), 0) else (0, 2) by unfold resX gapW; simp)
          cases ht : inT (wrap64 (l - x.2.aft))
          ·have HX := Lib.hid (HY.out.trans (if_neg (by rw [ht]; decide)))
           gi_wp2_with (refine ⟨trivial, ?_⟩; gi_at_call 120; refine (CallsIn.inRound l1' (callsIn_wide.2 (isTime_any (wrap64 (l - x.2.aft)) _))).mono ?_; rintro e wt ⟨rfl, rfl⟩; rw [ht])
           obtain ⟨s0, s1⟩ := res2 e3 e4 (by omega) (.int .i64 0) (.int .i64 2)
           have hB10 : Below w.heap.size w ((wh.setCell ⟨w.heap.size + 1 + 1 + 1, 0, none⟩ (.int .i64 0)).setCell ⟨w.heap.size + 1 + 1 + 1 + 1, 0, none⟩ (.int .i64 2)) := ((hb.trans (hWh.mono hb.size)).setCell (p := ⟨w.heap.size + 1 + 1 + 1, 0, none⟩) (by show w.heap.size ≤ w.heap.size + 1 + 1 + 1; omega) _).setCell (p := ⟨w.heap.size + 1 + 1 + 1 + 1, 0, none⟩) (by show w.heap.size ≤ w.heap.size + 1 + 1 + 1 + 1; omega) _
           refine ⟨((KeepsOthers.of_grownBy (only_of_below hWh none) (fun j o e => by cases e)).trans (keeps2 _ _ _ _ _)).from _, ⟨rfl, pre, x, ⟨rfl, hp0, hsk⟩, ?_, ?_⟩, hB10⟩
           ·rw [HX.out]; exact s0
           ·rw [HX.out]; exact s1
          ·have HX := Lib.hid (HY.out.trans (if_pos ht))
           gi_wp2_with (refine ⟨trivial, ?_⟩; gi_at_call 120; refine (CallsIn.inRound l1' (callsIn_wide.2 (isTime_any (wrap64 (l - x.2.aft)) _))).mono ?_; rintro e wt ⟨rfl, rfl⟩; rw [ht])
           obtain ⟨s0, s1⟩ := res2 e3 e4 (by omega) (.int .i64 (wrap64 (l - x.2.aft))) (.int .i64 0)
           have hB10 : Below w.heap.size w ((wh.setCell ⟨w.heap.size + 1 + 1 + 1, 0, none⟩ (.int .i64 (wrap64 (l - x.2.aft)))).setCell ⟨w.heap.size + 1 + 1 + 1 + 1, 0, none⟩ (.int .i64 0)) := ((hb.trans (hWh.mono hb.size)).setCell (p := ⟨w.heap.size + 1 + 1 + 1, 0, none⟩) (by show w.heap.size ≤ w.heap.size + 1 + 1 + 1; omega) _).setCell (p := ⟨w.heap.size + 1 + 1 + 1 + 1, 0, none⟩) (by show w.heap.size ≤ w.heap.size + 1 + 1 + 1 + 1; omega) _
           refine ⟨((KeepsOthers.of_grownBy (only_of_below hWh none) (fun j o e => by cases e)).trans (keeps2 _ _ _ _ _)).from _, ⟨rfl, pre, x, ⟨rfl, hp0, hsk⟩, ?_, ?_⟩, hB10⟩
           ·rw [HX.out]; exact s0
           ·rw [HX.out]; exact s1
         ·have GX := gidx4
          gi_wp2
          refine wpIn_region_round (S := fun w' => Below W.heap.size W w' ∧ w'.cell? ⟨w.heap.size + 1 + 1, 0, none⟩ = some (.int .i64 4) ∧ w'.cell? ⟨w.heap.size + 1, 0, none⟩ = some (.int .i64 l) ∧ w'.cell? ⟨Bx, 0, none⟩ = some (.int .i64 x.2.at_) ∧ w'.cell? ⟨Bx, 1, none⟩ = some (.int .i64 x.2.bef) ∧ w'.cell? ⟨Bx, 2, none⟩ = some (.int .i64 x.2.aft)) (by kernel_rfl) (by kernel_rfl) (by rintro ⟨_, _, h⟩; exact h) ?_
          refine wpAnyH_take (i := 1) (oi := { dst := some 95, op := Op.fieldAddr 36 (Operand.tmp 5) 0, type := 0, pos := "local.go:153", after := #[], guard := none }) (v := ?v400) rfl (by kernel_rfl) (by kernel_rfl) (by kernel_rfl) (fun _ _ _ h => h) (Or.inl ⟨by rfl, ?hy400⟩) hH0 ?rest400
          case hy400 => (intro w' hSw; (try dsimp only at hSw); go_simp; (try with_reducible rfl))
          try simp only [Act.put, List.setIfInBounds_toArray, List.set_cons_zero, List.set_cons_succ]
          refine wpAnyH_take (i := 2) (oi := { dst := some 96, op := Op.load 3 (Operand.tmp 95), type := 3, pos := "local.go:153", after := #[{ on := 1, ground := Ground.data }], guard := none }) (v := ?v401) rfl (by kernel_rfl) (by kernel_rfl) (by kernel_rfl) (fun _ _ _ h => h) (Or.inl ⟨by rfl, ?hy401⟩) hH0 ?rest401
          case hy401 => (intro w' hSw; (try dsimp only at hSw); go_simp; (try with_reducible rfl))
          try simp only [Act.put, List.setIfInBounds_toArray, List.set_cons_zero, List.set_cons_succ]
          refine wpAnyH_take (i := 4) (oi := { dst := some 98, op := Op.load 3 (Operand.tmp 4), type := 3, pos := "local.go:153", after := #[], guard := none }) (v := ?v402) rfl (by kernel_rfl) (by kernel_rfl) (by kernel_rfl) (fun _ _ _ h => h) (Or.inl ⟨by rfl, ?hy402⟩) hH0 ?rest402
          case hy402 => (intro w' hSw; (try dsimp only at hSw); go_simp; (try with_reducible rfl))
          try simp only [Act.put, List.setIfInBounds_toArray, List.set_cons_zero, List.set_cons_succ]
          refine wpAnyH_take (i := 5) (oi := { dst := some 99, op := Op.load 186 (Operand.tmp 10), type := 186, pos := "local.go:153", after := #[], guard := none }) (v := ?v403) rfl (by kernel_rfl) (by kernel_rfl) (by kernel_rfl) (fun _ _ _ h => h) (Or.inl ⟨by rfl, ?hy403⟩) hH0 ?rest403
          case hy403 => (intro w' hSw; (try dsimp only at hSw); go_simp; (try with_reducible rfl))
          try simp only [Act.put, List.setIfInBounds_toArray, List.set_cons_zero, List.set_cons_succ]
          refine wpAnyH_ready (rs := [0]) (by kernel_rfl) (by simp) ?_
          refine AllReadyH.cons (o := { dst := some 94, op := Op.call { callee := Callee.value (Operand.func 125), args := #[], argTypes := #[] }, type := 192, pos := "local.go:153", after := #[], guard := none }) rfl (fun K hK => ?_) AllReadyH.nil
          go_simp
          go_at_call 125; refine (GA.out _).mono ?_; rintro e wg ⟨rfl, hbg⟩
          refine hK.out _ _ ?_ (fun hH1 => ?_)
          ·exact HS.out _ (hdr.trans (hbg.mono hdr.size))
          clear hK K
          refine wpAnyH_take (i := 3) (oi := { dst := some 97, op := Op.index 192 (Operand.tmp 94) (Operand.tmp 96), type := 191, pos := "local.go:153", after := #[{ on := 0, ground := Ground.data }, { on := 2, ground := Ground.data }], guard := none }) (v := ?v404) rfl (by kernel_rfl) (by kernel_rfl) (by kernel_rfl) (fun _ _ _ h => h) (Or.inl ⟨by rfl, ?hy404⟩) hH1 ?rest404
          case hy404 => (intro w' hSw; (try dsimp only at hSw); go_simp; (try with_reducible rfl))
          try simp only [Act.put, List.setIfInBounds_toArray, List.set_cons_zero, List.set_cons_succ]
          refine wpAnyH_ready (rs := [6]) (by kernel_rfl) (by simp) ?_
          refine AllReadyH.cons (o := { dst := some 100, op := Op.call { callee := Callee.value (Operand.tmp 97), args := #[Operand.tmp 98, Operand.tmp 99], argTypes := #[3, 186] }, type := 140, pos := "local.go:153", after := #[{ on := 3, ground := Ground.data }, { on := 4, ground := Ground.data }, { on := 5, ground := Ground.data }, { on := 0, ground := Ground.chain }], guard := none }) rfl (fun K hK => ?_) AllReadyH.nil
          go_simp
          go_at_call 143; refine (gap4_any l x.2 _).mono ?_; rintro e wh ⟨rfl, hbh⟩
          refine hK.out _ _ ?_ (fun hH2 => ?_)
          ·exact HS.out _ (hH1.1.trans (hbh.mono hH1.1.size))
          clear hK K
          refine wpAnyH_take (i := 7) (oi := { dst := some 93, op := Op.move (Operand.tmp 100), type := 140, pos := "local.go:153", after := #[{ on := 6, ground := Ground.data }], guard := none }) (v := ?v405) rfl (by kernel_rfl) (by kernel_rfl) (by kernel_rfl) (fun _ _ _ h => h) (Or.inl ⟨by rfl, ?hy405⟩) hH2 ?rest405
          case hy405 => (intro w' hSw; (try dsimp only at hSw); go_simp; (try with_reducible rfl))
          try simp only [Act.put, List.setIfInBounds_toArray, List.set_cons_zero, List.set_cons_succ]
          refine wpAnyH_take (i := 8) (oi := { dst := some 101, op := Op.extract (Operand.tmp 93) 0, type := 3, pos := "local.go:153", after := #[{ on := 7, ground := Ground.data }], guard := none }) (v := ?v406) rfl (by kernel_rfl) (by kernel_rfl) (by kernel_rfl) (fun _ _ _ h => h) (Or.inl ⟨by rfl, ?hy406⟩) hH2 ?rest406
          case hy406 => (intro w' hSw; (try dsimp only at hSw); go_simp; (try with_reducible rfl))
          try simp only [Act.put, List.setIfInBounds_toArray, List.set_cons_zero, List.set_cons_succ]
          refine wpAnyH_take (i := 9) (oi := { dst := some 102, op := Op.extract (Operand.tmp 93) 1, type := 29, pos := "local.go:153", after := #[{ on := 7, ground := Ground.data }, { on := 10, ground := Ground.gcOnly Departure.lateStores }], guard := none }) (v := ?v407) rfl (by kernel_rfl) (by kernel_rfl) (by kernel_rfl) (fun _ _ _ h => h) (Or.inl ⟨by rfl, ?hy407⟩) hH2 ?rest407
          case hy407 => (intro w' hSw; (try dsimp only at hSw); go_simp; (try with_reducible rfl))
          try simp only [Act.put, List.setIfInBounds_toArray, List.set_cons_zero, List.set_cons_succ]
          refine wpAnyH_take (i := 10) (oi := { dst := some 11, op := Op.assign (Operand.tmp 101), type := 3, pos := "local.go:153", after := #[{ on := 8, ground := Ground.data }, { on := 6, ground := Ground.chain }, { on := 0, ground := Ground.phase }, { on := 1, ground := Ground.phase }, { on := 2, ground := Ground.phase }, { on := 3, ground := Ground.phase }, { on := 4, ground := Ground.phase }, { on := 5, ground := Ground.phase }, { on := 6, ground := Ground.phase }, { on := 7, ground := Ground.phase }, { on := 8, ground := Ground.phase }, { on := 9, ground := Ground.textOnly Departure.lateStores }], guard := none }) (v := ?v408) rfl (by kernel_rfl) (by kernel_rfl) (by kernel_rfl) (fun _ _ _ h => h) (Or.inl ⟨by rfl, ?hy408⟩) hH2 ?rest408
          case hy408 => (intro w' hSw; (try dsimp only at hSw); go_simp; (try with_reducible rfl))
          try simp only [Act.put, List.setIfInBounds_toArray, List.set_cons_zero, List.set_cons_succ]
          refine wpAnyH_take (i := 11) (oi := { dst := some 12, op := Op.assign (Operand.tmp 102), type := 29, pos := "local.go:153", after := #[{ on := 9, ground := Ground.data }, { on := 10, ground := Ground.chain }, { on := 0, ground := Ground.phase }, { on := 1, ground := Ground.phase }, { on := 2, ground := Ground.phase }, { on := 3, ground := Ground.phase }, { on := 4, ground := Ground.phase }, { on := 5, ground := Ground.phase }, { on := 6, ground := Ground.phase }, { on := 7, ground := Ground.phase }, { on := 8, ground := Ground.phase }, { on := 9, ground := Ground.phase }, { on := 10, ground := Ground.phase }], guard := none }) (v := ?v409) rfl (by kernel_rfl) (by kernel_rfl) (by kernel_rfl) (fun _ _ _ h => h) (Or.inl ⟨by rfl, ?hy409⟩) hH2 ?rest409
          case hy409 => (intro w' hSw; (try dsimp only at hSw); go_simp; (try with_reducible rfl))
          try simp only [Act.put, List.setIfInBounds_toArray, List.set_cons_zero, List.set_cons_succ]
          refine wpAnyH_done (by kernel_rfl) ?_ _
          have hWh := hH2.1
          have e3 := d3.below hWh d3.lt
          have e4 := d4.below hWh d4.lt
          clear r0 r1 rf0 rf1 hH0 hH1 hH2 HS hdr GA GX
          have r0 := e3.cl 0 _ rfl
          have r1 := e4.cl 0 _ rfl
          have rf0 := e3.frozen 0
          have rf1 := e4.frozen 0
          have q3 := e3.lt
          have q4 := e4.lt
          have HY := Lib.hid (show resX 4 l x.2 = if inT (x.2.at_) = true then (x.2.at_, 0) else (0, 2) by unfold resX gapW; simp)
          cases ht : inT (x.2.at_)
          ·have HX := Lib.hid (HY.out.trans (if_neg (by rw [ht]; decide)))
           gi_wp2_with (refine ⟨trivial, ?_⟩; gi_at_call 120; refine (CallsIn.inRound l1' (callsIn_wide.2 (isTime_any (x.2.at_) _))).mono ?_; rintro e wt ⟨rfl, rfl⟩; rw [ht])
           obtain ⟨s0, s1⟩ := res2 e3 e4 (by omega) (.int .i64 0) (.int .i64 2)
           have hB10 : Below w.heap.size w ((wh.setCell ⟨w.heap.size + 1 + 1 + 1, 0, none⟩ (.int .i64 0)).setCell ⟨w.heap.size + 1 + 1 + 1 + 1, 0, none⟩ (.int .i64 2)) := ((hb.trans (hWh.mono hb.size)).setCell (p := ⟨w.heap.size + 1 + 1 + 1, 0, none⟩) (by show w.heap.size ≤ w.heap.size + 1 + 1 + 1; omega) _).setCell (p := ⟨w.heap.size + 1 + 1 + 1 + 1, 0, none⟩) (by show w.heap.size ≤ w.heap.size + 1 + 1 + 1 + 1; omega) _
           refine ⟨((KeepsOthers.of_grownBy (only_of_below hWh none) (fun j o e => by cases e)).trans (keeps2 _ _ _ _ _)).from _, ⟨rfl, pre, x, ⟨rfl, hp0, hsk⟩, ?_, ?_⟩, hB10⟩
           ·rw [HX.out]; exact s0
           ·rw [HX.out]; exact s1
          ·have HX := Lib.hid (HY.out.trans (if_pos ht))
           gi_wp2_with (refine ⟨trivial, ?_⟩; gi_at_call 120; refine (CallsIn.inRound l1' (callsIn_wide.2 (isTime_any (x.2.at_) _))).mono ?_; rintro e wt ⟨rfl, rfl⟩; rw [ht])
           obtain ⟨s0, s1⟩ := res2 e3 e4 (by omega) (.int .i64 (x.2.at_)) (.int .i64 0)
           have hB10 : Below w.heap.size w ((wh.setCell ⟨w.heap.size + 1 + 1 + 1, 0, none⟩ (.int .i64 (x.2.at_))).setCell ⟨w.heap.size + 1 + 1 + 1 + 1, 0, none⟩ (.int .i64 0)) := ((hb.trans (hWh.mono hb.size)).setCell (p := ⟨w.heap.size + 1 + 1 + 1, 0, none⟩) (by show w.heap.size ≤ w.heap.size + 1 + 1 + 1; omega) _).setCell (p := ⟨w.heap.size + 1 + 1 + 1 + 1, 0, none⟩) (by show w.heap.size ≤ w.heap.size + 1 + 1 + 1 + 1; omega) _
           refine ⟨((KeepsOthers.of_grownBy (only_of_below hWh none) (fun j o e => by cases e)).trans (keeps2 _ _ _ _ _)).from _, ⟨rfl, pre, x, ⟨rfl, hp0, hsk⟩, ?_, ?_⟩, hB10⟩
           ·rw [HX.out]; exact s0
           ·rw [HX.out]; exact s1
        ·have dk1 : decide (wrap64 (x.2.at_ + x.2.bef) ≤ l) = true := decide_eq_true k1
         have dk2 : decide (l < wrap64 (x.2.at_ + x.2.aft)) = false := decide_eq_false k2
         have hsk : skB l x.2 = false := by unfold skB; rw [dk1, dk2]; rfl
         gi_wp2
         exact ⟨KeepsFrom.refl _ _, Below.refl _ _, fun p hp' => (List.mem_append.1 hp').elim (hp0 p) (fun e => by simp at e; subst e; exact hsk), hbW⟩
       ·have dk1 : decide (wrap64 (x.2.at_ + x.2.bef) ≤ l) = false := decide_eq_false k1
        have hsk : skB l x.2 = false := by unfold skB; rw [dk1]; rfl
        gi_wp2
        exact ⟨KeepsFrom.refl _ _, Below.refl _ _, fun p hp' => (List.mem_append.1 hp').elim (hp0 p) (fun e => by simp at e; subst e; exact hsk), hbW⟩
      case done =>
       rintro D ys W hD rfl ⟨hp0, hbW⟩ hK
       have hb : Below w.heap.size w W := hB9.trans (hbW.mono hB9.size)
       have d3 := c3.below hbW (by omega)
       have d4 := c4.below hbW (by omega)
       have r0 := d3.cl 0 _ rfl
       have r1 := d4.cl 0 _ rfl
       have rf0 := d3.frozen 0
       have rf1 := d4.frozen 0
       have HN := Lib.hid (HRN.out (find_noneS hp0))
       gi_wp2
       obtain ⟨s0, s1⟩ := res2 d3 d4 (by omega) (.int .i64 0) (.int .i64 2)
       have hB10 : Below w.heap.size w ((W.setCell ⟨w.heap.size + 1 + 1 + 1, 0, none⟩ (.int .i64 0)).setCell ⟨w.heap.size + 1 + 1 + 1 + 1, 0, none⟩ (.int .i64 2)) := (hb.setCell (p := ⟨w.heap.size + 1 + 1 + 1, 0, none⟩) (by show w.heap.size ≤ w.heap.size + 1 + 1 + 1; omega) _).setCell (p := ⟨w.heap.size + 1 + 1 + 1 + 1, 0, none⟩) (by show w.heap.size ≤ w.heap.size + 1 + 1 + 1 + 1; omega) _
       have hK9 := (keeps2 W ⟨w.heap.size + 1 + 1 + 1, 0, none⟩ ⟨w.heap.size + 1 + 1 + 1 + 1, 0, none⟩ (.int .i64 0) (.int .i64 2)).same D _ hK rfl
       generalize (W.setCell ⟨w.heap.size + 1 + 1 + 1, 0, none⟩ (.int .i64 0)).setCell ⟨w.heap.size + 1 + 1 + 1 + 1, 0, none⟩ (.int .i64 2) = W9 at *
       refine ⟨by simp, .inl ⟨_, _, rfl, run_takeDeferred hK9, ?_⟩⟩
       have u0 := cell_kept s0 (grownBy_putObj' _ D (.deferred none)) (fun r e => by cases e; exact ⟨_, hK9, rfl⟩)
       have u1 := cell_kept s1 (grownBy_putObj' _ D (.deferred none)) (fun r e => by cases e; exact ⟨_, hK9, rfl⟩)
       exact ⟨.tuple #[.int .i64 0, .int .i64 2], by simp [results, Tryz.results109, go_sem, u0, u1], by rw [HN.out], hB10.trans (belowK_b (w := w9) hB9.size W9 D _ _ hD hK9 rfl rfl)⟩
      case stop =>
       rintro D c pre W hD ⟨k, hk, rfl⟩ ⟨⟨rfl, ini, last, ⟨e1, e2, e3⟩, s0, s1⟩, hb⟩ hK
       have HN := Lib.hid (HRS.out _ (find_someS hk e1 e2 e3))
       clear e1
       rw [← HN.out] at s0 s1
       gi_wp2
       refine ⟨by simp, .inl ⟨_, _, rfl, run_takeDeferred hK, ?_⟩⟩
       have u0 := cell_kept s0 (grownBy_putObj' _ D (.deferred none)) (fun r e => by cases e; exact ⟨_, hK, rfl⟩)
       have u1 := cell_kept s1 (grownBy_putObj' _ D (.deferred none)) (fun r e => by cases e; exact ⟨_, hK, rfl⟩)
       exact ⟨.tuple #[.int .i64 R.1, .int .i64 R.2], by simp [results, Tryz.results109, go_sem, u0, u1], rfl, hb.trans (belowK_b (w := w9) hB9.size W D _ _ hD hK rfl rfl)⟩
end Go.Proofs.YtdpbhjaicgkblaaGreatDoor

/- Joined by merge.py: ZoneW2. -/
import Derived.Test.YtdpbhjaicgkblaaGreatDoorGZa
import Derived.Test.YtdpbhjaicgkblaaGreatDoorGRange
import Derived.Test.YtdpbhjaicgkblaaGreatDoorGZoneP
/- zone.happenings: the happenings of the tail in some years. -/
namespace Go.Proofs.YtdpbhjaicgkblaaGreatDoor
set_option linter.unusedSimpArgs false
set_option linter.unusedVariables false
open Go.ChangeShapes Go.WideShapes Go.ChangeAt Go.RowKit
theorem infoT : (Tryz.prog.info? 68).map (fun i => (i.zero, i.size, i.bytes)) = some (some (.agg #[.int .i64 0, .int .i64 0, .int .i64 0, .string ⟨#[]⟩]), 4, 40) := by kernel_rfl
theorem alloc_cells (w : World) (cs : List Value) (T : TypeId) : ∀ i u, cs[i]? = some u → (w.alloc (.cells cs.toArray T)).cell? ⟨w.heap.size, i, none⟩ = some u := fun i u h => by
 simp only [World.cell?, heap_alloc_new]
 simp [h]
theorem alloc_below' (w : World) (o : Obj) : Below w.heap.size w (w.alloc o) := (Below.refl _ _).alloc (Nat.le_refl _) _
def Zn.hapL (z : Zn) (a b : Int) : List Trn := if z.tail = [] ∨ b < a then [] else (z.happ z.lastT.sv (evT z.tail a (b - a + 1).toNat)).map Prod.snd
structure HapPre (z : Zn) (a b : Int) : Prop where
 a1 : 1 ≤ a
 b9 : b ≤ 9999
 n : b - a ≤ 20
 l : z.tail.length ≤ 12
 v : allV z.tail = true
 far : ∀ y, a ≤ y → FarT z.tail y
 o1 : -57600 ≤ z.off
 o2 : z.off ≤ 57600
 s1 : -10800 ≤ z.lastT.sv
 s2 : z.lastT.sv ≤ 10800
theorem evY_srt {z : Zn} {a b : Int} (h : HapPre z a b) (n : Nat) : srt (evY z.tail a n) = (evT z.tail a n).map Prod.snd := by
 rw [← evT_evY]
 refine srt_far ?_
 rw [List.pairwise_map]
 exact (evT_far h.far n).imp fun h => h.2
theorem pre_rule {z : Zn} {a b : Int} (h : HapPre z a b) {r : Rule} (hr : r ∈ z.tail) : -10800 ≤ r.sv ∧ r.sv ≤ 10800 := by
 have := Rule.valid_ok ((List.all_eq_true.1 h.v) r hr)
 exact ⟨this.sv0, this.sv1⟩
theorem aft_pre {z : Zn} {a b : Int} (h : HapPre z a b) : ∀ {s : Int} {xs : List (Int × Int × Int)}, (-10800 ≤ s ∧ s ≤ 10800) → (∀ x ∈ xs, x.2 ∈ yearF z.tail x.1) → -10800 ≤ z.aft s xs ∧ z.aft s xs ≤ 10800
 | s, [], hs, _ => hs
 | s, x :: xs, hs, hx => by
  rw [Zn.aft]
  have hr := rule_mem (hx x List.mem_cons_self)
  have hxs : ∀ x ∈ xs, x.2 ∈ yearF z.tail x.1 := fun y hy => hx y (List.mem_cons_of_mem _ hy)
  split
  ·exact aft_pre h hs hxs
  ·exact aft_pre h (pre_rule h hr) hxs
theorem happ_len (z : Zn) : ∀ (s : Int) (xs : List (Int × Int × Int)), (z.happ s xs).length ≤ xs.length
 | _, [] => Nat.le_refl _
 | s, x :: xs => by
  rw [Zn.happ]
  split
  ·have := happ_len z s xs; simp; omega
  ·have := happ_len z (z.rule x.2.2).sv xs; simp; omega
theorem aft_append (z : Zn) : ∀ (s : Int) (xs ys : List (Int × Int × Int)), z.aft s (xs ++ ys) = z.aft (z.aft s xs) ys
 | s, [], ys => rfl
 | s, x :: xs, ys => by
  rw [List.cons_append, Zn.aft, Zn.aft]
  split
  ·exact aft_append z s xs ys
  ·exact aft_append z _ xs ys
theorem happ_out {z : Zn} {s : Int} {xs : List (Int × Int × Int)} {k : Nat} (hk : k < xs.length) (ho : outT ((xs[k]!).2.1 - z.shift (z.aft s (xs.take k)) (z.rule (xs[k]!).2.2)) = true) :
  z.happ s (xs.take (k + 1)) = z.happ s (xs.take k) ∧ z.aft s (xs.take (k + 1)) = z.aft s (xs.take k) := by
 rw [List.take_succ_eq_append_getElem hk, happ_append, aft_append]
 rw [getElem!_pos xs k hk] at ho
 simp only [Zn.happ, Zn.aft]
 have ho2 : outT (z.hap1 (z.aft s (xs.take k)) xs[k]).2.at_ = true := ho
 rw [if_pos ho2, if_pos ho2, List.append_nil]
 exact ⟨rfl, rfl⟩
theorem happ_in {z : Zn} {s : Int} {xs : List (Int × Int × Int)} {k : Nat} (hk : k < xs.length) (ho : outT ((xs[k]!).2.1 - z.shift (z.aft s (xs.take k)) (z.rule (xs[k]!).2.2)) = false) :
  (z.happ s (xs.take (k + 1))).map Prod.snd = (z.happ s (xs.take k)).map Prod.snd ++ [⟨(xs[k]!).2.1 - z.shift (z.aft s (xs.take k)) (z.rule (xs[k]!).2.2), z.tyR (z.rule (xs[k]!).2.2)⟩] ∧ z.aft s (xs.take (k + 1)) = (z.rule (xs[k]!).2.2).sv := by
 rw [List.take_succ_eq_append_getElem hk, happ_append, aft_append]
 rw [getElem!_pos xs k hk] at ho ⊢
 simp only [Zn.happ, Zn.aft]
 have ho2 : ¬ outT (z.hap1 (z.aft s (xs.take k)) xs[k]).2.at_ = true := by
  show ¬ outT (xs[k].2.1 - _) = true
  rw [ho]; decide
 rw [if_neg ho2, if_neg ho2]
 exact ⟨by simp [Zn.hap1], rfl⟩
theorem typeSave (x y : Int) (s : ByteArray) (w : World) : (Instr.field 61 (.agg #[.int .i64 x, .int .i64 y, .string s]) 1).run Tryz.prog w = .ok (.int .i64 y) w := by kernel_rfl
def HapEnd (z : Zn) (a b : Int) (w : World) (e : Ending) (w' : World) : Prop := ∃ v, e = .returned v ∧ Rd Trn.cells 4 w' v (z.hapL a b) ∧ Below w.heap.size w w'
set_option maxRecDepth 100000 in
set_option maxHeartbeats 4000000 in
theorem happenings_main (z : Zn) (vT vR : Value) (a b : Int) (w : World) (hm : HasMax w) (hl : z.table.length ≤ 1000000) (hT : Rd Trn.cells 4 w vT z.table) (hR : Rd Rule.cells 11 w vR z.tail) (hfs : z.form.size < 4294967281) (hn : z.tail ≠ []) (hab : a ≤ b) (hp : HapPre z a b) :
  Calls Tryz.prog 118 #[z.v vT vR, .int .i64 a, .int .i64 b] w (HapEnd z a b w) := by
 have o1 := hp.o1
 have o2 := hp.o2
 have hlen : z.tail.length ≤ 12 := hp.l
 have hpos : 0 < z.tail.length := List.length_pos_iff.2 hn
 have hres : z.hapL a b = (z.happ z.lastT.sv (evT z.tail a (b - a + 1).toNat)).map Prod.snd := by unfold Zn.hapL; rw [if_neg (by intro h; rcases h with h | h; exact hn h; omega)]
 have hmul : z.tail.length * (b - a + 1).toNat ≤ 1000 := Nat.le_trans (Nat.mul_le_mul hp.l (show (b - a + 1).toNat ≤ 21 by have := hp.n; omega)) (by decide)
 have hXl : (evT z.tail a (b - a + 1).toNat).length ≤ 1000 := by
  have h1 := evY_len z.tail a (b - a + 1).toNat
  rw [← evT_evY, List.length_map] at h1
  rw [Nat.mul_comm] at h1
  omega
 have hrF : rangeF z.tail a b = ((evT z.tail a (b - a + 1).toNat).map Prod.snd, 0) := by
  unfold rangeF
  have h1 := hp.a1
  have h2 := hp.b9
  rw [if_neg (by simp [hp.v]), if_neg (by omega), evY_srt hp]
 have HG := Lib.hid (fun v W h => Range_any z.tail a b v W (by omega) h (fun _ _ => hmul))
 unfold RangeOut at HG
 rw [hrF] at HG
 dsimp only at HG
 unfold HapEnd
 rw [hres]
 have hXin : ∀ x ∈ evT z.tail a (b - a + 1).toNat, x.2 ∈ yearF z.tail x.1 := evT_in
 have hs0 : -10800 ≤ z.lastT.sv ∧ z.lastT.sv ≤ 10800 := ⟨hp.s1, hp.s2⟩
 have HAft := Lib.hid (fun k => aft_pre hp (xs := (evT z.tail a (b - a + 1).toNat).take k) hs0 (fun x hx => hXin x (List.mem_of_mem_take hx)))
 have HRule := Lib.hid (fun (k : Nat) (hk : k < (evT z.tail a (b - a + 1).toNat).length) => mem_yearI.1 (hXin (evT z.tail a (b - a + 1).toNat)[k]! (by rw [getElem!_pos _ k hk]; exact List.getElem_mem hk)))
 have HSv := Lib.hid (fun r (hr : r ∈ z.tail) => pre_rule hp hr)
 have HLa := Lib.hid (fun W h => last_any z vT vR W hl h)
 generalize evT z.tail a (b - a + 1).toNat = X at *
 have HTT := Lib.hid hT
 have HRR := Lib.hid hR
 have HM := Lib.hid hm
 obtain ⟨g, off, c, rfl, hg, hcr⟩ : ∃ g off c, vR = .slice (some ⟨g, off, none⟩) z.tail.length c ∧ g < w.heap.size ∧ ∀ j, j < z.tail.length → ∀ i u, (Rule.cells z.tail[j]!)[i]? = some u → w.cell? ⟨g, off + j * 11 + i, none⟩ = some u := by
  rcases hR with ⟨h0, _⟩ | ⟨g, off, c, hv', hg, hc⟩
  ·exact absurd h0 hn
  ·exact ⟨g, off, c, hv', hg, hc⟩
 obtain ⟨AT, cT, rfl⟩ : ∃ A c, vT = .slice A z.table.length c := by
  rcases hT with ⟨h0, A, c, h1⟩ | ⟨g, off, c, h1, _⟩
  ·exact ⟨A, c, by rw [h1, h0]; rfl⟩
  ·exact ⟨_, c, h1⟩
 have HC := Lib.hid hcr
 obtain ⟨i0, hi0, hz0, hz1, hz2⟩ := info_parts infoT
 have hzc := alloc_cells w [.string z.nm, .int .i64 z.first.off, .int .i64 z.first.sv, .string z.first.nm, .slice AT z.table.length cT, .slice (some ⟨g, off, none⟩) z.tail.length c, .int .i64 z.off, .string z.form, .int .i64 z.year] 65
 have hbz : Below w.heap.size w (w.alloc (.cells #[.string z.nm, .int .i64 z.first.off, .int .i64 z.first.sv, .string z.first.nm, .slice AT z.table.length cT, .slice (some ⟨g, off, none⟩) z.tail.length c, .int .i64 z.off, .string z.form, .int .i64 z.year] 65)) := (Below.refl _ _).alloc (Nat.le_refl _) _
 have hszz : w.heap.size < (w.alloc (.cells #[.string z.nm, .int .i64 z.first.off, .int .i64 z.first.sv, .string z.first.nm, .slice AT z.table.length cT, .slice (some ⟨g, off, none⟩) z.tail.length c, .int .i64 z.off, .string z.form, .int .i64 z.year] 65)).heap.size := by simp
 have HZC := Lib.hid hzc
 have HBZ := Lib.hid hbz
 have hdab : decide (b < a) = false := decide_eq_false (by omega)
 have hne0 : ((z.tail.length : Int) == 0) = false := by simp; omega
 clear hcr hR hT hrF hp hres hXin hs0 hm hmul hzc hbz
 unfold Zn.v at HLa ⊢
 generalize hS0 : z.lastT.sv = s0 at *
 have hfld := typeSave
 go_enter Tryz.func118, Tryz.ntmps118
 go_wp2_with fail
 generalize w.alloc (.cells #[.string z.nm, .int .i64 z.first.off, .int .i64 z.first.sv, .string z.first.nm, .slice AT z.table.length cT, .slice (some ⟨g, off, none⟩) z.tail.length c, .int .i64 z.off, .string z.form, .int .i64 z.year] 65) = wz at *
 refine (HG.out _ _ (HRR.out.on HBZ.out)).mono ?_
 rintro e w7 ⟨v7, rfl, hr7, hb7⟩
 have hB7 : Below w.heap.size w w7 := HBZ.out.trans (hb7.mono (Nat.le_of_lt hszz))
 have R7 := Lib.hid hr7
 obtain ⟨A7, c7, rfl⟩ := rd_vf hr7
 rw [List.length_map] at R7 ⊢
 clear hr7
 have zc0 : w7.cell? ⟨w.heap.size, 0, none⟩ = _ := (hb7.cell (p := ⟨w.heap.size, 0, none⟩) hszz).trans (HZC.out 0 _ rfl)
 have zc1 : w7.cell? ⟨w.heap.size, 1, none⟩ = _ := (hb7.cell (p := ⟨w.heap.size, 1, none⟩) hszz).trans (HZC.out 1 _ rfl)
 have zc2 : w7.cell? ⟨w.heap.size, 2, none⟩ = _ := (hb7.cell (p := ⟨w.heap.size, 2, none⟩) hszz).trans (HZC.out 2 _ rfl)
 have zc3 : w7.cell? ⟨w.heap.size, 3, none⟩ = _ := (hb7.cell (p := ⟨w.heap.size, 3, none⟩) hszz).trans (HZC.out 3 _ rfl)
 have zc4 : w7.cell? ⟨w.heap.size, 4, none⟩ = _ := (hb7.cell (p := ⟨w.heap.size, 4, none⟩) hszz).trans (HZC.out 4 _ rfl)
 have zc5 : w7.cell? ⟨w.heap.size, 5, none⟩ = _ := (hb7.cell (p := ⟨w.heap.size, 5, none⟩) hszz).trans (HZC.out 5 _ rfl)
 have zc6 : w7.cell? ⟨w.heap.size, 6, none⟩ = _ := (hb7.cell (p := ⟨w.heap.size, 6, none⟩) hszz).trans (HZC.out 6 _ rfl)
 have zc7 : w7.cell? ⟨w.heap.size, 7, none⟩ = _ := (hb7.cell (p := ⟨w.heap.size, 7, none⟩) hszz).trans (HZC.out 7 _ rfl)
 have zc8 : w7.cell? ⟨w.heap.size, 8, none⟩ = _ := (hb7.cell (p := ⟨w.heap.size, 8, none⟩) hszz).trans (HZC.out 8 _ rfl)
 have hsz7 : w.heap.size < w7.heap.size := Nat.lt_of_lt_of_le hszz hb7.size
 go_wp2_with (go_at_call 135; refine (HLa.out _ (HTT.out.on hB7)).mono ?_; rintro e w8 ⟨rfl, hb8⟩)
 have hB8 : Below w.heap.size w w8 := hB7.trans (hb8.mono (Nat.le_of_lt hsz7))
 have hsz8 : w.heap.size < w8.heap.size := Nat.lt_of_lt_of_le hsz7 hb8.size
 have yc5 : w8.cell? ⟨w.heap.size, 5, none⟩ = _ := (hb8.cell (p := ⟨w.heap.size, 5, none⟩) hsz7).trans zc5
 have yc6 : w8.cell? ⟨w.heap.size, 6, none⟩ = _ := (hb8.cell (p := ⟨w.heap.size, 6, none⟩) hsz7).trans zc6
 have yc7 : w8.cell? ⟨w.heap.size, 7, none⟩ = _ := (hb8.cell (p := ⟨w.heap.size, 7, none⟩) hsz7).trans zc7
 have R8 := Lib.hid (R7.out.on hb8)
 have YC5 := Lib.hid yc5
 have YC6 := Lib.hid yc6
 have YC7 := Lib.hid yc7
 clear zc0 zc1 zc2 zc3 zc4 zc5 zc6 zc7 zc8 yc5 yc6 yc7 hb7 hb8 hB7 HG HLa HZC R7
 go_loopw [9, 10, 41] (fun v9 v10 i wr => ∃ k : Nat, k ≤ X.length ∧ i = .int .i64 k ∧ v10 = .int .i64 (z.aft s0 (X.take k)) ∧ wr.ownsRow w8.heap.size 68 4 v9 ((z.happ s0 (X.take k)).map Prod.snd).length (((z.happ s0 (X.take k)).map Prod.snd).flatMap Trn.cells) ∧ Below w8.heap.size w8 wr) (fun _ _ i _ => X.length - (intOf i).toNat)
 case atStart => exact ⟨0, Nat.zero_le _, rfl, by simp [Zn.aft], ⟨by simp [Zn.happ], .inl ⟨rfl, by simp [Zn.happ]⟩⟩, Below.refl _ _⟩
 case round =>
  obtain ⟨k, hk, rfl, rfl, hown, hb8w⟩ := hrel
  have hbw : Below w.heap.size w wr := hB8.trans (hb8w.mono hB8.size)
  by_cases hlt : k < X.length
  ·obtain ⟨j, hj, hx, hat⟩ := HRule.out k hlt
   obtain ⟨g7, o7, hA7, hg7, hc7⟩ : ∃ g off, A7 = some ⟨g, off, none⟩ ∧ g < w8.heap.size ∧ ∀ j, j < X.length → ∀ i u, (encE (X[j]!).2)[i]? = some u → w8.cell? ⟨g, off + j * 2 + i, none⟩ = some u := by
    rcases R8.out with ⟨h0, _⟩ | ⟨g, off, c', hv', hg, hc⟩
    ·rw [List.map_eq_nil_iff] at h0; rw [h0] at hlt; simp at hlt
    ·injection hv' with hv1 _ _
     subst hv1
     refine ⟨g, off, rfl, hg, fun j hj i u hu => hc j (by simpa using hj) i u ?_⟩
     rw [getElem!_pos (X.map Prod.snd) j (by simpa using hj), List.getElem_map, ← getElem!_pos X j hj]
     exact hu
   subst hA7
   have e0 : wr.cell? ⟨g7, o7 + k * 2, none⟩ = some (.int .i64 (X[k]!).2.1) := (hb8w.cell (p := ⟨g7, o7 + k * 2, none⟩) hg7).trans (hc7 k hlt 0 _ rfl)
   have e1 : wr.cell? ⟨g7, o7 + k * 2 + 1, none⟩ = some (.int .i64 (X[k]!).2.2) := (hb8w.cell (p := ⟨g7, o7 + k * 2 + 1, none⟩) hg7).trans (hc7 k hlt 1 _ rfl)
   have hx1 : -300000000000 ≤ (X[k]!).2.1 ∧ (X[k]!).2.1 ≤ 300000000000 := by rw [hx]; exact at_bd
   have hx2 : (X[k]!).2.2 = (j : Int) := by rw [hx]
   have hru : z.rule (X[k]!).2.2 = z.tail[j]! := by rw [hx2]; unfold Zn.rule; rw [Int.toNat_natCast]
   have hmem : z.tail[j]! ∈ z.tail := by rw [getElem!_pos z.tail j hj]; exact List.getElem_mem hj
   have hsv := HSv.out _ hmem
   have hsb := HAft.out k
   have hll := happ_len z s0 (X.take k)
   rw [List.length_take] at hll
   have hOut := fun ho => happ_out (z := z) (s := s0) hlt ho
   have hIn := fun ho => happ_in (z := z) (s := s0) hlt ho
   rw [hru] at hOut hIn
   rw [hx2] at e1
   generalize z.aft s0 (X.take k) = s at *
   have hcell : ∀ i u, (Rule.cells z.tail[j]!)[i]? = some u → wr.cell? ⟨g, off + j * 11 + i, none⟩ = some u := fun i u hu => (hbw.cell (p := ⟨g, off + j * 11 + i, none⟩) hg).trans (HC.out j hj i u hu)
   generalize hrr : z.tail[j]! = r at *
   have r0 : wr.cell? ⟨g, off + j * 11, none⟩ = _ := hcell 0 _ rfl
   have r1 := hcell 1 _ rfl
   have r2 := hcell 2 _ rfl
   have r3 := hcell 3 _ rfl
   have r4 := hcell 4 _ rfl
   have r5 := hcell 5 _ rfl
   have r6 := hcell 6 _ rfl
   have r7 := hcell 7 _ rfl
   have r8 := hcell 8 _ rfl
   have r9 := hcell 9 _ rfl
   have r10 := hcell 10 _ rfl
   have yc5 : wr.cell? ⟨w.heap.size, 5, none⟩ = _ := (hb8w.cell (p := ⟨w.heap.size, 5, none⟩) hsz8).trans YC5.out
   have yc6 : wr.cell? ⟨w.heap.size, 6, none⟩ = _ := (hb8w.cell (p := ⟨w.heap.size, 6, none⟩) hsz8).trans YC6.out
   have yc7 : wr.cell? ⟨w.heap.size, 7, none⟩ = _ := (hb8w.cell (p := ⟨w.heap.size, 7, none⟩) hsz8).trans YC7.out
   generalize hL : (z.happ s0 (X.take k)).map Prod.snd = L at *
   have hLl : L.length ≤ k := by rw [← hL, List.length_map]; omega
   have HL := Lib.hid hL
   have hszw := hb8w.size
   have hszr : w.heap.size < wr.heap.size := Nat.lt_of_lt_of_le hsz8 hszw
   have hszr2 : w.heap.size < wr.heap.size + 1 + 1 := by omega
   have hszr3 : w.heap.size < wr.heap.size + 1 := by omega
   have hgr : g < wr.heap.size := Nat.lt_of_lt_of_le hg hbw.size
   generalize hxx : (X[k]!).2.1 = x1 at *
   have HOWN := Lib.hid hown
   have HF := Lib.hid (fun W h => Format_any z.form r.lt r.sv W h hfs)
   clear hcell hrr hru hx hx2 hat hmem hc7 hown hL hxx hll
   have hj1 : (0 : Int) ≤ (j : Int) := by omega
   have hj2 : (j : Int) < (z.tail.length : Int) := by omega
   have hcl : (r.cl = 2 ∧ z.shift s r = z.off) ∨ (r.cl = 1 ∧ z.shift s r = z.off + s) ∨ (r.cl ≠ 1 ∧ r.cl ≠ 2 ∧ z.shift s r = 0) := by
    unfold Zn.shift
    by_cases h2 : r.cl = 2
    ·exact .inl ⟨h2, if_pos h2⟩
    ·by_cases h1 : r.cl = 1
     ·exact .inr (.inl ⟨h1, by rw [if_neg h2, if_pos h1]⟩)
     ·exact .inr (.inr ⟨h1, h2, by rw [if_neg h2, if_neg h1]⟩)
   rcases hcl with ⟨h2, hsh⟩ | ⟨h1, hsh⟩ | ⟨h1, h2, hsh⟩
   ·rw [hsh] at hOut hIn
    have b2 : (r.cl == 2) = true := by simpa using h2
    obtain ⟨D, hD⟩ : ∃ D, x1 - z.off = D := ⟨_, rfl⟩
    rw [hD] at hOut hIn
    have hDb : -400000000000 ≤ D ∧ D ≤ 400000000000 := by omega
    have hw : IntKind.i64.wrap (x1 - z.off) = D := by rw [IntKind.wrap_i64]; omega
    clear hsh h2
    by_cases ho1 : D < -62135596800
    ·have hO := hOut (decide_eq_true (.inl ho1))
     have HO1 := Lib.hid hO.1
     have HO2 := Lib.hid hO.2
     clear hOut hIn hO
     go_wp2
     have hq0 : Below wr.heap.size wr ((wr.alloc (.cells #[.int .i64 x1, .int .i64 j] 206)).alloc (.cells (Rule.cells r).toArray 74)) := ((Below.refl _ _).alloc (Nat.le_refl _) _).alloc (by simp) _
     have HO0 := Lib.hid (own_on HOWN.out hq0)
     have hq2 : Below w8.heap.size w8 ((wr.alloc (.cells #[.int .i64 x1, .int .i64 j] 206)).alloc (.cells (Rule.cells r).toArray 74)) := hb8w.trans (hq0.mono hb8w.size)
     go_roundw
     case rel => exact ⟨k + 1, by omega, by go_num, by rw [HO2.out], by rw [HO1.out, HL.out]; exact HO0.out, hq2⟩
     case measure => simp [intOf]; omega
    by_cases ho2 : 253402300800 ≤ D
    ·have hO := hOut (decide_eq_true (.inr ho2))
     have HO1 := Lib.hid hO.1
     have HO2 := Lib.hid hO.2
     clear hOut hIn hO
     go_wp2
     have hq0 : Below wr.heap.size wr ((wr.alloc (.cells #[.int .i64 x1, .int .i64 j] 206)).alloc (.cells (Rule.cells r).toArray 74)) := ((Below.refl _ _).alloc (Nat.le_refl _) _).alloc (by simp) _
     have HO0 := Lib.hid (own_on HOWN.out hq0)
     have hq2 : Below w8.heap.size w8 ((wr.alloc (.cells #[.int .i64 x1, .int .i64 j] 206)).alloc (.cells (Rule.cells r).toArray 74)) := hb8w.trans (hq0.mono hb8w.size)
     go_roundw
     case rel => exact ⟨k + 1, by omega, by go_num, by rw [HO2.out], by rw [HO1.out, HL.out]; exact HO0.out, hq2⟩
     case measure => simp [intOf]; omega
    ·have hI := hIn (decide_eq_false (by omega))
     have HI1 := Lib.hid hI.1
     have HI2 := Lib.hid hI.2
     clear hOut hIn hI
     have hq0 : Below wr.heap.size wr ((wr.alloc (.cells #[.int .i64 x1, .int .i64 j] 206)).alloc (.cells (Rule.cells r).toArray 74)) := ((Below.refl _ _).alloc (Nat.le_refl _) _).alloc (by simp) _
     have HO0 := Lib.hid (own_on HOWN.out hq0)
     have hq2 : Below w8.heap.size w8 ((wr.alloc (.cells #[.int .i64 x1, .int .i64 j] 206)).alloc (.cells (Rule.cells r).toArray 74)) := hb8w.trans (hq0.mono hb8w.size)
     have hy9 := alloc_cells (wr.alloc (.cells #[.int .i64 x1, .int .i64 j] 206)) (Rule.cells r) 74 9 _ rfl
     rw [World.size_alloc] at hy9
     have HY9 := Lib.hid hy9
     clear hy9
     have yne : some (wr.heap.size + 1) ≠ u9.ownBlock := fun e => by have := (HOWN.out.lt _ e.symm).2; omega
     have HM2 := Lib.hid (HM.out.on (hB8.trans (hq2.mono hB8.size)))
     go_wp2_with (first
      | (go_at_call 115; refine (HF.out _ HM2.out).mono ?_; rintro e w9 ⟨rfl, hb9⟩; have hz9 : wr.heap.size + 2 ≤ w9.heap.size := (by have := hb9.size; simp at this; omega); have HO9 := Lib.hid (own_on HO0.out hb9); have y9 : w9.cell? ⟨wr.heap.size + 1, 9, none⟩ = some (.int .i64 r.sv) := (hb9.cell (p := ⟨wr.heap.size + 1, 9, none⟩) (by simp)).trans HY9.out; have y6 : w9.cell? ⟨w.heap.size, 6, none⟩ = some (.int .i64 z.off) := (hb9.cell (p := ⟨w.heap.size, 6, none⟩) (by simp; omega)).trans ((hq0.cell (p := ⟨w.heap.size, 6, none⟩) hszr).trans yc6))
      | (at_builtin; refine wpList_append_own _ rfl (.tmp 85) (.tmp 97) _ rfl w8.heap.size 68 i0 _ 4 40 Tryz.underlying62 hi0 hz0 hz1 hz2 rfl (by decide) _ _ _ rfl (HO9.out.alloc _) ⟨w9.heap.size, 0, none⟩ 1 1 (Trn.cells ⟨D, z.tyR r⟩) rfl rfl (new_row w9 _ _) (trn_one _) (by simp only [maxLen]; omega) (by omega) (by have := hq2.size; have := hb9.size; simp at this ⊢; omega) ?_; intro v' w2 hown2 hg2 _; have y9b : w2.cell? ⟨wr.heap.size + 1, 9, none⟩ = some (.int .i64 r.sv) := hg2.cell (Lib.cell?_alloc_some _ y9) yne))
     have hB9 : Below w8.heap.size w8 (w9.alloc (.cells (Trn.cells ⟨D, z.tyR r⟩).toArray 68)) := (hq2.trans (hb9.mono hq2.size)).alloc (by have := hq2.size; have := hb9.size; omega) _
     have hB10 := below_app HO9.out (Nat.le_refl _) hB9 hg2
     go_roundw
     case rel => exact ⟨k + 1, by omega, by go_num, by rw [HI2.out], by rw [HI1.out]; exact own_snoc hown2, hB10⟩
     case measure => simp [intOf]; omega
   ·rw [hsh] at hOut hIn
    have b1 : (r.cl == 1) = true := by simpa using h1
    have b2 : (r.cl == 2) = false := by simp; omega
    obtain ⟨D, hD⟩ : ∃ D, x1 - (z.off + s) = D := ⟨_, rfl⟩
    rw [hD] at hOut hIn
    have hDb : -400000000000 ≤ D ∧ D ≤ 400000000000 := by omega
    have hw : IntKind.i64.wrap (x1 - (z.off + s)) = D := by rw [IntKind.wrap_i64]; omega
    clear hsh h1
    by_cases ho1 : D < -62135596800
    ·have hO := hOut (decide_eq_true (.inl ho1))
     have HO1 := Lib.hid hO.1
     have HO2 := Lib.hid hO.2
     clear hOut hIn hO
     go_wp2
     have hq0 : Below wr.heap.size wr ((wr.alloc (.cells #[.int .i64 x1, .int .i64 j] 206)).alloc (.cells (Rule.cells r).toArray 74)) := ((Below.refl _ _).alloc (Nat.le_refl _) _).alloc (by simp) _
     have HO0 := Lib.hid (own_on HOWN.out hq0)
     have hq2 : Below w8.heap.size w8 ((wr.alloc (.cells #[.int .i64 x1, .int .i64 j] 206)).alloc (.cells (Rule.cells r).toArray 74)) := hb8w.trans (hq0.mono hb8w.size)
     go_roundw
     case rel => exact ⟨k + 1, by omega, by go_num, by rw [HO2.out], by rw [HO1.out, HL.out]; exact HO0.out, hq2⟩
     case measure => simp [intOf]; omega
    by_cases ho2 : 253402300800 ≤ D
    ·have hO := hOut (decide_eq_true (.inr ho2))
     have HO1 := Lib.hid hO.1
     have HO2 := Lib.hid hO.2
     clear hOut hIn hO
     go_wp2
     have hq0 : Below wr.heap.size wr ((wr.alloc (.cells #[.int .i64 x1, .int .i64 j] 206)).alloc (.cells (Rule.cells r).toArray 74)) := ((Below.refl _ _).alloc (Nat.le_refl _) _).alloc (by simp) _
     have HO0 := Lib.hid (own_on HOWN.out hq0)
     have hq2 : Below w8.heap.size w8 ((wr.alloc (.cells #[.int .i64 x1, .int .i64 j] 206)).alloc (.cells (Rule.cells r).toArray 74)) := hb8w.trans (hq0.mono hb8w.size)
     go_roundw
     case rel => exact ⟨k + 1, by omega, by go_num, by rw [HO2.out], by rw [HO1.out, HL.out]; exact HO0.out, hq2⟩
     case measure => simp [intOf]; omega
    ·have hI := hIn (decide_eq_false (by omega))
     have HI1 := Lib.hid hI.1
     have HI2 := Lib.hid hI.2
     clear hOut hIn hI
     have hq0 : Below wr.heap.size wr ((wr.alloc (.cells #[.int .i64 x1, .int .i64 j] 206)).alloc (.cells (Rule.cells r).toArray 74)) := ((Below.refl _ _).alloc (Nat.le_refl _) _).alloc (by simp) _
     have HO0 := Lib.hid (own_on HOWN.out hq0)
     have hq2 : Below w8.heap.size w8 ((wr.alloc (.cells #[.int .i64 x1, .int .i64 j] 206)).alloc (.cells (Rule.cells r).toArray 74)) := hb8w.trans (hq0.mono hb8w.size)
     have hy9 := alloc_cells (wr.alloc (.cells #[.int .i64 x1, .int .i64 j] 206)) (Rule.cells r) 74 9 _ rfl
     rw [World.size_alloc] at hy9
     have HY9 := Lib.hid hy9
     clear hy9
     have yne : some (wr.heap.size + 1) ≠ u9.ownBlock := fun e => by have := (HOWN.out.lt _ e.symm).2; omega
     have HM2 := Lib.hid (HM.out.on (hB8.trans (hq2.mono hB8.size)))
     go_wp2_with (first
      | (go_at_call 115; refine (HF.out _ HM2.out).mono ?_; rintro e w9 ⟨rfl, hb9⟩; have hz9 : wr.heap.size + 2 ≤ w9.heap.size := (by have := hb9.size; simp at this; omega); have HO9 := Lib.hid (own_on HO0.out hb9); have y9 : w9.cell? ⟨wr.heap.size + 1, 9, none⟩ = some (.int .i64 r.sv) := (hb9.cell (p := ⟨wr.heap.size + 1, 9, none⟩) (by simp)).trans HY9.out; have y6 : w9.cell? ⟨w.heap.size, 6, none⟩ = some (.int .i64 z.off) := (hb9.cell (p := ⟨w.heap.size, 6, none⟩) (by simp; omega)).trans ((hq0.cell (p := ⟨w.heap.size, 6, none⟩) hszr).trans yc6))
      | (at_builtin; refine wpList_append_own _ rfl (.tmp 85) (.tmp 97) _ rfl w8.heap.size 68 i0 _ 4 40 Tryz.underlying62 hi0 hz0 hz1 hz2 rfl (by decide) _ _ _ rfl (HO9.out.alloc _) ⟨w9.heap.size, 0, none⟩ 1 1 (Trn.cells ⟨D, z.tyR r⟩) rfl rfl (new_row w9 _ _) (trn_one _) (by simp only [maxLen]; omega) (by omega) (by have := hq2.size; have := hb9.size; simp at this ⊢; omega) ?_; intro v' w2 hown2 hg2 _; have y9b : w2.cell? ⟨wr.heap.size + 1, 9, none⟩ = some (.int .i64 r.sv) := hg2.cell (Lib.cell?_alloc_some _ y9) yne))
     have hB9 : Below w8.heap.size w8 (w9.alloc (.cells (Trn.cells ⟨D, z.tyR r⟩).toArray 68)) := (hq2.trans (hb9.mono hq2.size)).alloc (by have := hq2.size; have := hb9.size; omega) _
     have hB10 := below_app HO9.out (Nat.le_refl _) hB9 hg2
     go_roundw
     case rel => exact ⟨k + 1, by omega, by go_num, by rw [HI2.out], by rw [HI1.out]; exact own_snoc hown2, hB10⟩
     case measure => simp [intOf]; omega
   ·rw [hsh, Int.sub_zero] at hOut hIn
    have b1 : (r.cl == 1) = false := by simpa using h1
    have b2 : (r.cl == 2) = false := by simpa using h2
    clear hsh h1 h2
    by_cases ho1 : x1 < -62135596800
    ·have hO := hOut (decide_eq_true (.inl ho1))
     have HO1 := Lib.hid hO.1
     have HO2 := Lib.hid hO.2
     clear hOut hIn hO
     go_wp2
     have hq0 : Below wr.heap.size wr ((wr.alloc (.cells #[.int .i64 x1, .int .i64 j] 206)).alloc (.cells (Rule.cells r).toArray 74)) := ((Below.refl _ _).alloc (Nat.le_refl _) _).alloc (by simp) _
     have HO0 := Lib.hid (own_on HOWN.out hq0)
     have hq2 : Below w8.heap.size w8 ((wr.alloc (.cells #[.int .i64 x1, .int .i64 j] 206)).alloc (.cells (Rule.cells r).toArray 74)) := hb8w.trans (hq0.mono hb8w.size)
     go_roundw
     case rel => exact ⟨k + 1, by omega, by go_num, by rw [HO2.out], by rw [HO1.out, HL.out]; exact HO0.out, hq2⟩
     case measure => simp [intOf]; omega
    by_cases ho2 : 253402300800 ≤ x1
    ·have hO := hOut (decide_eq_true (.inr ho2))
     have HO1 := Lib.hid hO.1
     have HO2 := Lib.hid hO.2
     clear hOut hIn hO
     go_wp2
     have hq0 : Below wr.heap.size wr ((wr.alloc (.cells #[.int .i64 x1, .int .i64 j] 206)).alloc (.cells (Rule.cells r).toArray 74)) := ((Below.refl _ _).alloc (Nat.le_refl _) _).alloc (by simp) _
     have HO0 := Lib.hid (own_on HOWN.out hq0)
     have hq2 : Below w8.heap.size w8 ((wr.alloc (.cells #[.int .i64 x1, .int .i64 j] 206)).alloc (.cells (Rule.cells r).toArray 74)) := hb8w.trans (hq0.mono hb8w.size)
     go_roundw
     case rel => exact ⟨k + 1, by omega, by go_num, by rw [HO2.out], by rw [HO1.out, HL.out]; exact HO0.out, hq2⟩
     case measure => simp [intOf]; omega
    ·have hI := hIn (decide_eq_false (by omega))
     have HI1 := Lib.hid hI.1
     have HI2 := Lib.hid hI.2
     clear hOut hIn hI
     have hq0 : Below wr.heap.size wr ((wr.alloc (.cells #[.int .i64 x1, .int .i64 j] 206)).alloc (.cells (Rule.cells r).toArray 74)) := ((Below.refl _ _).alloc (Nat.le_refl _) _).alloc (by simp) _
     have HO0 := Lib.hid (own_on HOWN.out hq0)
     have hq2 : Below w8.heap.size w8 ((wr.alloc (.cells #[.int .i64 x1, .int .i64 j] 206)).alloc (.cells (Rule.cells r).toArray 74)) := hb8w.trans (hq0.mono hb8w.size)
     have hy9 := alloc_cells (wr.alloc (.cells #[.int .i64 x1, .int .i64 j] 206)) (Rule.cells r) 74 9 _ rfl
     rw [World.size_alloc] at hy9
     have HY9 := Lib.hid hy9
     clear hy9
     have yne : some (wr.heap.size + 1) ≠ u9.ownBlock := fun e => by have := (HOWN.out.lt _ e.symm).2; omega
     have HM2 := Lib.hid (HM.out.on (hB8.trans (hq2.mono hB8.size)))
     go_wp2_with (first
      | (go_at_call 115; refine (HF.out _ HM2.out).mono ?_; rintro e w9 ⟨rfl, hb9⟩; have hz9 : wr.heap.size + 2 ≤ w9.heap.size := (by have := hb9.size; simp at this; omega); have HO9 := Lib.hid (own_on HO0.out hb9); have y9 : w9.cell? ⟨wr.heap.size + 1, 9, none⟩ = some (.int .i64 r.sv) := (hb9.cell (p := ⟨wr.heap.size + 1, 9, none⟩) (by simp)).trans HY9.out; have y6 : w9.cell? ⟨w.heap.size, 6, none⟩ = some (.int .i64 z.off) := (hb9.cell (p := ⟨w.heap.size, 6, none⟩) (by simp; omega)).trans ((hq0.cell (p := ⟨w.heap.size, 6, none⟩) hszr).trans yc6))
      | (at_builtin; refine wpList_append_own _ rfl (.tmp 85) (.tmp 97) _ rfl w8.heap.size 68 i0 _ 4 40 Tryz.underlying62 hi0 hz0 hz1 hz2 rfl (by decide) _ _ _ rfl (HO9.out.alloc _) ⟨w9.heap.size, 0, none⟩ 1 1 (Trn.cells ⟨x1, z.tyR r⟩) rfl rfl (new_row w9 _ _) (trn_one _) (by simp only [maxLen]; omega) (by omega) (by have := hq2.size; have := hb9.size; simp at this ⊢; omega) ?_; intro v' w2 hown2 hg2 _; have y9b : w2.cell? ⟨wr.heap.size + 1, 9, none⟩ = some (.int .i64 r.sv) := hg2.cell (Lib.cell?_alloc_some _ y9) yne))
     have hB9 : Below w8.heap.size w8 (w9.alloc (.cells (Trn.cells ⟨x1, z.tyR r⟩).toArray 68)) := (hq2.trans (hb9.mono hq2.size)).alloc (by have := hq2.size; have := hb9.size; omega) _
     have hB10 := below_app HO9.out (Nat.le_refl _) hB9 hg2
     go_roundw
     case rel => exact ⟨k + 1, by omega, by go_num, by rw [HI2.out], by rw [HI1.out]; exact own_snoc hown2, hB10⟩
     case measure => simp [intOf]; omega
  ·have hk' : k = X.length := by omega
   subst hk'
   rw [List.take_length] at hown
   go_wp2
   go_ret
   exact ⟨_, rfl, rd_of_own trn_len hown rfl, hbw⟩
set_option maxRecDepth 100000 in
set_option maxHeartbeats 1000000 in
theorem happenings_none (z : Zn) (vT vR : Value) (a b : Int) (w : World) (hl : z.tail.length ≤ 1000000) (hT : Rd Trn.cells 4 w vT z.table) (hR : Rd Rule.cells 11 w vR z.tail) (h : z.tail = [] ∨ b < a) :
  Calls Tryz.prog 118 #[z.v vT vR, .int .i64 a, .int .i64 b] w (HapEnd z a b w) := by
 have hres : z.hapL a b = [] := if_pos h
 unfold HapEnd
 rw [hres]
 obtain ⟨AR, cR, rfl⟩ := rd_vf hR
 clear hT hR hres
 unfold Zn.v
 by_cases h0 : z.tail = []
 ·rw [h0] at *
  clear h hl
  rw [List.length_nil]
  go_enter Tryz.func118, Tryz.ntmps118
  go_wp2
  go_ret
  exact ⟨_, rfl, .inl ⟨rfl, _, _, rfl⟩, (Below.refl _ _).alloc (Nat.le_refl _) _⟩
 ·have hab : b < a := h.resolve_left h0
  have hne0 : ((z.tail.length : Int) == 0) = false := by
   have : 0 < z.tail.length := List.length_pos_iff.2 h0
   simp; omega
  clear h h0
  go_enter Tryz.func118, Tryz.ntmps118
  go_wp2
  go_ret
  exact ⟨_, rfl, .inl ⟨rfl, _, _, rfl⟩, (Below.refl _ _).alloc (Nat.le_refl _) _⟩
theorem happenings_any (z : Zn) (vT vR : Value) (a b : Int) (w : World) (hm : HasMax w) (hl : z.table.length ≤ 1000000) (hT : Rd Trn.cells 4 w vT z.table) (hR : Rd Rule.cells 11 w vR z.tail) (hfs : z.form.size < 4294967281) (hll : z.tail.length ≤ 12) (hp : z.tail ≠ [] → a ≤ b → HapPre z a b) :
  Calls Tryz.prog 118 #[z.v vT vR, .int .i64 a, .int .i64 b] w (HapEnd z a b w) := by
 by_cases h : z.tail = [] ∨ b < a
 ·exact happenings_none z vT vR a b w (by omega) hT hR h
 ·have h0 : z.tail ≠ [] := fun e => h (.inl e)
  have hab : a ≤ b := Int.not_lt.1 fun e => h (.inr e)
  exact happenings_main z vT vR a b w hm hl hT hR hfs h0 hab (hp h0 hab)
end Go.Proofs.YtdpbhjaicgkblaaGreatDoor

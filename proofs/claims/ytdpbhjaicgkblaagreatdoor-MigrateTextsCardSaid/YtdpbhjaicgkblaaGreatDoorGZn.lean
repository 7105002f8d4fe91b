/- Joined by merge.py: Blk, ZoneP5, ZoneW12, ZoneU, ZoneW13, ZoneW14. -/
import Derived.Test.YtdpbhjaicgkblaaGreatDoorGBase
import Derived.RangeFuncNested
import Derived.RangeFuncBound
import Derived.RangeFuncBox
import Derived.Test.YtdpbhjaicgkblaaGreatDoorGZc
import Derived.Test.YtdpbhjaicgkblaaGreatDoorGZa
import Derived.RangeFuncCalls
import Derived.RangeFuncLeaves
import Derived.Shelf.Abstract
import Derived.Shelf.RegionOpen
import Derived.WalkKit
import Derived.OwnWalkIn
import Derived.TacticsInMore
import Derived.LoopNIn
import Derived.LoopIn
import Derived.Outline
import Derived.Test.YtdpbhjaicgkblaaGreatDoorGZh
/- Blocks known whole, and what ranges over functions want of them. -/
namespace Go.Proofs.YtdpbhjaicgkblaaGreatDoor
set_option linter.unusedSimpArgs false
set_option linter.unusedVariables false
open Go.RowKit
def Blk (W : World) (B : Nat) (cs : Array Value) (T : TypeId) : Prop := W.heap[B]? = some (.cells cs T (0, 0))
theorem Blk.lt {W : World} {B : Nat} {cs : Array Value} {T : TypeId} (h : Blk W B cs T) : B < W.heap.size := (Array.getElem?_eq_some_iff.1 h).1
theorem Blk.cell {W : World} {B : Nat} {cs : Array Value} {T : TypeId} (h : Blk W B cs T) (i : Nat) {v : Value} (hv : cs[i]? = some v) : W.cell? ⟨B, i, none⟩ = some v := by
 simp [World.cell?, show W.heap[B]? = _ from h, hv]
theorem Blk.frozen {W : World} {B : Nat} {cs : Array Value} {T : TypeId} (h : Blk W B cs T) (i : Nat) : W.frozen? ⟨B, i, none⟩ = false := by simp [World.frozen?, show W.heap[B]? = _ from h]
theorem Blk.new (W : World) (cs : Array Value) (T : TypeId) : Blk (W.alloc (.cells cs T)) W.heap.size cs T := World.alloc_heap_new W _
theorem Blk.kept {W W' : World} {row : Option Nat} {B : Nat} {cs : Array Value} {T : TypeId} (h : Blk W B cs T) (hg : W.grownBy W' row) (hne : some B ≠ row) : Blk W' B cs T := (hg.block B h.lt hne).trans h
theorem Blk.alloc {W : World} {B : Nat} {cs : Array Value} {T : TypeId} (h : Blk W B cs T) (o : Obj) : Blk (W.alloc o) B cs T := h.kept (World.grownBy_alloc W o none) (by simp)
theorem Blk.below {W W' : World} {n B : Nat} {cs : Array Value} {T : TypeId} (h : Blk W B cs T) (hb : Below n W W') (hB : B < n) : Blk W' B cs T := (hb.block B hB).trans h
theorem Blk.other {W : World} {B B' i : Nat} {cs : Array Value} {T : TypeId} (h : Blk W B cs T) (hne : B ≠ B') (u : Value) : Blk (W.setCell ⟨B', i, none⟩ u) B cs T := (Below.heap_setCell W ⟨B', i, none⟩ u B hne).trans h
theorem blk_own {β : Type} (B : Nat) (T : TypeId) (f : β → Array Value) : Own (fun s W => Blk W B (f s) T) := fun s X Y row hs hg hrow =>
 hs.kept hg (fun e' => by obtain ⟨o, ho, hc⟩ := hrow B e'.symm; rw [show X.heap[B]? = _ from hs] at ho; cases ho; cases hc)
theorem cell_own {β : Type} (a : Addr) (f : β → Value) : Own (fun s W => W.cell? a = some (f s)) := fun _ _ _ _ hs hg hr => cell_kept hs hg hr
theorem Own.and' {β : Type} {I I' : β → World → Prop} (h : Own I) (h' : Own I') : Own (fun s W => I s W ∧ I' s W) := fun s W W' row hs hg hr => ⟨h s W W' row hs.1 hg hr, h' s W W' row hs.2 hg hr⟩
theorem own_pure' {β : Type} (p : β → Prop) : Own (fun s (_ : World) => p s) := fun _ _ _ _ hs _ _ => hs
theorem own_ex {β γ : Type} {I : γ → β → World → Prop} (h : ∀ c, Own (I c)) : Own (fun s W => ∃ c, I c s W) := fun s W W' row ⟨c, hs⟩ hg hr => ⟨c, h c s W W' row hs hg hr⟩
end Go.Proofs.YtdpbhjaicgkblaaGreatDoor
/- The last transition up to an instant, found in windows of the tail or in the table. No program in sight. -/
namespace Go.Proofs.YtdpbhjaicgkblaaGreatDoor
set_option linter.unusedSimpArgs false
set_option linter.unusedVariables false
open Go.Sort
def upToF (t : Int) (l : List Trn) : Option Trn := l.reverse.find? fun x => decide (x.at_ ≤ t)
def Zn.ahead (z : Zn) (t y : Int) : Prop := ∀ x ∈ z.TT, y + 1 ≤ x.1 → t < x.2.at_
theorem ahead_start {z : Zn} (ok : TailOk z) {t Y : Int} (hY : YearOf t Y) : z.ahead t (min 9999 (Y + 1)) := fun x hx h => by
 have h1 := (TT_bd ok hx).2.1
 exact TT_later ok hY hx (by omega)
theorem tailL_win {z : Zn} (hn : z.tail ≠ []) {f y : Int} (h : max f z.year ≤ min y 9999) : z.tailL f y = (z.winW (max f z.year) (min y 9999)).map Prod.snd := by
 unfold Zn.tailL
 exact if_neg (by rintro (e | e); exact hn e; omega)
theorem tailL_off {z : Zn} {f y : Int} (h : min y 9999 < max f z.year) : z.tailL f y = [] := if_pos (.inr h)
theorem upTo_map {t : Int} {l : List (Int × Trn)} : upToF t (l.map Prod.snd) = (l.reverse.find? fun x => decide (x.2.at_ ≤ t)).map Prod.snd := by
 unfold upToF
 rw [← List.map_reverse, List.find?_map]; rfl
theorem ahead_hit {z : Zn} (ok : TailOk z) {t y : Int} (hy : y ≤ 9999) (hp : z.ahead t y) {x : Trn} (hx : upToF t (z.tailL (y - 8) y) = some x) : (z.prevT t).map Prod.snd = some x := by
 have z2 := ok.y2
 by_cases hw : max (y - 8) z.year ≤ min y 9999
 ·rw [tailL_win ok.ne hw, upTo_map] at hx
  obtain ⟨p, hp2, rfl⟩ := Option.map_eq_some_iff.1 hx
  rw [last_hit ok (by omega) hw (by omega) (fun x hx h => hp x hx (by omega)) hp2]; rfl
 ·rw [tailL_off (by omega)] at hx; cases hx
theorem ahead_step {z : Zn} (ok : TailOk z) {t y : Int} (hy : y ≤ 9999) (hp : z.ahead t y) (hx : upToF t (z.tailL (y - 8) y) = none) : z.ahead t (y - 9) := by
 have z2 := ok.y2
 intro x hm h
 by_cases hw : max (y - 8) z.year ≤ min y 9999
 ·rw [tailL_win ok.ne hw, upTo_map] at hx
  have hx := Option.map_eq_none_iff.1 hx
  have h1 := (TT_bd ok hm).1
  exact last_miss ok (by omega) hw (by omega) (fun x hx h => hp x hx (by omega)) hx x hm (by omega)
 ·have h1 := (TT_bd ok hm).1
  exact hp x hm (by omega)
theorem ahead_end {z : Zn} (ok : TailOk z) {t Y y0 : Int} (hY : YearOf t Y) (hy : y0 = min 9999 (Y + 1)) (hp : z.ahead t (y0 - 27)) : (z.prevT t).map Prod.snd = upToF t (z.tailL z.year (z.year + 9)) := by
 have z1 := ok.y1
 have z2 := ok.y2
 rw [tailL_win ok.ne (by omega), upTo_map, show max z.year z.year = z.year by omega, last_end ok hY hy fun x hx h => hp x hx (by omega)]
theorem prev_count {t : Int} {l : List Trn} (h : l.Pairwise (fun x y => x.at_ < y.at_)) {k : Nat} (hk : l.countP (fun x => !decide (t < x.at_)) = k) : upToF t l = if 0 < k then some l[k - 1]! else none := by
 subst hk
 unfold upToF
 induction l with
 | nil => rfl
 | cons x l ih =>
  obtain ⟨h1, h2⟩ := List.pairwise_cons.1 h
  have ih := ih h2
  rw [List.reverse_cons, List.find?_append, ih, List.countP_cons]
  by_cases hx : t < x.at_
  ·have h0 : l.countP (fun x => !decide (t < x.at_)) = 0 := List.countP_eq_zero.2 fun y hy => by
    have := h1 y hy
    simp; omega
   rw [h0]
   simp [hx]
  ·have e1 : decide (x.at_ ≤ t) = true := decide_eq_true (by omega)
   have e2 : decide (t < x.at_) = false := decide_eq_false hx
   by_cases h0 : 0 < l.countP (fun x => !decide (t < x.at_))
   ·have h3 := List.countP_le_length (p := fun x : Trn => !decide (t < x.at_)) (l := l)
    rw [if_pos h0, e2, if_pos (by simp)]
    generalize l.countP (fun x => !decide (t < x.at_)) = c at *
    obtain ⟨d, rfl⟩ : ∃ d, c = d + 1 := ⟨c - 1, by omega⟩
    rw [getElem!_pos l (d + 1 - 1) (by omega)]
    simp
    rw [List.getElem?_eq_getElem (by omega)]; rfl
   ·rw [if_neg h0, e2]
    rw [show l.countP (fun x => !decide (t < x.at_)) = 0 by omega]
    simp [e1]
theorem prevF_tail {z : Zn} (hn : z.tail ≠ []) {t : Int} : z.prevF t = ((z.prevT t).map Prod.snd).or (upToF t z.table) := by
 unfold Zn.prevF Zn.T Zn.prevT upToF
 rw [if_neg hn, List.reverse_append, List.find?_append, ← List.map_reverse, List.find?_map]; rfl
theorem prevF_none {z : Zn} (hn : z.tail = []) {t : Int} : z.prevF t = upToF t z.table := by
 unfold Zn.prevF Zn.T upToF
 rw [if_pos hn, List.append_nil]
theorem tab_prev {z : Zn} (h : z.valid = true) {t : Int} {k : Nat} (hk : z.table.countP (fun x => !decide (t < x.at_)) = k) : upToF t z.table = if 0 < k then some z.table[k - 1]! else none :=
 prev_count (tab_asc (head_tab (valid_parts h).1).1).1 hk
theorem prevF_hit {z : Zn} (hn : z.tail ≠ []) {t : Int} {x : Trn} (h : (z.prevT t).map Prod.snd = some x) : z.prevF t = some x := by
 rw [prevF_tail hn, h]; rfl
theorem prevF_miss {z : Zn} (hn : z.tail ≠ []) {t : Int} (h : (z.prevT t).map Prod.snd = none) : z.prevF t = upToF t z.table := by
 rw [prevF_tail hn, h]; rfl
end Go.Proofs.YtdpbhjaicgkblaaGreatDoor
/- slices.Backward over transitions; zone.upTo. -/
namespace Go.Proofs.YtdpbhjaicgkblaaGreatDoor
set_option linter.unusedSimpArgs false
set_option linter.unusedVariables false
open Go.RowKit Go.Shelf
attribute [local go_sem] Oper.semAt_some
def bseq (zs : List Trn) (k : Nat) : List (Int × Trn) := (List.range k).map fun j => (((zs.length - 1 - j : Nat) : Int), zs[zs.length - 1 - j]!)
theorem bseq_succ (zs : List Trn) (k : Nat) : bseq zs (k + 1) = bseq zs k ++ [(((zs.length - 1 - k : Nat) : Int), zs[zs.length - 1 - k]!)] := by simp [bseq, List.range_succ]
theorem bseq_len (zs : List Trn) (k : Nat) : (bseq zs k).length = k := by simp [bseq]
def encB (x : Int × Trn) : Array Value := #[.int .i64 x.1, .agg #[.int .i64 x.2.at_, .int .i64 x.2.ty.off, .int .i64 x.2.ty.sv, .string x.2.ty.nm]]
set_option maxRecDepth 100000 in
set_option maxHeartbeats 2000000 in
theorem back1_in (F : Fence) (n : Nat) (hf : F.fn 225) (hro : F.round = none) (hn : 1 ≤ n) (l Bs n₀ b off cap : Nat) (zs : List Trn) (hlen : zs.length ≤ 1000000) (hb : b < n₀) (J Jx : List (Int × Trn) → World → Prop)
  (hY : ∀ pre x W, J pre W → pre.length < zs.length → YieldAt F (n - 1) Tryz.prog l (encB x) W fun e W' =>
   (e = .returned (.bool true) ∧ J (pre ++ [x]) W' ∧ Below n₀ W W') ∨ (e = .returned (.bool false) ∧ Jx (pre ++ [x]) W'))
  (W : World) (hBs : W.cell? ⟨Bs, 0, none⟩ = some (.slice (some ⟨b, off, none⟩) zs.length cap)) (hBn : Bs < n₀) (hc : ∀ j, j < zs.length → ∀ i u, (Trn.cells zs[j]!)[i]? = some u → W.cell? ⟨b, off + j * 4 + i, none⟩ = some u) (h0 : J [] W) :
  CallsIn F n Tryz.prog 225 #[.func (.yield l) #[] #[], .pointer (some ⟨Bs, 0, none⟩)] W fun e W' => (∃ v, e = .returned v) ∧
   ((∃ ys, ys = bseq zs zs.length ∧ J ys W') ∨ (∃ pre, (∃ k, k ≤ zs.length ∧ pre = bseq zs k) ∧ Jx pre W')) := by
 refine callsIn_of_wp Tryz.func225 rfl hf ?_ hro
 simp only [Tryz.ntmps225, List.size_toArray, List.length_cons, List.length_nil, Nat.reduceAdd, Nat.reduceSub, Array.replicate_succ, Array.replicate_zero, List.push_toArray, List.append_toArray, List.nil_append, List.cons_append]
 gi_wp2
 gi_loopw [3] (fun i wr => ∃ k : Nat, k ≤ zs.length ∧ i = .int .i64 ((zs.length : Int) - 1 - k) ∧ J (bseq zs k) wr ∧ Below n₀ W wr) (fun i _ => (intOf i + 1).toNat)
 case atStart => exact ⟨0, Nat.zero_le _, by simp, h0, Below.refl _ _⟩
 case round =>
  obtain ⟨k, hk, rfl, hJs, hnx⟩ := hrel
  have hBx := (hnx.cell (p := ⟨Bs, 0, none⟩) hBn).trans hBs
  by_cases hlt : k < zs.length
  ·obtain ⟨m, hm⟩ : ∃ m, zs.length = m + 1 + k := ⟨zs.length - 1 - k, by omega⟩
   have em : (zs.length : Int) - 1 - k = (m : Int) := by omega
   have em2 : zs.length - 1 - k = m := by omega
   rw [em]
   have hsucc := bseq_succ zs k
   rw [em2] at hsucc
   have HS := Lib.hid hsucc
   have hcm := fun i u h => (hnx.cell (p := ⟨b, off + m * 4 + i, none⟩) hb).trans (hc m (by omega) i u h)
   have e0 := hcm 0 _ rfl
   have e1 := hcm 1 _ rfl
   have e2 := hcm 2 _ rfl
   have e3 := hcm 3 _ rfl
   rw [Nat.add_zero] at e0
   have hml : m < zs.length := by omega
   have HM := Lib.hid hm
   obtain ⟨fn, tmps, assign, body, hy, hR⟩ := hY _ ((m : Int), zs[m]!) wr hJs (by rw [bseq_len]; exact hlt)
   clear hcm hsucc em em2 hm hc hBs
   unfold encB at hy
   dsimp only at hy
   generalize zs[m]! = x at *
   gi_wp2
   refine hR.mono ?_
   rintro e W3 (⟨rfl, hJ3, hk3⟩ | ⟨rfl, hJx3⟩)
   ·gi_wp2
    go_roundw
    case rel => exact ⟨k + 1, by omega, by have := HM.out; congr 1; omega, by rw [HS.out]; exact hJ3, hnx.trans hk3⟩
    case measure => simp [intOf]
   ·gi_wp2
    refine bodyPost_ret (results_none rfl _ _ _) rfl ?_
    exact ⟨⟨_, rfl⟩, .inr ⟨_, ⟨k + 1, by omega, HS.out.symm⟩, hJx3⟩⟩
  ·have hke : k = zs.length := by omega
   subst hke
   rw [show (zs.length : Int) - 1 - zs.length = -1 by omega]
   gi_wp2
   go_end0
   exact ⟨⟨_, rfl⟩, .inl ⟨_, rfl, hJs⟩⟩
set_option maxRecDepth 100000 in
set_option maxHeartbeats 1000000 in
theorem back1_nil_in (F : Fence) (n : Nat) (hf : F.fn 225) (hro : F.round = none) (l Bs : Nat) (A : Option Addr) (cap : Nat) (J : List (Int × Trn) → World → Prop) (W : World) (hBs : W.cell? ⟨Bs, 0, none⟩ = some (.slice A 0 cap)) (h0 : J [] W) :
  CallsIn F n Tryz.prog 225 #[.func (.yield l) #[] #[], .pointer (some ⟨Bs, 0, none⟩)] W fun e W' => (∃ v, e = .returned v) ∧ J [] W' := by
 refine callsIn_of_wp Tryz.func225 rfl hf ?_ hro
 simp only [Tryz.ntmps225, List.size_toArray, List.length_cons, List.length_nil, Nat.reduceAdd, Nat.reduceSub, Array.replicate_succ, Array.replicate_zero, List.push_toArray, List.append_toArray, List.nil_append, List.cons_append]
 gi_wp2
 gi_loopw [3] (fun i wr => i = .int .i64 (-1) ∧ J [] wr) (fun _ _ => 0)
 case atStart => exact ⟨rfl, h0⟩
 case round =>
  obtain ⟨rfl, hJs⟩ := hrel
  gi_wp2
  go_end0
  exact ⟨⟨_, rfl⟩, hJs⟩
set_option maxHeartbeats 1000000 in
theorem back_in (F : Fence) (n : Nat) (h5 : F.fn 216) (hro : F.round = none) (a : Option Addr) (len cap : Nat) (w : World) :
  CallsIn F n Tryz.prog 216 #[.slice a len cap] w fun e w' => e = .returned (.func (.func 225) #[] #[.pointer (some ⟨w.heap.size, 0, none⟩)]) ∧ w' = w.alloc (.cells #[.slice a len cap] 62) := by
 refine callsIn_of_wp Tryz.func216 rfl h5 ?_ hro
 simp only [Tryz.ntmps216, List.size_toArray, List.length_cons, List.length_nil, Nat.reduceAdd, Nat.reduceSub, Array.replicate_succ, Array.replicate_zero, List.push_toArray, List.append_toArray, List.nil_append, List.cons_append]
 gi_wp2
 go_ret
 exact ⟨rfl, rfl⟩
theorem back_stops (F : Fence) (n : Nat) (hf : F.fn 225) (hro : F.round = none) (hn : 1 ≤ n) (Bs n₀ : Nat) (sv : Value) (zs : List Trn) (hlen : zs.length ≤ 1000000) (w : World) (hBs : Bs < n₀) (hn₀ : n₀ ≤ w.heap.size)
  (hc : w.cell? ⟨Bs, 0, none⟩ = some sv) (hI : ∃ wI, Rd Trn.cells 4 wI sv zs ∧ Below wI.heap.size wI w ∧ wI.heap.size ≤ n₀) :
  SeqStopsK F n Tryz.prog 225 #[.pointer (some ⟨Bs, 0, none⟩)] encB (Below n₀) (fun ys => ys = bseq zs zs.length) (fun pre => ∃ k, k ≤ zs.length ∧ pre = bseq zs k) zs.length w := fun l J Jx W hW _ _ hY h0 => by
 have hc' := (hW.cell (p := ⟨Bs, 0, none⟩) (by show Bs < _; omega)).trans hc
 obtain ⟨wI, hI, hbI, hsI⟩ := hI
 rcases hI with ⟨h0', A, c, rfl⟩ | ⟨g, off, c, rfl, hg, hcs⟩
 ·subst h0'
  exact (back1_nil_in F n hf hro l Bs A c J W hc' h0).mono fun e W' ⟨he, hj⟩ => ⟨he, .inl ⟨_, rfl, hj⟩⟩
 ·exact back1_in F n hf hro hn l Bs n₀ g off c zs hlen (by omega) J Jx hY W hc' hBs (fun j hj i u hu => (hW.cell (p := ⟨g, off + j * 4 + i, none⟩) (by show g < _; omega)).trans ((hbI.cell (p := ⟨g, off + j * 4 + i, none⟩) hg).trans (hcs j hj i u hu))) h0
end Go.Proofs.YtdpbhjaicgkblaaGreatDoor
/- zone.upTo. -/
namespace Go.Proofs.YtdpbhjaicgkblaaGreatDoor
set_option linter.unusedSimpArgs false
set_option linter.unusedVariables false
open Go.RowKit Go.Shelf Go.ChangeShapes Go.WideShapes Go.ChangeAt
attribute [local go_sem] Oper.semAt_some
theorem bseq_map {L : List Trn} {k : Nat} (hk : k ≤ L.length) : (bseq L k).map Prod.snd = L.reverse.take k := by
 apply List.ext_getElem
 ·simp [bseq_len, hk]
 ·intro i h1 h2
  simp [bseq_len] at h1
  simp only [bseq, List.getElem_map, List.getElem_range, List.getElem_take, List.getElem_reverse]
  rw [getElem!_pos L (L.length - 1 - i) (by omega)]
theorem upTo_none {L : List Trn} {t : Int} (h : ∀ p ∈ bseq L L.length, t < p.2.at_) : upToF t L = none := by
 unfold upToF
 have e := bseq_map (L := L) (Nat.le_refl _)
 rw [List.take_of_length_le (by simp)] at e
 rw [← e]
 refine List.find?_eq_none.2 fun x hx => ?_
 obtain ⟨p, hp, rfl⟩ := List.mem_map.1 hx
 have := h p hp
 simp; omega
theorem upTo_some {L : List Trn} {t : Int} {k : Nat} (hk : k ≤ L.length) {ini : List (Int × Trn)} {last : Int × Trn} (e : bseq L k = ini ++ [last]) (h : ∀ p ∈ ini, t < p.2.at_) (hl : last.2.at_ ≤ t) : upToF t L = some last.2 := by
 unfold upToF
 have e2 := bseq_map hk
 rw [e, List.map_append] at e2
 rw [← List.take_append_drop k L.reverse, ← e2, List.find?_append, List.find?_append, List.find?_eq_none.2 fun x hx => by
  obtain ⟨p, hp, rfl⟩ := List.mem_map.1 hx
  have := h p hp
  simp; omega]
 simp [hl]
def encV (x : Trn) : Array Value := #[.int .i64 x.at_, .int .i64 x.ty.off, .int .i64 x.ty.sv, .string x.ty.nm]
theorem keeps5 (W : World) (p1 p2 p3 p4 p5 : Addr) (v1 v2 v3 v4 v5 : Value) : KeepsOthers W (((((W.setCell p1 v1).setCell p2 v2).setCell p3 v3).setCell p4 v4).setCell p5 v5) :=
 ((((KeepsOthers.setCell _ _ _).trans (KeepsOthers.setCell _ _ _)).trans (KeepsOthers.setCell _ _ _)).trans (KeepsOthers.setCell _ _ _)).trans (KeepsOthers.setCell _ _ _)
theorem cell_after {W : World} {B C : Nat} (h : B ≠ C) (j : Nat) {i : Nat} {v : Value} (u : Value) (hc : W.cell? ⟨B, i, none⟩ = some v) : (W.setCell ⟨C, j, none⟩ u).cell? ⟨B, i, none⟩ = some v := (World.cell?_of_block (Below.heap_setCell W ⟨C, j, none⟩ u B h)).trans hc
def UpP (t : Int) (pre : List (Int × Trn)) : Prop := ∀ p ∈ pre, t < p.2.at_
def UpI (s : Nat) (t : Int) (pre : List (Int × Trn)) (W : World) : Prop := (∀ p ∈ pre, t < p.2.at_) ∧ Blk W s #[.int .i64 t] 3 ∧ Blk W (s + 1) #[.int .i64 0, .int .i64 0, .int .i64 0, .string ⟨#[]⟩] 68 ∧ Blk W (s + 2) #[.bool false] 4
def UpX (s : Nat) (t : Int) (pre : List (Int × Trn)) (W : World) : Prop := ∃ ini last, (pre = ini ++ [last] ∧ (∀ p ∈ ini, t < p.2.at_) ∧ last.2.at_ ≤ t) ∧ W.cell? ⟨s + 1, 0, none⟩ = some (.int .i64 last.2.at_) ∧ W.cell? ⟨s + 1, 1, none⟩ = some (.int .i64 last.2.ty.off) ∧ W.cell? ⟨s + 1, 2, none⟩ = some (.int .i64 last.2.ty.sv) ∧ W.cell? ⟨s + 1, 3, none⟩ = some (.string last.2.ty.nm) ∧ W.cell? ⟨s + 2, 0, none⟩ = some (.bool true)
theorem upX_own (s : Nat) (t : Int) : Own (UpX s t) := own_ex fun ini => own_ex fun last => Own.and' (own_pure' _) (Own.and' (cell_own _ fun _ => _) (Own.and' (cell_own _ fun _ => _) (Own.and' (cell_own _ fun _ => _) (Own.and' (cell_own _ fun _ => _) (cell_own _ fun _ => _)))))
set_option maxRecDepth 100000 in
set_option maxHeartbeats 4000000 in
theorem upTo_in (F : Fence) (n : Nat) (h1 : F.fn 208) (h2 : F.fn 216) (h3 : F.fn 225) (hro : F.round = none) (hn : 3 ≤ n) (v : Value) (L : List Trn) (t : Int) (w : World) (hlen : L.length ≤ 1000000) (hR : Rd Trn.cells 4 w v L) :
  CallsIn F n Tryz.prog 208 #[v, .int .i64 t] w fun e W' => e = .returned (optV (upToF t L)) ∧ Below w.heap.size w W' := by
 have hn1 : 1 ≤ n := by omega
 have HR := Lib.hid hR
 obtain ⟨AL, cL, rfl⟩ := rd_vf hR
 clear hR
 refine callsIn_of_wp_marks Tryz.func208 rfl h1 ?_ hro
 simp only [Tryz.ntmps208, List.size_toArray, List.length_cons, List.length_nil, Nat.reduceAdd, Nat.reduceSub, Array.replicate_succ, Array.replicate_zero, List.push_toArray, List.append_toArray, List.nil_append, List.cons_append]
 gi_wp2_with (gi_at_call 216; refine (back_in F (n - 1) h2 hro _ _ _ _).mono ?_; rintro e w' ⟨rfl, rfl⟩)
 obtain ⟨W0, hW0⟩ : ∃ W0, ((((w.alloc (.cells #[.int .i64 t] 3)).alloc (.cells #[.int .i64 0, .int .i64 0, .int .i64 0, .string ⟨#[]⟩] 68)).alloc (.cells #[.bool false] 4)).alloc (.cells #[.slice AL L.length cL] 62)) = W0 := ⟨_, rfl⟩
 have b1 := Blk.new w #[.int .i64 t] 3
 have b2 := Blk.new (w.alloc (.cells #[.int .i64 t] 3)) #[.int .i64 0, .int .i64 0, .int .i64 0, .string ⟨#[]⟩] 68
 have b3 := Blk.new ((w.alloc (.cells #[.int .i64 t] 3)).alloc (.cells #[.int .i64 0, .int .i64 0, .int .i64 0, .string ⟨#[]⟩] 68)) #[.bool false] 4
 have b4 := Blk.new (((w.alloc (.cells #[.int .i64 t] 3)).alloc (.cells #[.int .i64 0, .int .i64 0, .int .i64 0, .string ⟨#[]⟩] 68)).alloc (.cells #[.bool false] 4)) #[.slice AL L.length cL] 62
 simp only [World.size_alloc] at b2 b3 b4
 have hB0 : Below w.heap.size w W0 := by rw [← hW0]; exact ((((Below.refl _ w).alloc (Nat.le_refl _) _).alloc (by simp) _).alloc (by simp; omega) _).alloc (by simp; omega) _
 have hs0 : w.heap.size + 1 + 1 + 1 < W0.heap.size := by rw [← hW0]; simp
 have hI0 : UpI w.heap.size t [] W0 := ⟨fun p hp => (by cases hp), by rw [← hW0]; exact ((b1.alloc _).alloc _).alloc _, by rw [← hW0]; exact (b2.alloc _).alloc _, by rw [← hW0]; exact b3.alloc _⟩
 rw [hW0] at b4 ⊢
 clear hW0 b1 b2 b3
 refine wpIn_rangeFunc_ownH hro hn1 (gf := 225) (lb := #[.pointer (some ⟨w.heap.size + 1 + 1 + 1, 0, none⟩)]) rfl h3 (enters_of Tryz.func225 (by kernel_rfl) rfl)
  (back_stops F (n - 1) h3 hro (by omega) (w.heap.size + 1 + 1 + 1) W0.heap.size _ L hlen W0 ?hBs (Nat.le_refl _) (b4.cell 0 rfl) ⟨w, HR.out, hB0, hB0.size⟩) (fun h k => h.trans k) (belowK_b (Nat.le_refl _)) (Below.refl _ _) (fun _ => rfl)
  (fun pre W => UpP t pre ∧ Below W0.heap.size W0 W)
  (fun c pre W => (c = .ret ∧ UpX w.heap.size t pre W) ∧ Below w.heap.size w W)
  (OwnFrom.and ((own_pure' _).from _) (ownFrom_below (Nat.le_refl _) (Nat.le_refl _)))
  (fun c => OwnFrom.and ((Own.and' (own_pure' _) (upX_own _ _)).from _) (ownFrom_below (Nat.le_refl _) (by omega)))
  ⟨fun p hp => (by cases hp), Below.refl _ _⟩
  (fun x a' W => ∃ Bx, w.heap.size + 1 + 1 + 1 < Bx ∧ Blk W Bx (encV x.2) 68 ∧ a' = { tmps := #[.slice AL L.length cL, .int .i64 t, undef, .pointer (some ⟨w.heap.size, 0, none⟩), .pointer (some ⟨w.heap.size + 1, 0, none⟩), .pointer (some ⟨w.heap.size + 1 + 1, 0, none⟩), undef, .pointer (some ⟨Bx, 0, none⟩), .slice AL L.length cL, .func (.func 225) #[] #[.pointer (some ⟨w.heap.size + 1 + 1 + 1, 0, none⟩)], .int .i64 x.1, .agg (encV x.2), undef, undef, undef, undef, undef, undef], defers := [] })
  (fun x a' => (own_ex fun Bx => Own.and' (own_pure' _) (Own.and' (blk_own _ _ fun _ => _) (own_pure' _))).from _) ?assign ?body ?done ?stop
 case hBs => omega
 case assign =>
  rintro l pre x W K ⟨hi, hb⟩ hK
  unfold encB
  gi_wp2
  exact hK _ _ ((KeepsOthers.alloc _ _).from _) ((Below.refl _ W).alloc hb.size _) ⟨hi, hb.alloc hb.size _⟩ ⟨W.heap.size, by have := hb.size; omega, Blk.new W _ _, rfl⟩
 case body =>
  rintro l pre x a' W hl hrec ⟨hp, hbW⟩ ⟨Bx, hBx, bX, rfl⟩ hlt
  have i1 := hI0.2.1.below hbW (by omega)
  have i2 := hI0.2.2.1.below hbW (by omega)
  have i3 := hI0.2.2.2.below hbW (by omega)
  have hb : Below w.heap.size w W := hB0.trans (hbW.mono hB0.size)
  have x0 : W.cell? ⟨Bx, 0, none⟩ = some (.int .i64 x.2.at_) := bX.cell 0 rfl
  have x1 : W.cell? ⟨Bx, 1, none⟩ = some (.int .i64 x.2.ty.off) := bX.cell 1 rfl
  have x2 : W.cell? ⟨Bx, 2, none⟩ = some (.int .i64 x.2.ty.sv) := bX.cell 2 rfl
  have x3 : W.cell? ⟨Bx, 3, none⟩ = some (.string x.2.ty.nm) := bX.cell 3 rfl
  have c1 : W.cell? ⟨w.heap.size, 0, none⟩ = some (.int .i64 t) := i1.cell 0 rfl
  have r0 : W.cell? ⟨w.heap.size + 1, 0, none⟩ = some (.int .i64 0) := i2.cell 0 rfl
  have r1 : W.cell? ⟨w.heap.size + 1, 1, none⟩ = some (.int .i64 0) := i2.cell 1 rfl
  have r2 : W.cell? ⟨w.heap.size + 1, 2, none⟩ = some (.int .i64 0) := i2.cell 2 rfl
  have r3 : W.cell? ⟨w.heap.size + 1, 3, none⟩ = some (.string ⟨#[]⟩) := i2.cell 3 rfl
  have rf := i2.frozen
  have k0 : W.cell? ⟨w.heap.size + 1 + 1, 0, none⟩ = some (.bool false) := i3.cell 0 rfl
  have kf : W.frozen? ⟨w.heap.size + 1 + 1, 0, none⟩ = false := i3.frozen 0
  unfold encV
  by_cases hx : x.2.at_ ≤ t
  ·have dx : decide (x.2.at_ ≤ t) = true := decide_eq_true hx
   gi_wp2
   obtain ⟨s0, s1, s2, s3⟩ := set4 r0 r1 r2 r3 (.int .i64 x.2.at_) (.int .i64 x.2.ty.off) (.int .i64 x.2.ty.sv) (.string x.2.ty.nm) _ rfl
   have hne : w.heap.size + 1 ≠ w.heap.size + 1 + 1 := by omega
   have hne2 : w.heap.size + 1 + 1 ≠ w.heap.size + 1 := by omega
   have kk := cell_after hne2 3 (.string x.2.ty.nm) (cell_after hne2 2 (.int .i64 x.2.ty.sv) (cell_after hne2 1 (.int .i64 x.2.ty.off) (cell_after hne2 0 (.int .i64 x.2.at_) k0)))
   have hB9 := set4_below hb (Nat.le_succ _) (.int .i64 x.2.at_) (.int .i64 x.2.ty.off) (.int .i64 x.2.ty.sv) (.string x.2.ty.nm) _ rfl
   exact ⟨(keeps5 _ _ _ _ _ _ _ _ _ _ _).from _, ⟨rfl, pre, x, ⟨rfl, hp, hx⟩, cell_after hne 0 _ s0, cell_after hne 0 _ s1, cell_after hne 0 _ s2, cell_after hne 0 _ s3, World.cell?_setCell_same' _ _ _ (by rw [kk]; rfl)⟩, hB9.setCell (p := ⟨w.heap.size + 1 + 1, 0, none⟩) (by show w.heap.size ≤ w.heap.size + 1 + 1; omega) _⟩
  ·have dx : decide (x.2.at_ ≤ t) = false := decide_eq_false hx
   gi_wp2
   exact ⟨KeepsFrom.refl _ _, Below.refl _ _, fun p hp' => (List.mem_append.1 hp').elim (hp p) (fun e => by simp at e; subst e; omega), hbW⟩
 case done =>
  rintro D ys W hD rfl ⟨hp, hbW⟩ hK
  have i2 := hI0.2.2.1.below hbW (by omega)
  have i3 := hI0.2.2.2.below hbW (by omega)
  have hb : Below w.heap.size w W := hB0.trans (hbW.mono hB0.size)
  have r0 : W.cell? ⟨w.heap.size + 1, 0, none⟩ = some (.int .i64 0) := i2.cell 0 rfl
  have r1 : W.cell? ⟨w.heap.size + 1, 1, none⟩ = some (.int .i64 0) := i2.cell 1 rfl
  have r2 : W.cell? ⟨w.heap.size + 1, 2, none⟩ = some (.int .i64 0) := i2.cell 2 rfl
  have r3 : W.cell? ⟨w.heap.size + 1, 3, none⟩ = some (.string ⟨#[]⟩) := i2.cell 3 rfl
  have rf := i2.frozen
  have k0 : W.cell? ⟨w.heap.size + 1 + 1, 0, none⟩ = some (.bool false) := i3.cell 0 rfl
  have kf : W.frozen? ⟨w.heap.size + 1 + 1, 0, none⟩ = false := i3.frozen 0
  have HN := Lib.hid (upTo_none hp)
  gi_wp2
  have hne : w.heap.size + 1 ≠ w.heap.size + 1 + 1 := by omega
  have hne2 : w.heap.size + 1 + 1 ≠ w.heap.size + 1 := by omega
  obtain ⟨s0, s1, s2, s3⟩ := set4 r0 r1 r2 r3 (.int .i64 0) (.int .i64 0) (.int .i64 0) (.string ⟨#[]⟩) _ rfl
  have kk := cell_after hne2 3 (.string ⟨#[]⟩) (cell_after hne2 2 (.int .i64 0) (cell_after hne2 1 (.int .i64 0) (cell_after hne2 0 (.int .i64 0) k0)))
  have hB9 := set4_below hb (Nat.le_succ _) (.int .i64 0) (.int .i64 0) (.int .i64 0) (.string ⟨#[]⟩) _ rfl
  have hK9 := (keeps5 W ⟨w.heap.size + 1, 0, none⟩ ⟨w.heap.size + 1, 1, none⟩ ⟨w.heap.size + 1, 2, none⟩ ⟨w.heap.size + 1, 3, none⟩ ⟨w.heap.size + 1 + 1, 0, none⟩ (.int .i64 0) (.int .i64 0) (.int .i64 0) (.string ⟨#[]⟩) (.bool false)).same D _ hK rfl
  have k9 := World.cell?_setCell_same' _ ⟨w.heap.size + 1 + 1, 0, none⟩ (.bool false) (by rw [kk]; rfl)
  have q0 := cell_after hne 0 (.bool false) s0
  have q1 := cell_after hne 0 (.bool false) s1
  have q2 := cell_after hne 0 (.bool false) s2
  have q3 := cell_after hne 0 (.bool false) s3
  have hB10 := hB9.setCell (p := ⟨w.heap.size + 1 + 1, 0, none⟩) (by show w.heap.size ≤ w.heap.size + 1 + 1; omega) (.bool false)
  generalize (((((W.setCell ⟨w.heap.size + 1, 0, none⟩ (.int .i64 0)).setCell ⟨w.heap.size + 1, 1, none⟩ (.int .i64 0)).setCell ⟨w.heap.size + 1, 2, none⟩ (.int .i64 0)).setCell ⟨w.heap.size + 1, 3, none⟩ (.string ⟨#[]⟩)).setCell ⟨w.heap.size + 1 + 1, 0, none⟩ (.bool false)) = W9 at *
  refine ⟨by simp, .inl ⟨_, _, rfl, run_takeDeferred hK9, ?_⟩⟩
  have kp := fun i v (h : W9.cell? ⟨w.heap.size + 1, i, none⟩ = some v) => cell_kept h (grownBy_putObj' _ D (.deferred none)) (fun r e => by cases e; exact ⟨_, hK9, rfl⟩)
  have u0 := kp 0 _ q0
  have u1 := kp 1 _ q1
  have u2 := kp 2 _ q2
  have u3 := kp 3 _ q3
  have u4 := cell_kept k9 (grownBy_putObj' _ D (.deferred none)) (fun r e => by cases e; exact ⟨_, hK9, rfl⟩)
  exact ⟨.tuple #[.agg #[.int .i64 0, .int .i64 0, .int .i64 0, .string ⟨#[]⟩], .bool false], by simp [results, Tryz.results208, go_sem, u0, u1, u2, u3, u4], by rw [HN.out]; rfl, hB10.trans (belowK_b (w := W0) hB0.size W9 D _ _ hD hK9 rfl rfl)⟩
 case stop =>
  rintro D c pre W hD ⟨k, hk, rfl⟩ ⟨⟨rfl, ini, last, ⟨e1, e2, e3⟩, s0, s1, s2, s3, kk⟩, hb⟩ hK
  have HN := Lib.hid (upTo_some hk e1 e2 e3)
  clear e1
  gi_wp2
  refine ⟨by simp, .inl ⟨_, _, rfl, run_takeDeferred hK, ?_⟩⟩
  have kp := fun i v (h : W.cell? ⟨w.heap.size + 1, i, none⟩ = some v) => cell_kept h (grownBy_putObj' _ D (.deferred none)) (fun r e => by cases e; exact ⟨_, hK, rfl⟩)
  have u0 := kp 0 _ s0
  have u1 := kp 1 _ s1
  have u2 := kp 2 _ s2
  have u3 := kp 3 _ s3
  have u4 := cell_kept kk (grownBy_putObj' _ D (.deferred none)) (fun r e => by cases e; exact ⟨_, hK, rfl⟩)
  exact ⟨.tuple #[.agg #[.int .i64 last.2.at_, .int .i64 last.2.ty.off, .int .i64 last.2.ty.sv, .string last.2.ty.nm], .bool true], by simp [results, Tryz.results208, go_sem, u0, u1, u2, u3, u4], by rw [HN.out]; rfl, hb.trans (belowK_b (w := W0) hB0.size W D _ _ hD hK rfl rfl)⟩
theorem upTo_any (v : Value) (L : List Trn) (t : Int) (w : World) (hlen : L.length ≤ 1000000) (hR : Rd Trn.cells 4 w v L) :
  Calls Tryz.prog 208 #[v, .int .i64 t] w fun e W' => e = .returned (optV (upToF t L)) ∧ Below w.heap.size w W' :=
 (callsIn_wide (n := 3)).1 (upTo_in Fence.wide 3 trivial trivial trivial rfl (Nat.le_refl _) v L t w hlen hR)
end Go.Proofs.YtdpbhjaicgkblaaGreatDoor
/- zone.lastAt, zone.typeAt, zone.At. Printed in part by gen_w13.py. -/
namespace Go.Proofs.YtdpbhjaicgkblaaGreatDoor
set_option linter.unusedSimpArgs false
set_option linter.unusedVariables false
open Go.ChangeShapes Go.WideShapes Go.ChangeAt Go.RowKit
theorem srch_le (z : Zn) (t : Int) : z.srch t ≤ z.table.length := List.countP_le_length
set_option maxRecDepth 100000 in
set_option maxHeartbeats 2000000 in
theorem lastAt_table (z : Zn) (vT vR : Value) (t : Int) (w : World) (hm : HasMax w) (hT : Rd Trn.cells 4 w vT z.table) (hR : Rd Rule.cells 11 w vR z.tail) (hfs : z.form.size < 4294967281) (hll : z.tail.length ≤ 12) (hv : z.valid = true) (h0 : z.tail = []) :
  Calls Tryz.prog 193 #[z.v vT vR, .int .i64 t] w fun e w' => e = .returned (optV (z.prevF t)) ∧ Below w.heap.size w w' := by
 have hl := (head_tab (valid_parts hv).1).2
 have HSR := Lib.hid (fun W (hb : Below w.heap.size w W) => search_any z vT vR t W (by omega) (hT.on hb) (tab_le hv))
 have HTT := Lib.hid hT
 have HP := Lib.hid (prevF_none h0 (t := t))
 have hkl := srch_le z t
 obtain ⟨k, hkk⟩ : ∃ k, z.srch t = k := ⟨_, rfl⟩
 have HX := Lib.hid (HP.out.trans (tab_prev hv hkk))
 rw [hkk] at HSR hkl
 obtain ⟨AT, cT, rfl⟩ := rd_vf hT
 obtain ⟨AR, cR, rfl⟩ := rd_vf hR
 have hl0 : z.tail.length = 0 := by rw [h0]; rfl
 unfold Zn.v at HSR ⊢
 rw [hl0] at HSR ⊢
 clear hT hR hm hv hkk HP hl0 h0
 have HZC := Lib.hid (alloc_cells w [.string z.nm, .int .i64 z.first.off, .int .i64 z.first.sv, .string z.first.nm, .slice AT z.table.length cT, .slice AR 0 cR, .int .i64 z.off, .string z.form, .int .i64 z.year] 65)
 have HBZ := Lib.hid (show Below w.heap.size w (w.alloc (.cells #[.string z.nm, .int .i64 z.first.off, .int .i64 z.first.sv, .string z.first.nm, .slice AT z.table.length cT, .slice AR 0 cR, .int .i64 z.off, .string z.form, .int .i64 z.year] 65)) from (Below.refl _ _).alloc (Nat.le_refl _) _)
 have hbW : Below w.heap.size w ((w.alloc (.cells #[.string z.nm, .int .i64 z.first.off, .int .i64 z.first.sv, .string z.first.nm, .slice AT z.table.length cT, .slice AR 0 cR, .int .i64 z.off, .string z.form, .int .i64 z.year] 65)).alloc (.cells #[.int .i64 0, .int .i64 0, .int .i64 0, .string ⟨#[]⟩] 68)) := HBZ.out.alloc (by simp) _
 have hszW : w.heap.size + 1 < ((w.alloc (.cells #[.string z.nm, .int .i64 z.first.off, .int .i64 z.first.sv, .string z.first.nm, .slice AT z.table.length cT, .slice AR 0 cR, .int .i64 z.off, .string z.form, .int .i64 z.year] 65)).alloc (.cells #[.int .i64 0, .int .i64 0, .int .i64 0, .string ⟨#[]⟩] 68)).heap.size := by simp
 have rc := alloc_cells (w.alloc (.cells #[.string z.nm, .int .i64 z.first.off, .int .i64 z.first.sv, .string z.first.nm, .slice AT z.table.length cT, .slice AR 0 cR, .int .i64 z.off, .string z.form, .int .i64 z.year] 65)) [.int .i64 0, .int .i64 0, .int .i64 0, .string ⟨#[]⟩] 68
 have rf := alloc_frozen (w.alloc (.cells #[.string z.nm, .int .i64 z.first.off, .int .i64 z.first.sv, .string z.first.nm, .slice AT z.table.length cT, .slice AR 0 cR, .int .i64 z.off, .string z.form, .int .i64 z.year] 65)) #[.int .i64 0, .int .i64 0, .int .i64 0, .string ⟨#[]⟩] 68
 rw [World.size_alloc] at rc rf
 have zc : ∀ i u, [Value.string z.nm, .int .i64 z.first.off, .int .i64 z.first.sv, .string z.first.nm, .slice AT z.table.length cT, .slice AR 0 cR, .int .i64 z.off, .string z.form, .int .i64 z.year][i]? = some u → ((w.alloc (.cells #[.string z.nm, .int .i64 z.first.off, .int .i64 z.first.sv, .string z.first.nm, .slice AT z.table.length cT, .slice AR 0 cR, .int .i64 z.off, .string z.form, .int .i64 z.year] 65)).alloc (.cells #[.int .i64 0, .int .i64 0, .int .i64 0, .string ⟨#[]⟩] 68)).cell? ⟨w.heap.size, i, none⟩ = some u := fun i u h => Lib.cell?_alloc_some _ (HZC.out i u h)
 have RC := Lib.hid rc
 have RF := Lib.hid rf
 have ZC := Lib.hid zc
 have HBW := Lib.hid hbW
 clear rc rf zc hbW HZC HBZ
 go_enter Tryz.func193, Tryz.ntmps193
 go_wp2_with fail
 generalize ((w.alloc (.cells #[.string z.nm, .int .i64 z.first.off, .int .i64 z.first.sv, .string z.first.nm, .slice AT z.table.length cT, .slice AR 0 cR, .int .i64 z.off, .string z.form, .int .i64 z.year] 65)).alloc (.cells #[.int .i64 0, .int .i64 0, .int .i64 0, .string ⟨#[]⟩] 68)) = W at *
 refine (HSR.out W HBW.out).mono ?_
 rintro e ws ⟨rfl, hbs⟩
 have hbs0 : Below w.heap.size w ws := HBW.out.trans (hbs.mono (by omega))
 have r0 := (hbs.cell (p := ⟨w.heap.size + 1, 0, none⟩) hszW).trans (RC.out 0 _ rfl)
 have r1 := (hbs.cell (p := ⟨w.heap.size + 1, 1, none⟩) hszW).trans (RC.out 1 _ rfl)
 have r2 := (hbs.cell (p := ⟨w.heap.size + 1, 2, none⟩) hszW).trans (RC.out 2 _ rfl)
 have r3 := (hbs.cell (p := ⟨w.heap.size + 1, 3, none⟩) hszW).trans (RC.out 3 _ rfl)
 have rf := fun i => (hbs.frozen (p := ⟨w.heap.size + 1, i, none⟩) hszW).trans (RF.out i)
 have x4 := (hbs.cell (p := ⟨w.heap.size, 4, none⟩) (by show w.heap.size < _; omega)).trans (ZC.out 4 _ rfl)
 by_cases hk0 : 0 < k
 ·obtain ⟨k', rfl⟩ : ∃ k', k = k' + 1 := ⟨k - 1, by omega⟩
  have hlt : k' < z.table.length := by omega
  obtain ⟨g, off, hA, hg, hc⟩ : ∃ g off, AT = some ⟨g, off, none⟩ ∧ g < ws.heap.size ∧ ∀ i u, (Trn.cells z.table[k']!)[i]? = some u → ws.cell? ⟨g, off + k' * 4 + i, none⟩ = some u := by
   rcases HTT.out.on hbs0 with ⟨e, _⟩ | ⟨g, off, c', hv', hg, hc⟩
   ·rw [e] at hlt; simp at hlt
   ·injection hv' with e1 _ _
    exact ⟨g, off, e1, hg, fun i u hu => hc k' hlt i u hu⟩
  subst hA
  have e0 := hc 0 _ rfl
  have e1 := hc 1 _ rfl
  have e2 := hc 2 _ rfl
  have e3 := hc 3 _ rfl
  rw [Nat.add_zero] at e0
  have HX2 := Lib.hid (HX.out.trans (if_pos hk0))
  rw [Nat.add_sub_cancel] at HX2
  generalize z.table[k']! = x at *
  obtain ⟨xa, xt⟩ := x
  dsimp only at *
  clear hc
  go_wp2
  obtain ⟨s0, s1, s2, s3⟩ := set4 r0 r1 r2 r3 (.int .i64 xa) (.int .i64 xt.off) (.int .i64 xt.sv) (.string xt.nm) _ rfl
  have hB9 := set4_below hbs0 (Nat.le_succ _) (.int .i64 xa) (.int .i64 xt.off) (.int .i64 xt.sv) (.string xt.nm) _ rfl
  generalize ((((ws).setCell ⟨w.heap.size + 1, 0, none⟩ (.int .i64 xa)).setCell ⟨w.heap.size + 1, 1, none⟩ (.int .i64 xt.off)).setCell ⟨w.heap.size + 1, 2, none⟩ (.int .i64 xt.sv)).setCell ⟨w.heap.size + 1, 3, none⟩ (.string xt.nm) = w9 at *
  exact bodyPost_ret (v := .tuple #[.agg #[.int .i64 xa, .int .i64 xt.off, .int .i64 xt.sv, .string xt.nm], .bool true]) (by simp [results, Tryz.results193, go_sem, s0, s1, s2, s3]) rfl ⟨by rw [HX2.out]; rfl, hB9⟩
 ·have HX2 := Lib.hid (HX.out.trans (if_neg hk0))
  obtain rfl : k = 0 := by omega
  go_wp2
  obtain ⟨s0, s1, s2, s3⟩ := set4 r0 r1 r2 r3 (.int .i64 0) (.int .i64 0) (.int .i64 0) (.string ⟨#[]⟩) _ rfl
  have hB9 := set4_below hbs0 (Nat.le_succ _) (.int .i64 0) (.int .i64 0) (.int .i64 0) (.string ⟨#[]⟩) _ rfl
  generalize ((((ws).setCell ⟨w.heap.size + 1, 0, none⟩ (.int .i64 0)).setCell ⟨w.heap.size + 1, 1, none⟩ (.int .i64 0)).setCell ⟨w.heap.size + 1, 2, none⟩ (.int .i64 0)).setCell ⟨w.heap.size + 1, 3, none⟩ (.string ⟨#[]⟩) = w9 at *
  exact bodyPost_ret (v := .tuple #[.agg #[.int .i64 0, .int .i64 0, .int .i64 0, .string ⟨#[]⟩], .bool false]) (by simp [results, Tryz.results193, go_sem, s0, s1, s2, s3]) rfl ⟨by rw [HX2.out]; rfl, hB9⟩
set_option maxRecDepth 100000 in
set_option maxHeartbeats 8000000 in
theorem lastAt_tail (z : Zn) (vT vR : Value) (t : Int) (w : World) (hm : HasMax w) (hT : Rd Trn.cells 4 w vT z.table) (hR : Rd Rule.cells 11 w vR z.tail) (hfs : z.form.size < 4294967281) (hll : z.tail.length ≤ 12) (hv : z.valid = true) (ht1 : -62135596800 ≤ t) (ht2 : t < 253402300800) (h0 : z.tail ≠ []) :
  Calls Tryz.prog 193 #[z.v vT vR, .int .i64 t] w fun e w' => e = .returned (optV (z.prevF t)) ∧ Below w.heap.size w w' := by
 have hl := (head_tab (valid_parts hv).1).2
 have ok := valid_tail hv h0
 have y1 := ok.y1
 have y2 := ok.y2
 obtain ⟨Y, hY, hYC⟩ := yearOf_det t ht1 ht2
 have hY1 := hY.y1
 have hY2 := hY.y2
 have HSR := Lib.hid (fun W (hb : Below w.heap.size w W) => search_any z vT vR t W (by omega) (hT.on hb) (tab_le hv))
 have HYC := Lib.hid hYC
 have HYO := Lib.hid hY
 have OK := Lib.hid ok
 have HTT := Lib.hid hT
 have HRR := Lib.hid hR
 have HM := Lib.hid hm
 have HHIT := Lib.hid (fun x h => prevF_hit h0 (t := t) (x := x) h)
 have HMISS := Lib.hid (fun h => prevF_miss h0 (t := t) h)
 have hkl := srch_le z t
 obtain ⟨k, hkk⟩ : ∃ k, z.srch t = k := ⟨_, rfl⟩
 have HTP := Lib.hid (tab_prev hv hkk)
 rw [hkk] at HSR hkl
 have hne0 : decide ((0 : Int) < (z.tail.length : Int)) = true := decide_eq_true (by
  have : 0 < z.tail.length := List.length_pos_iff.2 h0
  omega)
 have HPOS := Lib.hid (List.length_pos_iff.2 h0)
 have hpos : 0 < z.tail.length := HPOS.out
 obtain ⟨AT, cT, rfl⟩ := rd_vf hT
 obtain ⟨AR, cR, rfl⟩ := rd_vf hR
 unfold Zn.v at HSR ⊢
 clear hT hR hm hv hkk h0 hY hYC ok
 have HZC := Lib.hid (alloc_cells w [.string z.nm, .int .i64 z.first.off, .int .i64 z.first.sv, .string z.first.nm, .slice AT z.table.length cT, .slice AR z.tail.length cR, .int .i64 z.off, .string z.form, .int .i64 z.year] 65)
 have HBZ := Lib.hid (show Below w.heap.size w (w.alloc (.cells #[.string z.nm, .int .i64 z.first.off, .int .i64 z.first.sv, .string z.first.nm, .slice AT z.table.length cT, .slice AR z.tail.length cR, .int .i64 z.off, .string z.form, .int .i64 z.year] 65)) from (Below.refl _ _).alloc (Nat.le_refl _) _)
 have hbW : Below w.heap.size w ((w.alloc (.cells #[.string z.nm, .int .i64 z.first.off, .int .i64 z.first.sv, .string z.first.nm, .slice AT z.table.length cT, .slice AR z.tail.length cR, .int .i64 z.off, .string z.form, .int .i64 z.year] 65)).alloc (.cells #[.int .i64 0, .int .i64 0, .int .i64 0, .string ⟨#[]⟩] 68)) := HBZ.out.alloc (by simp) _
 have hszW : w.heap.size + 1 < ((w.alloc (.cells #[.string z.nm, .int .i64 z.first.off, .int .i64 z.first.sv, .string z.first.nm, .slice AT z.table.length cT, .slice AR z.tail.length cR, .int .i64 z.off, .string z.form, .int .i64 z.year] 65)).alloc (.cells #[.int .i64 0, .int .i64 0, .int .i64 0, .string ⟨#[]⟩] 68)).heap.size := by simp
 have rc := alloc_cells (w.alloc (.cells #[.string z.nm, .int .i64 z.first.off, .int .i64 z.first.sv, .string z.first.nm, .slice AT z.table.length cT, .slice AR z.tail.length cR, .int .i64 z.off, .string z.form, .int .i64 z.year] 65)) [.int .i64 0, .int .i64 0, .int .i64 0, .string ⟨#[]⟩] 68
 have rf := alloc_frozen (w.alloc (.cells #[.string z.nm, .int .i64 z.first.off, .int .i64 z.first.sv, .string z.first.nm, .slice AT z.table.length cT, .slice AR z.tail.length cR, .int .i64 z.off, .string z.form, .int .i64 z.year] 65)) #[.int .i64 0, .int .i64 0, .int .i64 0, .string ⟨#[]⟩] 68
 rw [World.size_alloc] at rc rf
 have zc : ∀ i u, [Value.string z.nm, .int .i64 z.first.off, .int .i64 z.first.sv, .string z.first.nm, .slice AT z.table.length cT, .slice AR z.tail.length cR, .int .i64 z.off, .string z.form, .int .i64 z.year][i]? = some u → ((w.alloc (.cells #[.string z.nm, .int .i64 z.first.off, .int .i64 z.first.sv, .string z.first.nm, .slice AT z.table.length cT, .slice AR z.tail.length cR, .int .i64 z.off, .string z.form, .int .i64 z.year] 65)).alloc (.cells #[.int .i64 0, .int .i64 0, .int .i64 0, .string ⟨#[]⟩] 68)).cell? ⟨w.heap.size, i, none⟩ = some u := fun i u h => Lib.cell?_alloc_some _ (HZC.out i u h)
 have RC := Lib.hid rc
 have RF := Lib.hid rf
 have ZC := Lib.hid zc
 have HBW := Lib.hid hbW
 clear rc rf zc hbW HZC HBZ
 have z5 := ZC.out 5 _ rfl
 clear z5
 go_enter Tryz.func193, Tryz.ntmps193
 go_wp2_with fail
 generalize ((w.alloc (.cells #[.string z.nm, .int .i64 z.first.off, .int .i64 z.first.sv, .string z.first.nm, .slice AT z.table.length cT, .slice AR z.tail.length cR, .int .i64 z.off, .string z.form, .int .i64 z.year] 65)).alloc (.cells #[.int .i64 0, .int .i64 0, .int .i64 0, .string ⟨#[]⟩] 68)) = W at *
 refine (HYC.out W).mono ?_
 rintro e w3 ⟨rfl, hb3⟩
 have hb30 : Below w.heap.size w w3 := HBW.out.trans (hb3.mono (by omega))
 have hsz3 : w.heap.size + 1 < w3.heap.size := Nat.lt_of_lt_of_le hszW hb3.size
 have Z3 := Lib.hid (fun i u h => (hb3.cell (p := ⟨w.heap.size, i, none⟩) (by show w.heap.size < _; omega)).trans (ZC.out i u h))
 have R3 := Lib.hid (fun i u h => (hb3.cell (p := ⟨w.heap.size + 1, i, none⟩) hszW).trans (RC.out i u h))
 have RF3 := Lib.hid (fun i => (hb3.frozen (p := ⟨w.heap.size + 1, i, none⟩) hszW).trans (RF.out i))
 clear RC RF ZC HBW hb3
 go_wp2
 obtain ⟨y0, hy0⟩ : ∃ y0, min 9999 (Y + 1) = y0 := ⟨_, rfl⟩
 rw [hy0]
 have hy1 : y0 ≤ 9999 := by omega
 have hy2 : 1 ≤ y0 := by omega
 have HST := Lib.hid (ahead_start OK.out HYO.out)
 rw [hy0] at HST
 have HY0 := Lib.hid hy0.symm
 clear hy0
 go_loopw [6, 20] (fun v6 v20 wv => ∃ j : Nat, j ≤ 3 ∧ v20 = .int .i64 j ∧ v6 = .int .i64 (y0 - 9 * j) ∧ Below w3.heap.size w3 wv ∧ Hid (z.ahead t (y0 - 9 * j))) (fun _ v _ => 3 - (intOf v).toNat)
 case atStart => exact ⟨0, by omega, rfl, by simp, Below.refl _ _, by rw [show y0 - 9 * ((0 : Nat) : Int) = y0 by omega]; exact HST⟩
 case round =>
  obtain ⟨j, hj, rfl, rfl, hbv, HP⟩ := hrel
  have hbv0 : Below w.heap.size w wr := hb30.trans (hbv.mono (by omega))
  have hszv : w.heap.size + 1 < wr.heap.size := Nat.lt_of_lt_of_le hsz3 hbv.size
  obtain ⟨y, hy⟩ : ∃ y, y0 - 9 * (j : Int) = y := ⟨_, rfl⟩
  rw [hy] at HP ⊢
  have hyb1 : y ≤ 9999 := by omega
  have hyb2 : -30 ≤ y := by omega
  have HY := Lib.hid hy
  clear hy
  have Zv := Lib.hid (fun i u h => (hbv.cell (p := ⟨w.heap.size, i, none⟩) (by show w.heap.size < _; omega)).trans (Z3.out i u h))
  have Rv := Lib.hid (fun i u h => (hbv.cell (p := ⟨w.heap.size + 1, i, none⟩) hsz3).trans (R3.out i u h))
  have RFv := Lib.hid (fun i => (hbv.frozen (p := ⟨w.heap.size + 1, i, none⟩) hsz3).trans (RF3.out i))
  have zv0 := Zv.out 0 _ rfl
  have zv1 := Zv.out 1 _ rfl
  have zv2 := Zv.out 2 _ rfl
  have zv3 := Zv.out 3 _ rfl
  have zv4 := Zv.out 4 _ rfl
  have zv5 := Zv.out 5 _ rfl
  have zv6 := Zv.out 6 _ rfl
  have zv7 := Zv.out 7 _ rfl
  have zv8 := Zv.out 8 _ rfl
  by_cases hlt : j < 3
  ·have e98 : y - 9 + 1 = y - 8 := by omega
   have HTA := Lib.hid (tail_any z _ _ (y - 9 + 1) y wr (HM.out.on hbv0) (by omega) (HTT.out.on hbv0) (HRR.out.on hbv0) hfs hll (fun _ => OK.out) (by omega) (by omega) (by omega))
   unfold TailEnd at HTA
   unfold Zn.v at HTA
   rw [show z.tailL (y - 9 + 1) y = z.tailL (y - 8) y by rw [e98]] at HTA
   have HHIT2 := Lib.hid (fun x h => HHIT.out x (ahead_hit OK.out hyb1 HP.out (x := x) h))
   have HSTEP := Lib.hid (fun h => ahead_step OK.out hyb1 HP.out h)
   have hLL : (z.tailL (y - 8) y).length ≤ 1000 := tailL_len z hll (by omega)
   generalize z.tailL (y - 8) y = L at *
   have HU := Lib.hid (fun W v h => upTo_any v L t W (by omega) h)
   clear e98
   cases hU : upToF t L with
   | none =>
    rw [hU] at HU HSTEP
    have HS := Lib.hid (HSTEP.out rfl)
    unfold optV at HU
    clear hU HSTEP HHIT2
    go_wp2_with (first
     | (go_at_call 196; refine HTA.out.mono ?_; rintro e w7 ⟨v7, rfl, hr7, hb7, _⟩; obtain ⟨A7, c7, rfl⟩ := rd_vf hr7)
     | (go_at_call 208; refine (HU.out _ _ hr7).mono ?_; rintro e w8 ⟨rfl, hb8⟩))
    go_roundw
    case rel => exact ⟨j + 1, by omega, by go_num, by have := HY.out; congr 1; omega, (hbv.trans ((hb7.trans (hb8.mono hb7.size)).mono hbv.size)).alloc (by have := hbv.size; have := hb7.size; have := hb8.size; omega) _, by rw [show y0 - 9 * ((j + 1 : Nat) : Int) = y - 9 by have := HY.out; omega]; exact HS⟩
    case measure => simp [intOf]; omega
   | some x =>
    have HX2 := Lib.hid (HHIT2.out x hU)
    rw [hU] at HU
    unfold optV at HU
    clear hU HSTEP HHIT2
    obtain ⟨xa, xt⟩ := x
    dsimp only at *
    go_wp2_with (first
     | (go_at_call 196; refine HTA.out.mono ?_; rintro e w7 ⟨v7, rfl, hr7, hb7, _⟩; obtain ⟨A7, c7, rfl⟩ := rd_vf hr7)
     | (go_at_call 208; refine (HU.out _ _ hr7).mono ?_; rintro e w8 ⟨rfl, hb8⟩; have hb78 := hb7.trans (hb8.mono hb7.size); have r0 := (hb78.cell (p := ⟨w.heap.size + 1, 0, none⟩) hszv).trans (Rv.out 0 _ rfl); have r1 := (hb78.cell (p := ⟨w.heap.size + 1, 1, none⟩) hszv).trans (Rv.out 1 _ rfl); have r2 := (hb78.cell (p := ⟨w.heap.size + 1, 2, none⟩) hszv).trans (Rv.out 2 _ rfl); have r3 := (hb78.cell (p := ⟨w.heap.size + 1, 3, none⟩) hszv).trans (Rv.out 3 _ rfl); have rf := (fun i => (hb78.frozen (p := ⟨w.heap.size + 1, i, none⟩) hszv).trans (RFv.out i)); have hsz8 : w.heap.size + 1 < w8.heap.size := Nat.lt_of_lt_of_le hszv hb78.size))
    obtain ⟨s0, s1, s2, s3⟩ := set4 r0 r1 r2 r3 (.int .i64 xa) (.int .i64 xt.off) (.int .i64 xt.sv) (.string xt.nm) _ rfl
    have hB9 := set4_below (hbv0.trans (hb78.mono (by omega))) (Nat.le_succ _) (.int .i64 xa) (.int .i64 xt.off) (.int .i64 xt.sv) (.string xt.nm) _ rfl
    generalize (((w8.setCell ⟨w.heap.size + 1, 0, none⟩ (.int .i64 xa)).setCell ⟨w.heap.size + 1, 1, none⟩ (.int .i64 xt.off)).setCell ⟨w.heap.size + 1, 2, none⟩ (.int .i64 xt.sv)).setCell ⟨w.heap.size + 1, 3, none⟩ (.string xt.nm) = w9 at *
    have u0 := Lib.cell?_alloc_some (.cells #[.int .i64 xa, .int .i64 xt.off, .int .i64 xt.sv, .string xt.nm] 68) s0
    have u1 := Lib.cell?_alloc_some (.cells #[.int .i64 xa, .int .i64 xt.off, .int .i64 xt.sv, .string xt.nm] 68) s1
    have u2 := Lib.cell?_alloc_some (.cells #[.int .i64 xa, .int .i64 xt.off, .int .i64 xt.sv, .string xt.nm] 68) s2
    have u3 := Lib.cell?_alloc_some (.cells #[.int .i64 xa, .int .i64 xt.off, .int .i64 xt.sv, .string xt.nm] 68) s3
    have hB10 : Below w.heap.size w (w9.alloc (.cells #[.int .i64 xa, .int .i64 xt.off, .int .i64 xt.sv, .string xt.nm] 68)) := hB9.alloc hB9.size _
    generalize w9.alloc (.cells #[.int .i64 xa, .int .i64 xt.off, .int .i64 xt.sv, .string xt.nm] 68) = w10 at *
    exact bodyPost_ret (v := .tuple #[.agg #[.int .i64 xa, .int .i64 xt.off, .int .i64 xt.sv, .string xt.nm], .bool true]) (by simp [results, Tryz.results193, go_sem, u0, u1, u2, u3]) rfl ⟨by rw [HX2.out]; rfl, hB10⟩
  ·have HPE := Lib.hid (fun h => (ahead_end OK.out HYO.out HY0.out h))
   have hP3 : z.ahead t (y0 - 27) := by have := HP.out; rwa [show y = y0 - 27 by have := HY.out; omega] at this
   have HPX := Lib.hid (HPE.out hP3)
   have HTA := Lib.hid (tail_any z _ _ z.year (z.year + 9) wr (HM.out.on hbv0) (by omega) (HTT.out.on hbv0) (HRR.out.on hbv0) hfs hll (fun _ => OK.out) (by omega) (by omega) (by omega))
   unfold TailEnd at HTA
   unfold Zn.v at HTA
   have hLL : (z.tailL z.year (z.year + 9)).length ≤ 1000 := tailL_len z hll (by omega)
   generalize z.tailL z.year (z.year + 9) = L at *
   have HU := Lib.hid (fun W v h => upTo_any v L t W (by omega) h)
   clear hP3 HPE
   cases hU : upToF t L with
   | none =>
    rw [hU] at HU HPX
    have HX := Lib.hid ((HMISS.out HPX.out).trans HTP.out)
    unfold optV at HU
    clear hU HPX
    go_wp2_with (first
     | (go_at_call 196; refine HTA.out.mono ?_; rintro e w7 ⟨v7, rfl, hr7, hb7, _⟩; obtain ⟨A7, c7, rfl⟩ := rd_vf hr7)
     | (go_at_call 208; refine (HU.out _ _ hr7).mono ?_; rintro e w8 ⟨rfl, hb8⟩; have hb78 := hb7.trans (hb8.mono hb7.size); have hsz8 : w.heap.size + 1 < w8.heap.size := Nat.lt_of_lt_of_le hszv hb78.size; have hsz8' : w.heap.size < w8.heap.size := Nat.lt_of_succ_lt hsz8; have zw0 := (hb78.cell (p := ⟨w.heap.size, 0, none⟩) (by show w.heap.size < _; omega)).trans zv0; have zw1 := (hb78.cell (p := ⟨w.heap.size, 1, none⟩) (by show w.heap.size < _; omega)).trans zv1; have zw2 := (hb78.cell (p := ⟨w.heap.size, 2, none⟩) (by show w.heap.size < _; omega)).trans zv2; have zw3 := (hb78.cell (p := ⟨w.heap.size, 3, none⟩) (by show w.heap.size < _; omega)).trans zv3; have zw4 := (hb78.cell (p := ⟨w.heap.size, 4, none⟩) (by show w.heap.size < _; omega)).trans zv4; have zw5 := (hb78.cell (p := ⟨w.heap.size, 5, none⟩) (by show w.heap.size < _; omega)).trans zv5; have zw6 := (hb78.cell (p := ⟨w.heap.size, 6, none⟩) (by show w.heap.size < _; omega)).trans zv6; have zw7 := (hb78.cell (p := ⟨w.heap.size, 7, none⟩) (by show w.heap.size < _; omega)).trans zv7; have zw8 := (hb78.cell (p := ⟨w.heap.size, 8, none⟩) (by show w.heap.size < _; omega)).trans zv8)
     | fail)
    have hb8w : Below w.heap.size w (w8.alloc (.cells #[.int .i64 0, .int .i64 0, .int .i64 0, .string ⟨#[]⟩] 68)) := (hbv0.trans (hb78.mono (by omega))).alloc (by omega) _
    have hbv8 : Below wr.heap.size wr (w8.alloc (.cells #[.int .i64 0, .int .i64 0, .int .i64 0, .string ⟨#[]⟩] 68)) := hb78.alloc (by have := hb78.size; omega) _
    have Zs := Lib.hid (fun i u h => (hbv8.cell (p := ⟨w.heap.size, i, none⟩) (by show w.heap.size < _; omega)).trans (Zv.out i u h))
    have Rs := Lib.hid (fun i u h => (hbv8.cell (p := ⟨w.heap.size + 1, i, none⟩) hszv).trans (Rv.out i u h))
    have RFs := Lib.hid (fun i => (hbv8.frozen (p := ⟨w.heap.size + 1, i, none⟩) hszv).trans (RFv.out i))
    have hszs : w.heap.size + 1 < (w8.alloc (.cells #[.int .i64 0, .int .i64 0, .int .i64 0, .string ⟨#[]⟩] 68)).heap.size := by simp; omega
    generalize (w8.alloc (.cells #[.int .i64 0, .int .i64 0, .int .i64 0, .string ⟨#[]⟩] 68)) = wx at *
    refine (HSR.out wx hb8w).mono ?_
    rintro e ws ⟨rfl, hbs⟩
    have hbs0 : Below w.heap.size w ws := hb8w.trans (hbs.mono (by omega))
    have r0 := (hbs.cell (p := ⟨w.heap.size + 1, 0, none⟩) hszs).trans (Rs.out 0 _ rfl)
    have r1 := (hbs.cell (p := ⟨w.heap.size + 1, 1, none⟩) hszs).trans (Rs.out 1 _ rfl)
    have r2 := (hbs.cell (p := ⟨w.heap.size + 1, 2, none⟩) hszs).trans (Rs.out 2 _ rfl)
    have r3 := (hbs.cell (p := ⟨w.heap.size + 1, 3, none⟩) hszs).trans (Rs.out 3 _ rfl)
    have rf := fun i => (hbs.frozen (p := ⟨w.heap.size + 1, i, none⟩) hszs).trans (RFs.out i)
    have x4 := (hbs.cell (p := ⟨w.heap.size, 4, none⟩) (by show w.heap.size < _; omega)).trans (Zs.out 4 _ rfl)
    by_cases hk0 : 0 < k
    ·obtain ⟨k', rfl⟩ : ∃ k', k = k' + 1 := ⟨k - 1, by omega⟩
     have hlt : k' < z.table.length := by omega
     obtain ⟨g, off, hA, hg, hc⟩ : ∃ g off, AT = some ⟨g, off, none⟩ ∧ g < ws.heap.size ∧ ∀ i u, (Trn.cells z.table[k']!)[i]? = some u → ws.cell? ⟨g, off + k' * 4 + i, none⟩ = some u := by
      rcases HTT.out.on hbs0 with ⟨e, _⟩ | ⟨g, off, c', hv', hg, hc⟩
      ·rw [e] at hlt; simp at hlt
      ·injection hv' with e1 _ _
       exact ⟨g, off, e1, hg, fun i u hu => hc k' hlt i u hu⟩
     subst hA
     have e0 := hc 0 _ rfl
     have e1 := hc 1 _ rfl
     have e2 := hc 2 _ rfl
     have e3 := hc 3 _ rfl
     rw [Nat.add_zero] at e0
     have HX2 := Lib.hid (HX.out.trans (if_pos hk0))
     rw [Nat.add_sub_cancel] at HX2
     generalize z.table[k']! = x at *
     obtain ⟨xa, xt⟩ := x
     dsimp only at *
     clear hc
     go_wp2
     obtain ⟨s0, s1, s2, s3⟩ := set4 r0 r1 r2 r3 (.int .i64 xa) (.int .i64 xt.off) (.int .i64 xt.sv) (.string xt.nm) _ rfl
     have hB9 := set4_below hbs0 (Nat.le_succ _) (.int .i64 xa) (.int .i64 xt.off) (.int .i64 xt.sv) (.string xt.nm) _ rfl
     generalize ((((ws).setCell ⟨w.heap.size + 1, 0, none⟩ (.int .i64 xa)).setCell ⟨w.heap.size + 1, 1, none⟩ (.int .i64 xt.off)).setCell ⟨w.heap.size + 1, 2, none⟩ (.int .i64 xt.sv)).setCell ⟨w.heap.size + 1, 3, none⟩ (.string xt.nm) = w9 at *
     exact bodyPost_ret (v := .tuple #[.agg #[.int .i64 xa, .int .i64 xt.off, .int .i64 xt.sv, .string xt.nm], .bool true]) (by simp [results, Tryz.results193, go_sem, s0, s1, s2, s3]) rfl ⟨by rw [HX2.out]; rfl, hB9⟩
    ·have HX2 := Lib.hid (HX.out.trans (if_neg hk0))
     obtain rfl : k = 0 := by omega
     go_wp2
     obtain ⟨s0, s1, s2, s3⟩ := set4 r0 r1 r2 r3 (.int .i64 0) (.int .i64 0) (.int .i64 0) (.string ⟨#[]⟩) _ rfl
     have hB9 := set4_below hbs0 (Nat.le_succ _) (.int .i64 0) (.int .i64 0) (.int .i64 0) (.string ⟨#[]⟩) _ rfl
     generalize ((((ws).setCell ⟨w.heap.size + 1, 0, none⟩ (.int .i64 0)).setCell ⟨w.heap.size + 1, 1, none⟩ (.int .i64 0)).setCell ⟨w.heap.size + 1, 2, none⟩ (.int .i64 0)).setCell ⟨w.heap.size + 1, 3, none⟩ (.string ⟨#[]⟩) = w9 at *
     exact bodyPost_ret (v := .tuple #[.agg #[.int .i64 0, .int .i64 0, .int .i64 0, .string ⟨#[]⟩], .bool false]) (by simp [results, Tryz.results193, go_sem, s0, s1, s2, s3]) rfl ⟨by rw [HX2.out]; rfl, hB9⟩
   | some x =>
    rw [hU] at HU HPX
    have HX2 := Lib.hid (HHIT.out x HPX.out)
    unfold optV at HU
    clear hU HPX
    obtain ⟨xa, xt⟩ := x
    dsimp only at *
    go_wp2_with (first
     | (go_at_call 196; refine HTA.out.mono ?_; rintro e w7 ⟨v7, rfl, hr7, hb7, _⟩; obtain ⟨A7, c7, rfl⟩ := rd_vf hr7)
     | (go_at_call 208; refine (HU.out _ _ hr7).mono ?_; rintro e w8 ⟨rfl, hb8⟩; have hb78 := hb7.trans (hb8.mono hb7.size); have r0 := (hb78.cell (p := ⟨w.heap.size + 1, 0, none⟩) hszv).trans (Rv.out 0 _ rfl); have r1 := (hb78.cell (p := ⟨w.heap.size + 1, 1, none⟩) hszv).trans (Rv.out 1 _ rfl); have r2 := (hb78.cell (p := ⟨w.heap.size + 1, 2, none⟩) hszv).trans (Rv.out 2 _ rfl); have r3 := (hb78.cell (p := ⟨w.heap.size + 1, 3, none⟩) hszv).trans (Rv.out 3 _ rfl); have rf := (fun i => (hb78.frozen (p := ⟨w.heap.size + 1, i, none⟩) hszv).trans (RFv.out i)); have hsz8 : w.heap.size + 1 < w8.heap.size := Nat.lt_of_lt_of_le hszv hb78.size))
    obtain ⟨s0, s1, s2, s3⟩ := set4 r0 r1 r2 r3 (.int .i64 xa) (.int .i64 xt.off) (.int .i64 xt.sv) (.string xt.nm) _ rfl
    have hB9 := set4_below (hbv0.trans (hb78.mono (by omega))) (Nat.le_succ _) (.int .i64 xa) (.int .i64 xt.off) (.int .i64 xt.sv) (.string xt.nm) _ rfl
    generalize (((w8.setCell ⟨w.heap.size + 1, 0, none⟩ (.int .i64 xa)).setCell ⟨w.heap.size + 1, 1, none⟩ (.int .i64 xt.off)).setCell ⟨w.heap.size + 1, 2, none⟩ (.int .i64 xt.sv)).setCell ⟨w.heap.size + 1, 3, none⟩ (.string xt.nm) = w9 at *
    have u0 := Lib.cell?_alloc_some (.cells #[.int .i64 xa, .int .i64 xt.off, .int .i64 xt.sv, .string xt.nm] 68) s0
    have u1 := Lib.cell?_alloc_some (.cells #[.int .i64 xa, .int .i64 xt.off, .int .i64 xt.sv, .string xt.nm] 68) s1
    have u2 := Lib.cell?_alloc_some (.cells #[.int .i64 xa, .int .i64 xt.off, .int .i64 xt.sv, .string xt.nm] 68) s2
    have u3 := Lib.cell?_alloc_some (.cells #[.int .i64 xa, .int .i64 xt.off, .int .i64 xt.sv, .string xt.nm] 68) s3
    have hB10 : Below w.heap.size w (w9.alloc (.cells #[.int .i64 xa, .int .i64 xt.off, .int .i64 xt.sv, .string xt.nm] 68)) := hB9.alloc hB9.size _
    generalize w9.alloc (.cells #[.int .i64 xa, .int .i64 xt.off, .int .i64 xt.sv, .string xt.nm] 68) = w10 at *
    exact bodyPost_ret (v := .tuple #[.agg #[.int .i64 xa, .int .i64 xt.off, .int .i64 xt.sv, .string xt.nm], .bool true]) (by simp [results, Tryz.results193, go_sem, u0, u1, u2, u3]) rfl ⟨by rw [HX2.out]; rfl, hB10⟩
theorem lastAt_any (z : Zn) (vT vR : Value) (t : Int) (w : World) (hm : HasMax w) (hT : Rd Trn.cells 4 w vT z.table) (hR : Rd Rule.cells 11 w vR z.tail) (hfs : z.form.size < 4294967281) (hll : z.tail.length ≤ 12) (hv : z.valid = true) (ht : inT t = true) :
  Calls Tryz.prog 193 #[z.v vT vR, .int .i64 t] w fun e w' => e = .returned (optV (z.prevF t)) ∧ Below w.heap.size w w' := by
 unfold inT at ht
 simp only [Bool.and_eq_true, decide_eq_true_eq] at ht
 by_cases h0 : z.tail = []
 ·exact lastAt_table z vT vR t w hm hT hR hfs hll hv h0
 ·exact lastAt_tail z vT vR t w hm hT hR hfs hll hv ht.1 ht.2 h0
end Go.Proofs.YtdpbhjaicgkblaaGreatDoor
/- zone.typeAt, zone.At. Printed by gen_w14.py. -/
namespace Go.Proofs.YtdpbhjaicgkblaaGreatDoor
set_option linter.unusedSimpArgs false
set_option linter.unusedVariables false
open Go.ChangeShapes Go.WideShapes Go.ChangeAt Go.RowKit
def Typ.val (t : Typ) : Value := .agg #[.int .i64 t.off, .int .i64 t.sv, .string t.nm]
set_option maxRecDepth 100000 in
set_option maxHeartbeats 4000000 in
theorem typeAt_any (z : Zn) (vT vR : Value) (t : Int) (w : World) (hm : HasMax w) (hT : Rd Trn.cells 4 w vT z.table) (hR : Rd Rule.cells 11 w vR z.tail) (hfs : z.form.size < 4294967281) (hll : z.tail.length ≤ 12) (hv : z.valid = true) (ht : inT t = true) :
  Calls Tryz.prog 177 #[z.v vT vR, .int .i64 t] w fun e w' => e = .returned (z.typF t).val ∧ Below w.heap.size w w' := by
 have HL := Lib.hid (fun W (hb : Below w.heap.size w W) => lastAt_any z vT vR t W (hm.on hb) (hT.on hb) (hR.on hb) hfs hll hv ht)
 obtain ⟨AT, cT, rfl⟩ := rd_vf hT
 obtain ⟨AR, cR, rfl⟩ := rd_vf hR
 clear hT hR hm hv ht
 unfold Zn.v at HL ⊢
 have HZC := Lib.hid (alloc_cells w [.string z.nm, .int .i64 z.first.off, .int .i64 z.first.sv, .string z.first.nm, .slice AT z.table.length cT, .slice AR z.tail.length cR, .int .i64 z.off, .string z.form, .int .i64 z.year] 65)
 have HBZ := Lib.hid (show Below w.heap.size w (w.alloc (.cells #[.string z.nm, .int .i64 z.first.off, .int .i64 z.first.sv, .string z.first.nm, .slice AT z.table.length cT, .slice AR z.tail.length cR, .int .i64 z.off, .string z.form, .int .i64 z.year] 65)) from (Below.refl _ _).alloc (Nat.le_refl _) _)
 have hbW : Below w.heap.size w ((w.alloc (.cells #[.string z.nm, .int .i64 z.first.off, .int .i64 z.first.sv, .string z.first.nm, .slice AT z.table.length cT, .slice AR z.tail.length cR, .int .i64 z.off, .string z.form, .int .i64 z.year] 65)).alloc (.cells #[.int .i64 0, .int .i64 0, .string ⟨#[]⟩] 61)) := HBZ.out.alloc (by simp) _
 have hszW : w.heap.size + 1 < ((w.alloc (.cells #[.string z.nm, .int .i64 z.first.off, .int .i64 z.first.sv, .string z.first.nm, .slice AT z.table.length cT, .slice AR z.tail.length cR, .int .i64 z.off, .string z.form, .int .i64 z.year] 65)).alloc (.cells #[.int .i64 0, .int .i64 0, .string ⟨#[]⟩] 61)).heap.size := by simp
 have rc := alloc_cells (w.alloc (.cells #[.string z.nm, .int .i64 z.first.off, .int .i64 z.first.sv, .string z.first.nm, .slice AT z.table.length cT, .slice AR z.tail.length cR, .int .i64 z.off, .string z.form, .int .i64 z.year] 65)) [.int .i64 0, .int .i64 0, .string ⟨#[]⟩] 61
 have rf := alloc_frozen (w.alloc (.cells #[.string z.nm, .int .i64 z.first.off, .int .i64 z.first.sv, .string z.first.nm, .slice AT z.table.length cT, .slice AR z.tail.length cR, .int .i64 z.off, .string z.form, .int .i64 z.year] 65)) #[.int .i64 0, .int .i64 0, .string ⟨#[]⟩] 61
 rw [World.size_alloc] at rc rf
 have zc : ∀ i u, [Value.string z.nm, .int .i64 z.first.off, .int .i64 z.first.sv, .string z.first.nm, .slice AT z.table.length cT, .slice AR z.tail.length cR, .int .i64 z.off, .string z.form, .int .i64 z.year][i]? = some u → ((w.alloc (.cells #[.string z.nm, .int .i64 z.first.off, .int .i64 z.first.sv, .string z.first.nm, .slice AT z.table.length cT, .slice AR z.tail.length cR, .int .i64 z.off, .string z.form, .int .i64 z.year] 65)).alloc (.cells #[.int .i64 0, .int .i64 0, .string ⟨#[]⟩] 61)).cell? ⟨w.heap.size, i, none⟩ = some u := fun i u h => Lib.cell?_alloc_some _ (HZC.out i u h)
 have RC := Lib.hid rc
 have RF := Lib.hid rf
 have ZC := Lib.hid zc
 have HBW := Lib.hid hbW
 clear rc rf zc hbW HZC HBZ
 cases hp : z.prevF t with
 | none =>
  have HX := Lib.hid (show z.typF t = z.first by unfold Zn.typF; rw [hp])
  rw [hp] at HL
  unfold optV at HL
  clear hp
  rw [HX.out]
  unfold Typ.val
  have c0 := ZC.out 0 _ rfl
  have c1 := ZC.out 1 _ rfl
  have c2 := ZC.out 2 _ rfl
  have c3 := ZC.out 3 _ rfl
  have c4 := ZC.out 4 _ rfl
  have c5 := ZC.out 5 _ rfl
  have c6 := ZC.out 6 _ rfl
  have c7 := ZC.out 7 _ rfl
  have c8 := ZC.out 8 _ rfl
  go_enter Tryz.func177, Tryz.ntmps177
  go_wp2_with fail
  generalize ((w.alloc (.cells #[.string z.nm, .int .i64 z.first.off, .int .i64 z.first.sv, .string z.first.nm, .slice AT z.table.length cT, .slice AR z.tail.length cR, .int .i64 z.off, .string z.form, .int .i64 z.year] 65)).alloc (.cells #[.int .i64 0, .int .i64 0, .string ⟨#[]⟩] 61)) = W at *
  go_wp2_with (go_at_call 193; refine (HL.out _ HBW.out).mono ?_; rintro e w3 ⟨rfl, hb3⟩; have k0 := (hb3.cell (p := ⟨w.heap.size + 1, 0, none⟩) hszW).trans (RC.out 0 _ rfl); have k1 := (hb3.cell (p := ⟨w.heap.size + 1, 1, none⟩) hszW).trans (RC.out 1 _ rfl); have k2 := (hb3.cell (p := ⟨w.heap.size + 1, 2, none⟩) hszW).trans (RC.out 2 _ rfl); have kf := (fun i => (hb3.frozen (p := ⟨w.heap.size + 1, i, none⟩) hszW).trans (RF.out i)); have hsz3 : w.heap.size + 1 < w3.heap.size := Nat.lt_of_lt_of_le hszW hb3.size; have hsz3' : w.heap.size < w3.heap.size := Nat.lt_of_succ_lt hsz3; have d1 := (hb3.cell (p := ⟨w.heap.size, 1, none⟩) (by show w.heap.size < _; omega)).trans c1; have d2 := (hb3.cell (p := ⟨w.heap.size, 2, none⟩) (by show w.heap.size < _; omega)).trans c2; have d3 := (hb3.cell (p := ⟨w.heap.size, 3, none⟩) (by show w.heap.size < _; omega)).trans c3)
  obtain ⟨s0, s1, s2⟩ := set3 k0 k1 k2 (.int .i64 z.first.off) (.int .i64 z.first.sv) (.string z.first.nm)
  have hB9 := set3_below (HBW.out.trans (hb3.mono (by omega))) (Nat.le_succ _) (.int .i64 z.first.off) (.int .i64 z.first.sv) (.string z.first.nm)
  generalize ((w3.setCell ⟨w.heap.size + 1, 0, none⟩ (.int .i64 z.first.off)).setCell ⟨w.heap.size + 1, 1, none⟩ (.int .i64 z.first.sv)).setCell ⟨w.heap.size + 1, 2, none⟩ (.string z.first.nm) = w9 at *
  have u0 := Lib.cell?_alloc_some (.cells #[.int .i64 0, .int .i64 0, .int .i64 0, .string ⟨#[]⟩] 68) s0
  have u1 := Lib.cell?_alloc_some (.cells #[.int .i64 0, .int .i64 0, .int .i64 0, .string ⟨#[]⟩] 68) s1
  have u2 := Lib.cell?_alloc_some (.cells #[.int .i64 0, .int .i64 0, .int .i64 0, .string ⟨#[]⟩] 68) s2
  have hB10 : Below w.heap.size w (w9.alloc (.cells #[.int .i64 0, .int .i64 0, .int .i64 0, .string ⟨#[]⟩] 68)) := hB9.alloc hB9.size _
  generalize w9.alloc (.cells #[.int .i64 0, .int .i64 0, .int .i64 0, .string ⟨#[]⟩] 68) = w10 at *
  exact bodyPost_ret (v := .agg #[.int .i64 z.first.off, .int .i64 z.first.sv, .string z.first.nm]) (by simp [results, Tryz.results177, go_sem, u0, u1, u2]) rfl ⟨rfl, hB10⟩
 | some x =>
  have HX := Lib.hid (show z.typF t = x.ty by unfold Zn.typF; rw [hp])
  rw [hp] at HL
  unfold optV at HL
  clear hp
  rw [HX.out]
  unfold Typ.val
  obtain ⟨xa, xt⟩ := x
  dsimp only at *
  go_enter Tryz.func177, Tryz.ntmps177
  go_wp2_with fail
  generalize ((w.alloc (.cells #[.string z.nm, .int .i64 z.first.off, .int .i64 z.first.sv, .string z.first.nm, .slice AT z.table.length cT, .slice AR z.tail.length cR, .int .i64 z.off, .string z.form, .int .i64 z.year] 65)).alloc (.cells #[.int .i64 0, .int .i64 0, .string ⟨#[]⟩] 61)) = W at *
  go_wp2_with (go_at_call 193; refine (HL.out _ HBW.out).mono ?_; rintro e w3 ⟨rfl, hb3⟩; have k0 := (hb3.cell (p := ⟨w.heap.size + 1, 0, none⟩) hszW).trans (RC.out 0 _ rfl); have k1 := (hb3.cell (p := ⟨w.heap.size + 1, 1, none⟩) hszW).trans (RC.out 1 _ rfl); have k2 := (hb3.cell (p := ⟨w.heap.size + 1, 2, none⟩) hszW).trans (RC.out 2 _ rfl); have kf := (fun i => (hb3.frozen (p := ⟨w.heap.size + 1, i, none⟩) hszW).trans (RF.out i)); have hsz3 : w.heap.size + 1 < w3.heap.size := Nat.lt_of_lt_of_le hszW hb3.size)
  obtain ⟨s0, s1, s2⟩ := set3 k0 k1 k2 (.int .i64 xt.off) (.int .i64 xt.sv) (.string xt.nm)
  have hB9 := set3_below (HBW.out.trans (hb3.mono (by omega))) (Nat.le_succ _) (.int .i64 xt.off) (.int .i64 xt.sv) (.string xt.nm)
  generalize ((w3.setCell ⟨w.heap.size + 1, 0, none⟩ (.int .i64 xt.off)).setCell ⟨w.heap.size + 1, 1, none⟩ (.int .i64 xt.sv)).setCell ⟨w.heap.size + 1, 2, none⟩ (.string xt.nm) = w9 at *
  have u0 := Lib.cell?_alloc_some (.cells #[.int .i64 xa, .int .i64 xt.off, .int .i64 xt.sv, .string xt.nm] 68) s0
  have u1 := Lib.cell?_alloc_some (.cells #[.int .i64 xa, .int .i64 xt.off, .int .i64 xt.sv, .string xt.nm] 68) s1
  have u2 := Lib.cell?_alloc_some (.cells #[.int .i64 xa, .int .i64 xt.off, .int .i64 xt.sv, .string xt.nm] 68) s2
  have hB10 : Below w.heap.size w (w9.alloc (.cells #[.int .i64 xa, .int .i64 xt.off, .int .i64 xt.sv, .string xt.nm] 68)) := hB9.alloc hB9.size _
  generalize w9.alloc (.cells #[.int .i64 xa, .int .i64 xt.off, .int .i64 xt.sv, .string xt.nm] 68) = w10 at *
  exact bodyPost_ret (v := .agg #[.int .i64 xt.off, .int .i64 xt.sv, .string xt.nm]) (by simp [results, Tryz.results177, go_sem, u0, u1, u2]) rfl ⟨rfl, hB10⟩
def Zn.atV (z : Zn) (t : Int) : Typ × Int := if z.valid = false then (default, 1) else if inT t = false then (default, 2) else (z.typF t, 0)
def atR (p : Typ × Int) : Value := .tuple #[p.1.val, .int .i64 p.2]
set_option maxRecDepth 100000 in
set_option maxHeartbeats 4000000 in
theorem zAt_any (z : Zn) (vT vR : Value) (t : Int) (w : World) (hm : HasMax w) (hT : Rd Trn.cells 4 w vT z.table) (hR : Rd Rule.cells 11 w vR z.tail) (hfs : z.form.size < 4294967281) (hll : z.tail.length ≤ 12 ∨ 100 < z.tail.length) :
  Calls Tryz.prog 155 #[z.v vT vR, .int .i64 t] w fun e w' => e = .returned (atR (z.atV t)) ∧ Below w.heap.size w w' := by
 have HV := Lib.hid (fun W (hb : Below w.heap.size w W) => Valid_zone z vT vR W (hm.on hb) (hT.on hb) (hR.on hb) hfs hll)
 have HI := Lib.hid (fun W => instant_any t W)
 have HTY := Lib.hid (fun hv ht W (hb : Below w.heap.size w W) => typeAt_any z vT vR t W (hm.on hb) (hT.on hb) (hR.on hb) hfs (valid_len hv hll) hv ht)
 obtain ⟨AT, cT, rfl⟩ := rd_vf hT
 obtain ⟨AR, cR, rfl⟩ := rd_vf hR
 clear hT hR hm
 unfold Zn.v at HV HTY ⊢
 have HZC := Lib.hid (alloc_cells w [.string z.nm, .int .i64 z.first.off, .int .i64 z.first.sv, .string z.first.nm, .slice AT z.table.length cT, .slice AR z.tail.length cR, .int .i64 z.off, .string z.form, .int .i64 z.year] 65)
 have HBZ := Lib.hid (show Below w.heap.size w (w.alloc (.cells #[.string z.nm, .int .i64 z.first.off, .int .i64 z.first.sv, .string z.first.nm, .slice AT z.table.length cT, .slice AR z.tail.length cR, .int .i64 z.off, .string z.form, .int .i64 z.year] 65)) from (Below.refl _ _).alloc (Nat.le_refl _) _)
 have hbW : Below w.heap.size w ((w.alloc (.cells #[.string z.nm, .int .i64 z.first.off, .int .i64 z.first.sv, .string z.first.nm, .slice AT z.table.length cT, .slice AR z.tail.length cR, .int .i64 z.off, .string z.form, .int .i64 z.year] 65)).alloc (.cells #[.int .i64 0, .int .i64 0, .string ⟨#[]⟩] 61)) := HBZ.out.alloc (by simp) _
 have hszW : w.heap.size + 1 < ((w.alloc (.cells #[.string z.nm, .int .i64 z.first.off, .int .i64 z.first.sv, .string z.first.nm, .slice AT z.table.length cT, .slice AR z.tail.length cR, .int .i64 z.off, .string z.form, .int .i64 z.year] 65)).alloc (.cells #[.int .i64 0, .int .i64 0, .string ⟨#[]⟩] 61)).heap.size := by simp
 have rc := alloc_cells (w.alloc (.cells #[.string z.nm, .int .i64 z.first.off, .int .i64 z.first.sv, .string z.first.nm, .slice AT z.table.length cT, .slice AR z.tail.length cR, .int .i64 z.off, .string z.form, .int .i64 z.year] 65)) [.int .i64 0, .int .i64 0, .string ⟨#[]⟩] 61
 have rf := alloc_frozen (w.alloc (.cells #[.string z.nm, .int .i64 z.first.off, .int .i64 z.first.sv, .string z.first.nm, .slice AT z.table.length cT, .slice AR z.tail.length cR, .int .i64 z.off, .string z.form, .int .i64 z.year] 65)) #[.int .i64 0, .int .i64 0, .string ⟨#[]⟩] 61
 rw [World.size_alloc] at rc rf
 have zc : ∀ i u, [Value.string z.nm, .int .i64 z.first.off, .int .i64 z.first.sv, .string z.first.nm, .slice AT z.table.length cT, .slice AR z.tail.length cR, .int .i64 z.off, .string z.form, .int .i64 z.year][i]? = some u → ((w.alloc (.cells #[.string z.nm, .int .i64 z.first.off, .int .i64 z.first.sv, .string z.first.nm, .slice AT z.table.length cT, .slice AR z.tail.length cR, .int .i64 z.off, .string z.form, .int .i64 z.year] 65)).alloc (.cells #[.int .i64 0, .int .i64 0, .string ⟨#[]⟩] 61)).cell? ⟨w.heap.size, i, none⟩ = some u := fun i u h => Lib.cell?_alloc_some _ (HZC.out i u h)
 have RC := Lib.hid rc
 have RF := Lib.hid rf
 have ZC := Lib.hid zc
 have HBW := Lib.hid hbW
 clear rc rf zc hbW HZC HBZ
 have c0 := ZC.out 0 _ rfl
 have c1 := ZC.out 1 _ rfl
 have c2 := ZC.out 2 _ rfl
 have c3 := ZC.out 3 _ rfl
 have c4 := ZC.out 4 _ rfl
 have c5 := ZC.out 5 _ rfl
 have c6 := ZC.out 6 _ rfl
 have c7 := ZC.out 7 _ rfl
 have c8 := ZC.out 8 _ rfl
 cases hv : z.valid
 ·have HX := Lib.hid (show z.atV t = (default, 1) from if_pos hv)
  rw [hv] at HV
  clear hv HTY
  go_enter Tryz.func155, Tryz.ntmps155
  go_wp2_with fail
  generalize ((w.alloc (.cells #[.string z.nm, .int .i64 z.first.off, .int .i64 z.first.sv, .string z.first.nm, .slice AT z.table.length cT, .slice AR z.tail.length cR, .int .i64 z.off, .string z.form, .int .i64 z.year] 65)).alloc (.cells #[.int .i64 0, .int .i64 0, .string ⟨#[]⟩] 61)) = W at *
  go_wp2_with (go_at_call 99; refine (HV.out _ HBW.out).mono ?_; rintro e w3 ⟨rfl, hb3⟩; have h30 : Below w.heap.size w w3 := HBW.out.trans (hb3.mono (Nat.le_of_succ_le (Nat.le_of_succ_le hszW))); have hsz3 : w.heap.size + 1 < w3.heap.size := Nat.lt_of_lt_of_le hszW hb3.size; have k0 := (hb3.cell (p := ⟨w.heap.size + 1, 0, none⟩) hszW).trans (RC.out 0 _ rfl); have k1 := (hb3.cell (p := ⟨w.heap.size + 1, 1, none⟩) hszW).trans (RC.out 1 _ rfl); have k2 := (hb3.cell (p := ⟨w.heap.size + 1, 2, none⟩) hszW).trans (RC.out 2 _ rfl); have kf := (fun i => (hb3.frozen (p := ⟨w.heap.size + 1, i, none⟩) hszW).trans (RF.out i)); have zz := (fun i u h => (hb3.cell (p := ⟨w.heap.size, i, none⟩) (Nat.lt_of_succ_lt hszW)).trans (ZC.out i u h)); have d0 := zz 0 _ rfl; have d1 := zz 1 _ rfl; have d2 := zz 2 _ rfl; have d3 := zz 3 _ rfl; have d4 := zz 4 _ rfl; have d5 := zz 5 _ rfl; have d6 := zz 6 _ rfl; have d7 := zz 7 _ rfl; have d8 := zz 8 _ rfl; clear zz)
  obtain ⟨s0, s1, s2⟩ := set3 k0 k1 k2 (.int .i64 0) (.int .i64 0) (.string ⟨#[]⟩)
  have hB9 := set3_below (h30) (Nat.le_succ _) (.int .i64 0) (.int .i64 0) (.string ⟨#[]⟩)
  generalize ((w3.setCell ⟨w.heap.size + 1, 0, none⟩ (.int .i64 0)).setCell ⟨w.heap.size + 1, 1, none⟩ (.int .i64 0)).setCell ⟨w.heap.size + 1, 2, none⟩ (.string ⟨#[]⟩) = w9 at *
  exact bodyPost_ret (v := .tuple #[.agg #[.int .i64 0, .int .i64 0, .string ⟨#[]⟩], .int .i64 1]) (by simp [results, Tryz.results155, go_sem, s0, s1, s2]) rfl ⟨by rw [HX.out]; rfl, hB9⟩
 ·have HVV := Lib.hid hv
  rw [hv] at HV
  cases ht : inT t
  ·have HX := Lib.hid (show z.atV t = (default, 2) by unfold Zn.atV; rw [if_neg (by rw [hv]; decide), if_pos ht])
   rw [ht] at HI
   clear hv ht HTY
   go_enter Tryz.func155, Tryz.ntmps155
   go_wp2_with fail
   generalize ((w.alloc (.cells #[.string z.nm, .int .i64 z.first.off, .int .i64 z.first.sv, .string z.first.nm, .slice AT z.table.length cT, .slice AR z.tail.length cR, .int .i64 z.off, .string z.form, .int .i64 z.year] 65)).alloc (.cells #[.int .i64 0, .int .i64 0, .string ⟨#[]⟩] 61)) = W at *
   go_wp2_with (first | (go_at_call 99; refine (HV.out _ HBW.out).mono ?_; rintro e w3 ⟨rfl, hb3⟩; have h30 : Below w.heap.size w w3 := HBW.out.trans (hb3.mono (Nat.le_of_succ_le (Nat.le_of_succ_le hszW))); have hsz3 : w.heap.size + 1 < w3.heap.size := Nat.lt_of_lt_of_le hszW hb3.size; have k0 := (hb3.cell (p := ⟨w.heap.size + 1, 0, none⟩) hszW).trans (RC.out 0 _ rfl); have k1 := (hb3.cell (p := ⟨w.heap.size + 1, 1, none⟩) hszW).trans (RC.out 1 _ rfl); have k2 := (hb3.cell (p := ⟨w.heap.size + 1, 2, none⟩) hszW).trans (RC.out 2 _ rfl); have kf := (fun i => (hb3.frozen (p := ⟨w.heap.size + 1, i, none⟩) hszW).trans (RF.out i)); have zz := (fun i u h => (hb3.cell (p := ⟨w.heap.size, i, none⟩) (Nat.lt_of_succ_lt hszW)).trans (ZC.out i u h)); have d0 := zz 0 _ rfl; have d1 := zz 1 _ rfl; have d2 := zz 2 _ rfl; have d3 := zz 3 _ rfl; have d4 := zz 4 _ rfl; have d5 := zz 5 _ rfl; have d6 := zz 6 _ rfl; have d7 := zz 7 _ rfl; have d8 := zz 8 _ rfl; clear zz) | (go_at_call 176; refine (HI.out _).mono ?_; rintro e w4 ⟨rfl, rfl⟩))
   obtain ⟨s0, s1, s2⟩ := set3 k0 k1 k2 (.int .i64 0) (.int .i64 0) (.string ⟨#[]⟩)
   have hB9 := set3_below (h30) (Nat.le_succ _) (.int .i64 0) (.int .i64 0) (.string ⟨#[]⟩)
   generalize ((w3.setCell ⟨w.heap.size + 1, 0, none⟩ (.int .i64 0)).setCell ⟨w.heap.size + 1, 1, none⟩ (.int .i64 0)).setCell ⟨w.heap.size + 1, 2, none⟩ (.string ⟨#[]⟩) = w9 at *
   exact bodyPost_ret (v := .tuple #[.agg #[.int .i64 0, .int .i64 0, .string ⟨#[]⟩], .int .i64 2]) (by simp [results, Tryz.results155, go_sem, s0, s1, s2]) rfl ⟨by rw [HX.out]; rfl, hB9⟩
  ·have HX := Lib.hid (show z.atV t = (z.typF t, 0) by unfold Zn.atV; rw [if_neg (by rw [hv]; decide), if_neg (by rw [ht]; decide)])
   have HTA := Lib.hid (HTY.out hv ht)
   rw [ht] at HI
   clear hv ht HTY
   unfold Typ.val at HTA
   generalize z.typF t = ty at *
   obtain ⟨ta, tb, tn⟩ := ty
   dsimp only at *
   go_enter Tryz.func155, Tryz.ntmps155
   go_wp2_with fail
   generalize ((w.alloc (.cells #[.string z.nm, .int .i64 z.first.off, .int .i64 z.first.sv, .string z.first.nm, .slice AT z.table.length cT, .slice AR z.tail.length cR, .int .i64 z.off, .string z.form, .int .i64 z.year] 65)).alloc (.cells #[.int .i64 0, .int .i64 0, .string ⟨#[]⟩] 61)) = W at *
   go_wp2_with (first | (go_at_call 99; refine (HV.out _ HBW.out).mono ?_; rintro e w3 ⟨rfl, hb3⟩; have h30 : Below w.heap.size w w3 := HBW.out.trans (hb3.mono (Nat.le_of_succ_le (Nat.le_of_succ_le hszW))); have hsz3 : w.heap.size + 1 < w3.heap.size := Nat.lt_of_lt_of_le hszW hb3.size; have k0 := (hb3.cell (p := ⟨w.heap.size + 1, 0, none⟩) hszW).trans (RC.out 0 _ rfl); have k1 := (hb3.cell (p := ⟨w.heap.size + 1, 1, none⟩) hszW).trans (RC.out 1 _ rfl); have k2 := (hb3.cell (p := ⟨w.heap.size + 1, 2, none⟩) hszW).trans (RC.out 2 _ rfl); have kf := (fun i => (hb3.frozen (p := ⟨w.heap.size + 1, i, none⟩) hszW).trans (RF.out i)); have zz := (fun i u h => (hb3.cell (p := ⟨w.heap.size, i, none⟩) (Nat.lt_of_succ_lt hszW)).trans (ZC.out i u h)); have d0 := zz 0 _ rfl; have d1 := zz 1 _ rfl; have d2 := zz 2 _ rfl; have d3 := zz 3 _ rfl; have d4 := zz 4 _ rfl; have d5 := zz 5 _ rfl; have d6 := zz 6 _ rfl; have d7 := zz 7 _ rfl; have d8 := zz 8 _ rfl; clear zz) | (go_at_call 176; refine (HI.out _).mono ?_; rintro e w4 ⟨rfl, rfl⟩) | (go_at_call 177; refine (HTA.out _ h30).mono ?_; rintro e w5 ⟨rfl, hb5⟩; have m0 := (hb5.cell (p := ⟨w.heap.size + 1, 0, none⟩) hsz3).trans (k0); have m1 := (hb5.cell (p := ⟨w.heap.size + 1, 1, none⟩) hsz3).trans (k1); have m2 := (hb5.cell (p := ⟨w.heap.size + 1, 2, none⟩) hsz3).trans (k2); have mf := (fun i => (hb5.frozen (p := ⟨w.heap.size + 1, i, none⟩) hsz3).trans (kf i))))
   obtain ⟨s0, s1, s2⟩ := set3 m0 m1 m2 (.int .i64 ta) (.int .i64 tb) (.string tn)
   have hB9 := set3_below (h30.trans (hb5.mono (by omega))) (Nat.le_succ _) (.int .i64 ta) (.int .i64 tb) (.string tn)
   generalize ((w5.setCell ⟨w.heap.size + 1, 0, none⟩ (.int .i64 ta)).setCell ⟨w.heap.size + 1, 1, none⟩ (.int .i64 tb)).setCell ⟨w.heap.size + 1, 2, none⟩ (.string tn) = w9 at *
   exact bodyPost_ret (v := .tuple #[.agg #[.int .i64 ta, .int .i64 tb, .string tn], .int .i64 0]) (by simp [results, Tryz.results155, go_sem, s0, s1, s2]) rfl ⟨by rw [HX.out]; rfl, hB9⟩
end Go.Proofs.YtdpbhjaicgkblaaGreatDoor

/- slices.Contains and slices.IsSortedFunc at events, and the comparison of the law YearruleRanges. -/
import Derived.Test.YtjpjmlljgcpbkaaGreatStable4
import Derived.Test.YtjpjmlljgcpbkaaGreatEqE
import Derived.Test.YtjpjmlljgcpbkaaGreatSpaced
import Derived.Shelf.SlicesQ.Contains
namespace Go.Proofs.YtjpjmlljgcpbkaaGreat
set_option linter.unusedSimpArgs false
set_option linter.unusedVariables false
open Go.ChangeShapes Go.WideShapes Go.ChangeAt Go.RowKit Go.Sort

theorem eqE : Go.Proofs.EqlAt Tryz.prog 44 (fun x => .agg (encE x).toArray) (fun x y => x.1 == y.1 && x.2 == y.2) := by
  refine ⟨fun x y w => ?_, Go.Proofs.GuardAt.agg _ (by kernel_rfl)⟩
  have u3 := Tryz.underlying3
  have hS : Tryz.prog.underlying 44 = some (.struct (Tryz.prog.fieldsOf 44)) := by kernel_rfl
  have hp : Tryz.prog.stoodInHeld 44 = false := by kernel_rfl
  have a3 : ∀ w, (isAgg 3).run Tryz.prog w = .ok false w := fun w => by kernel_rfl
  have z3 : ∀ w, (Go.sizeOf 3).run Tryz.prog w = .ok 1 w := fun w => by kernel_rfl
  simp only [encE]
  rw [run_eql_struct, show (10000 : Nat) = 9999 + 1 from rfl, run_equalIn_agg w 9999 44 _ _ hS hp]
  simp only [Program.fieldsOf, Tryz.underlying44]
  go_simp
  by_cases h1 : x.fst = y.fst <;> by_cases h2 : x.snd = y.snd <;> simp [h1, h2]
theorem ContE_yes (es : List (Int × Int)) (x : Int × Int) (v : Value) (w : World) (hl : es.length ≤ 1000000) (h : Rd encE 2 w v es) (hx : x ∈ es) :
    Calls Tryz.prog 27 #[v, .agg #[.int .i64 x.1, .int .i64 x.2]] w fun e w' => e = .returned (.bool true) ∧ Below w.heap.size w w' := by
  rcases h with ⟨rfl, A, c, rfl⟩ | ⟨b1, o1, c1, rfl, hg1, hc1⟩
  · cases hx
  · have h := Tryz.slices_Contains 2 isAggE sizeOfE encE encE_len _ eqE b1 o1 es.length c1 es x w (Nat.le_refl _) (by omega) hc1
    rw [List.take_length] at h
    have ha : (es.any fun y : Int × Int => x.1 == y.1 && x.2 == y.2) = true := List.any_eq_true.2 ⟨x, hx, by simp⟩
    rw [ha] at h
    exact h

/-- the law's own comparison -/
def cmpR (x y : Int × Int) : Int := if x.1 = y.1 then wrap64 (x.2 - y.2) else wrap64 (x.1 - y.1)
theorem grown_2 (w : World) (a b : Obj) : ∃ q os', (w.alloc a).alloc b = Sort.grow (w.drewN q) os' := ⟨0, #[a, b], by rw [Sort.alloc_eq_grow, Sort.alloc_eq_grow, Sort.grow_grow]; rfl⟩
theorem cmpR_any (x y : Int × Int) (w : World) :
    Calls Tryz.prog 29 #[.agg #[.int .i64 x.1, .int .i64 x.2], .agg #[.int .i64 y.1, .int .i64 y.2]] w fun e w' => e = .returned (.int .i64 (cmpR x y)) ∧ ∃ q os', w' = Sort.grow (w.drewN q) os' := by
  obtain ⟨x1, x2⟩ := x
  obtain ⟨y1, y2⟩ := y
  unfold cmpR
  dsimp only
  by_cases h : x1 = y1
  · rw [if_pos h]
    have hb : (x1 != y1) = false := by simp [h]
    clear h
    go_enter Tryz.func29, Tryz.ntmps29
    go_wp2
    go_ret
    exact ⟨rfl, grown_2 _ _ _⟩
  · rw [if_neg h]
    have hb : (x1 != y1) = true := by simp [h]
    clear h
    go_enter Tryz.func29, Tryz.ntmps29
    go_wp2
    go_ret
    exact ⟨rfl, grown_2 _ _ _⟩
theorem cmpR_le {x y : Int × Int} (h : leE x y = true) (hx : -300000000000 ≤ x.1 ∧ x.1 ≤ 300000000000) (hy : -300000000000 ≤ y.1 ∧ y.1 ≤ 300000000000) (hx2 : 0 ≤ x.2 ∧ x.2 ≤ 300000000000) (hy2 : 0 ≤ y.2 ∧ y.2 ≤ 300000000000) : 0 ≤ cmpR y x := by
  simp [leE, ltE] at h
  unfold cmpR wrap64
  split <;> omega

section
variable {α : Type} [Inhabited α] {k : Nat} {enc : α → List Value}
set_option maxHeartbeats 2000000 in
set_option maxRecDepth 100000 in
theorem IsSorted_w (hk : ∀ x, (enc x).length = k) (zE : ∀ w, (Go.sizeOf 44).run Tryz.prog w = .ok k w) (cf : α → α → Int) (g : Nat) (cb : Array Value) (eg : ∀ args w, (callFunc g args).run Tryz.prog w = .ok (.enter g args) w)
    (hcmp : ∀ x y W, Calls Tryz.prog g (#[.agg (enc x).toArray, .agg (enc y).toArray] ++ cb) W fun e w' => e = .returned (.int .i64 (cf x y)) ∧ ∃ q os', w' = Sort.grow (W.drewN q) os')
    (blk off c : Nat) (es : List α) (w : World) (hb : blk < w.heap.size) (hl : es.length ≤ 1000000) (h0 : 0 < es.length) (hc : ∀ j, j < es.length → ∀ i u, (enc es[j]!)[i]? = some u → w.cell? ⟨blk, off + j * k + i, none⟩ = some u)
    (hs : ∀ j, j + 1 < es.length → 0 ≤ cf es[j + 1]! es[j]!) :
    Calls Tryz.prog 28 #[.slice (some ⟨blk, off, none⟩) es.length c, .func (.func g) #[] cb] w fun e w' => e = .returned (.bool true) ∧ Below w.heap.size w w' := by
  have aE := aggE
  have mixed : Tryz.prog.follows .mixedOrders = true := by kernel_rfl
  have HC := Lib.hid hc
  have HS := Lib.hid hs
  have HP := Lib.hid hcmp
  clear hc hs hcmp
  go_enter Tryz.func28, Tryz.ntmps28
  go_wp2
  go_loopw [5] (fun i wr => ∃ m : Nat, m < es.length ∧ i = .int .i64 m ∧ Below w.heap.size w wr) (fun i _ => (intOf i).toNat)
  case atStart => exact ⟨es.length - 1, by omega, vint (by omega), Below.refl _ _⟩
  case round =>
    obtain ⟨m, hm, rfl, hbw⟩ := hrel
    by_cases hz : 0 < m
    · obtain ⟨q, hq⟩ : ∃ q, m = q + 1 := ⟨m - 1, by omega⟩
      have hqm : q < es.length := by omega
      have hz1 : (0 : Int) < (m : Int) := by omega
      have eq1 : ((m : Int)).toNat = m := by omega
      have p1 : (0 : Int) ≤ (m : Int) := by omega
      have b1 : (m : Int) < (es.length : Int) := by omega
      have p2 : (0 : Int) ≤ (q : Int) := by omega
      have b2 : (q : Int) < (es.length : Int) := by omega
      have r2 : IntKind.i64.wrap ((m : Int) - 1) = (q : Int) := by rw [IntKind.wrap_i64]; omega
      have r3 : wrap64 ((m : Int) - 1) = (q : Int) := by unfold wrap64; omega
      have HQ := Lib.hid hq
      have hv : 0 ≤ cf es[m]! es[q]! := by have := HS.out q (by omega); rw [← hq] at this; exact this
      obtain ⟨x1, hx1⟩ : ∃ x, x = es[m]! := ⟨_, rfl⟩
      obtain ⟨y1, hy1⟩ : ∃ x, x = es[q]! := ⟨_, rfl⟩
      have la : ∀ n os, Sem.run Tryz.prog (loadCellsFrom ⟨blk, off + m * k, none⟩ 0 k #[]) (Sort.grow (wr.drewN n) os) = .ok (enc x1).toArray (Sort.grow (wr.drewN n) os) := fun n os => by
        rw [hx1]
        exact Go.Proofs.run_loadCellsFrom_list _ _ _ _ k (hk _) (fun i v hi => by rw [Addr.add_lit]; exact cell_grown (by have := hbw.size; show blk < _; omega) ((hbw.cell (p := ⟨blk, off + m * k + i, none⟩) hb).trans (HC.out m hm i v hi)) n os)
      have lb : ∀ n os, Sem.run Tryz.prog (loadCellsFrom ⟨blk, off + q * k, none⟩ 0 k #[]) (Sort.grow (wr.drewN n) os) = .ok (enc y1).toArray (Sort.grow (wr.drewN n) os) := fun n os => by
        rw [hy1]
        exact Go.Proofs.run_loadCellsFrom_list _ _ _ _ k (hk _) (fun i v hi => by rw [Addr.add_lit]; exact cell_grown (by have := hbw.size; show blk < _; omega) ((hbw.cell (p := ⟨blk, off + q * k + i, none⟩) hb).trans (HC.out q hqm i v hi)) n os)
      rw [← hx1, ← hy1] at hv
      have hd1 : decide (cf x1 y1 < 0) = false := decide_eq_false (by omega)
      have hc1 := fun W => HP.out x1 y1 W
      have HC1 := Lib.hid hc1
      clear hx1 hy1 hq hc1
      go_wp2_with fail
      go_quiet_grown (first | (go_at_fn g; refine Calls.grown_of (HC1.out _)))
      have hbn : Below w.heap.size w (Sort.grow (wr.drewN nq) osq) := (below_drewN hbw nq).trans ((grow_below _ _).mono (by show _ ≤ _; have := hbw.size; exact this))
      clear la lb hbw
      generalize Sort.grow (wr.drewN nq) osq = wu at hbn ⊢
      clear nq osq
      go_wp2
      go_roundw
      case rel => exact ⟨q, by omega, by go_num, hbn⟩
      case measure => simp [intOf]; have := HQ.out; omega
    · have hz0 : m = 0 := by omega
      subst hz0
      go_wp2
      go_ret
      exact ⟨rfl, hbw⟩
end
theorem IsSorted_none (A : Option Addr) (c : Nat) (fv : Value) (w : World) : Calls Tryz.prog 28 #[.slice A 0 c, fv] w fun e w' => e = .returned (.bool true) ∧ Below w.heap.size w w' := by
  go_enter Tryz.func28, Tryz.ntmps28
  go_wp2
  refine wp_loop_rounds 1 ?_
  rw [rounds_succ]
  go_wp2
  go_ret
  exact ⟨rfl, Below.refl _ _⟩
set_option maxRecDepth 100000 in
theorem IsSorted_any (es : List (Int × Int)) (v : Value) (w : World) (hl : es.length ≤ 1000000) (h : Rd encE 2 w v es) (hs : ∀ j, j + 1 < es.length → 0 ≤ cmpR es[j + 1]! es[j]!) :
    Calls Tryz.prog 28 #[v, .func (.func 29) #[] #[]] w fun e w' => e = .returned (.bool true) ∧ Below w.heap.size w w' := by
  by_cases h0 : es = []
  · subst h0
    obtain ⟨A, c, rfl⟩ := rd_len h
    exact IsSorted_none _ _ _ _
  · rcases h with ⟨h1, _⟩ | ⟨g, off, c, rfl, hg, hc⟩
    · exact absurd h1 h0
    · exact IsSorted_w (k := 2) (enc := encE) encE_len sizE cmpR 29 #[] (enters_of Tryz.func29 (by kernel_rfl) rfl) (fun x y W => cmpR_any x y W) g off c es w hg hl (List.length_pos_iff.2 h0) hc hs

end Go.Proofs.YtjpjmlljgcpbkaaGreat

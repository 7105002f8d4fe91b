/- The statement of StampCompares, from its walk. -/
import Derived.Test.YtdafcipilknecaaGreatDoorFctStampCompares
import Derived.Test.YtdafcipilknecaaGreatDoorJLawSC
import Derived.Test.YtdafcipilknecaaGreatDoorGOpen
import Derived.Test.YtdafcipilknecaaGreatDoorRows
import Derived.Test.YtdafcipilknecaaGreatDoorGOh
import Derived.Test.YtdafcipilknecaaGreatDoorTie
import Derived.Test.YtdafcipilknecaaGreatDoorCards
import Derived.Test.YtdafcipilknecaaGreatDoorJOpenHc
import Derived.JoinedCond
import Derived.Deep.DeepHandedRow
namespace Go.Proofs.YtdafcipilknecaaGreatDoor
set_option linter.unusedSimpArgs false
set_option linter.unusedVariables false
open Go.ChangeShapes Go.WideShapes Go.ChangeAt Go.RowKit
open Go.ChangeMaps (open_string shut_string)
noncomputable def laidWorld_StampCompares (os : Os) : World := { World.holding Tryz.prog os ⟨#[], #[], []⟩ with heap := (((World.holding Tryz.prog os ⟨#[], #[], []⟩).heap.modify 0 fun | .cells _ t frozen => .cells #[.string ⟨#[]⟩, .string ⟨#[114, 101, 106, 101, 99, 116]⟩, .string ⟨#[102, 111, 114, 119, 97, 114, 100]⟩, .string ⟨#[98, 97, 99, 107]⟩, .string ⟨#[101, 100, 103, 101]⟩] t frozen | o => o).modify 1 fun | .cells _ t frozen => .cells #[.string ⟨#[]⟩, .string ⟨#[114, 101, 106, 101, 99, 116]⟩, .string ⟨#[102, 105, 114, 115, 116]⟩, .string ⟨#[108, 97, 115, 116]⟩] t frozen | o => o) }
theorem laid_met_StampCompares (os : Os) : laidMet Tryz.prog Rows.stampComparesRow.laid ((laidWorld_StampCompares os).forCall (fun _ _ => 0) ⟨#[], #[.agg #[.slice none 0 0], .string ⟨#[]⟩, .agg #[.int .i64 0, .string ⟨#[]⟩, .int .i64 0, .int .i64 0], .agg #[.int .i64 0, .string ⟨#[]⟩, .int .i64 0, .int .i64 0]], []⟩).memory :=
 laidMet_of_run' 8 (by kernel_rfl) (by kernel_rfl)
theorem reads_StampCompares (os : Os) {H : Type} (enc : TypeId × Value → H) : ∃ places, DataW.whole enc Tryz.prog ((laidWorld_StampCompares os).forCall (fun _ _ => 0) ⟨#[], #[.agg #[.slice none 0 0], .string ⟨#[]⟩, .agg #[.int .i64 0, .string ⟨#[]⟩, .int .i64 0, .int .i64 0], .agg #[.int .i64 0, .string ⟨#[]⟩, .int .i64 0, .int .i64 0]], []⟩).memory Tryz.f3.params.toList Rows.stampComparesSpec.vars false (#[.agg #[.slice none 0 0], .string ⟨#[]⟩, .agg #[.int .i64 0, .string ⟨#[]⟩, .int .i64 0, .int .i64 0], .agg #[.int .i64 0, .string ⟨#[]⟩, .int .i64 0, .int .i64 0]] : Array Value).toList 8 = some ([.agg [.nil], .lit (.string []), .agg [.lit (.int .i64 0), .lit (.string []), .agg [.lit (.int .i64 0), .lit (.int .i64 0)]], .agg [.lit (.int .i64 0), .lit (.string []), .agg [.lit (.int .i64 0), .lit (.int .i64 0)]]], [], places) :=
 ⟨[], by kernel_rfl⟩
set_option maxRecDepth 100000 in
theorem lifted_StampCompares (os : Os) (started : os.Started) (H : Type) (enc : TypeId × Value → H) (F : Stop.Interp) :
  ReturnsInHanded {} Tryz.checked os 3 .any ((OpenSpec.ofChange Rows.stampComparesSpec).preRow enc Tryz.prog Tryz.f3 Rows.stampComparesRow.domain false Rows.stampComparesRow.laid) (((OpenSpec.ofChange Rows.stampComparesSpec).at F).post enc Tryz.prog Tryz.f3 false true false false) := by
 obtain ⟨places, hx⟩ := reads_StampCompares os enc
 refine returnsInHanded_of_row (C := Tryz.checked) (s := OpenSpec.ofChange Rows.stampComparesSpec) own started (by kernel_rfl) Tryz.func3
  (witness_row_at (enc := enc) (C := Tryz.checked) false (laidWorld_StampCompares os) #[.agg #[.slice none 0 0], .string ⟨#[]⟩, .agg #[.int .i64 0, .string ⟨#[]⟩, .int .i64 0, .int .i64 0], .agg #[.int .i64 0, .string ⟨#[]⟩, .int .i64 0, .int .i64 0]] rfl (by kernel_rfl) (by kernel_rfl) (by kernel_rfl)
   (OpenSpec.preRow_of_cond 8 hx (by kernel_rfl) (fun k hk => by cases hk) (by kernel_rfl) (laid_met_StampCompares os))) ?_
 intro W base args ds gs before hval0 hW _ _ _ hL hsh _
 have hval : ∀ (j : Nat) t v, Tryz.f3.params[j]? = some t → args[j]? = some v → Value.okWide Tryz.prog W .any base t v := hval0
 have hW' := hW
 obtain ⟨p, q, hA0, hV, rfl, hfz, hnd⟩ := hW
 have hA : DataW.TrodAll enc Tryz.prog W 0 (fun _ => true) true Tryz.f3.params.toList args.toList ds p := hA0
 rw [Tryz.params3] at hA hval
 obtain ⟨v0, vs0, d0, ds0, p0, q0, hargs, rfl, rfl, h0, r0⟩ := trodAll_cons hA
 obtain ⟨v1, vs1, d1, ds1, p1, q1, rfl, rfl, rfl, h1, r1⟩ := trodAll_cons r0
 obtain ⟨v2, vs2, d2, ds2, p2, q2, rfl, rfl, rfl, h2, r2⟩ := trodAll_cons r1
 obtain ⟨v3, vs3, d3, ds3, p3, q3, rfl, rfl, rfl, h3, r3⟩ := trodAll_cons r2
 obtain ⟨rfl, rfl, rfl⟩ := trodAll_nil r3
 obtain rfl : args = #[v0, v1, v2, v3] := by cases args; simp_all
 obtain ⟨rfl, rfl⟩ := trodVars_none hV
 have k0 := h0
 have lt0 : ∀ x ∈ p0, x.block < W.heap.size := by obtain ⟨m, hm⟩ := k0; exact DataW.trod_lt m _ _ _ hm
 obtain ⟨cs0, rfl, _⟩ := okWide_struct Tryz.underlying24 (hval 0 24 v0 rfl rfl)
 obtain ⟨vH0, a0, e0, g0, hc0⟩ := tr_historyC (by simpa [Value.cells] using Tr.of h0 : Tr Tryz.prog W 24 cs0.toList)
 obtain rfl : cs0 = #[vH0] := by rw [← Array.toArray_toList (xs := cs0), e0]
 have k1 := h1
 have lt1 : ∀ x ∈ p1, x.block < W.heap.size := by obtain ⟨m, hm⟩ := k1; exact DataW.trod_lt m _ _ _ hm
 obtain ⟨a1, rfl⟩ := okWide_string Tryz.underlying9 (hval 1 9 v1 rfl rfl)
 have k2 := h2
 have lt2 : ∀ x ∈ p2, x.block < W.heap.size := by obtain ⟨m, hm⟩ := k2; exact DataW.trod_lt m _ _ _ hm
 obtain ⟨cs2, rfl, _⟩ := okWide_struct Tryz.underlying28 (hval 2 28 v2 rfl rfl)
 obtain ⟨a2, e2⟩ := tr_stamp (by simpa [Value.cells] using Tr.of h2 : Tr Tryz.prog W 28 cs2.toList)
 obtain rfl : cs2 = (encStm a2).toArray := by rw [← e2]
 have k3 := h3
 have lt3 : ∀ x ∈ p3, x.block < W.heap.size := by obtain ⟨m, hm⟩ := k3; exact DataW.trod_lt m _ _ _ hm
 obtain ⟨cs3, rfl, _⟩ := okWide_struct Tryz.underlying28 (hval 3 28 v3 rfl rfl)
 obtain ⟨a3, e3⟩ := tr_stamp (by simpa [Value.cells] using Tr.of h3 : Tr Tryz.prog W 28 cs3.toList)
 obtain rfl : cs3 = (encStm a3).toArray := by rw [← e3]
 clear hA0 hval0
 refine (law_StampCompares a0 _ a1 a2 a3 W hc0 g0 (hasMax_of hsh)).mono fun e W' ⟨he, bel⟩ => ?_
 subst he
 exact ⟨_, rfl, _, _, _, [], _, [], hW', trodAll_mk1 (shut_bool Tryz.underlying4 _), (trodAll_cons_mk (Below.trod laidOut (by kernel_rfl) (of_decide_eq_true (by kernel_rfl)) k0 bel lt0) (trodAll_cons_mk (Below.trod laidOut (by kernel_rfl) (of_decide_eq_true (by kernel_rfl)) k1 bel lt1) (trodAll_cons_mk (Below.trod laidOut (by kernel_rfl) (of_decide_eq_true (by kernel_rfl)) k2 bel lt2) (trodAll_cons_mk (Below.trod laidOut (by kernel_rfl) (of_decide_eq_true (by kernel_rfl)) k3 bel lt3) trodAll_mk0)))), rfl, bel.frame _, fun h => by cases h⟩
theorem said_StampCompares : Rows.StampComparesSaid :=
 OpenClaim.holds_of_cond 3 Tryz.f3 rfl rfl rfl rfl rfl rfl rfl ⟨rfl, rfl, rfl, rfl, rfl⟩ rfl rfl rfl rfl rfl (by kernel_rfl) Tryz.func3 closed_StampCompares
  (of_decide_eq_true (by kernel_rfl)) (by unfold Func.isWrapper; first | (rw [if_pos (by decide +kernel)]; kernel_rfl) | (rw [if_neg (by decide +kernel)]; exact ⟨rfl, rfl⟩))
  (fun os started H enc _ F => by rw [OpenClaim.pre_eq_preRow]; exact lifted_StampCompares os started H enc F)
theorem plain_StampCompares (f : FuncId) (fn : Func) (hf : Tryz.pinned.checked.prog.funcNamed "civiltime/civiltimelaw25.StampCompares" = some f) (hfn : Tryz.pinned.checked.prog.funcs[f]? = some fn) :
  false = Tryz.pinned.checked.prog.looks [] ∧ ∀ (j : Nat) t, fn.params[j]? = some t → Tryz.pinned.checked.prog.wantsStandIn t = false := by
 obtain rfl : f = 3 := Option.some.inj ((show Tryz.prog.funcNamed "civiltime/civiltimelaw25.StampCompares" = some 3 by kernel_rfl).symm.trans hf) |>.symm
 obtain rfl : fn = Tryz.f3 := (Option.some.inj (Tryz.func3.symm.trans hfn)).symm
 refine ⟨by kernel_rfl, fun j t ht => ?_⟩
 rw [Tryz.params3] at ht
 have hm := Array.mem_of_getElem? ht
 simp only [List.mem_toArray, List.mem_cons, List.not_mem_nil, or_false] at hm
 rcases hm with rfl | rfl | rfl | rfl
 ·exact (show Tryz.prog.wantsStandIn 24 = false by kernel_rfl)
 ·exact (show Tryz.prog.wantsStandIn 9 = false by kernel_rfl)
 ·exact (show Tryz.prog.wantsStandIn 28 = false by kernel_rfl)
 ·exact (show Tryz.prog.wantsStandIn 28 = false by kernel_rfl)
theorem proved_StampCompares : Rows.StampComparesCardSaid :=
 Claim7.holds_tied_plain_at .later [] _ _ _ _ said_StampCompares (fun _ h => by cases h) (by kernel_rfl) (fun _ h => by cases h) stampCompares_row_tie rfl ⟨rfl, rfl⟩ (by kernel_rfl) rfl plain_StampCompares (by kernel_rfl)
#print axioms proved_StampCompares
end Go.Proofs.YtdafcipilknecaaGreatDoor

/- The statement of VersionKept, from its walk. -/
import Derived.Test.YtoonaidpmahgcaaGreatFctVersionKept
import Derived.Test.YtoonaidpmahgcaaGreatJLawVK
import Derived.Test.YtoonaidpmahgcaaGreatGOpen
import Derived.Test.YtoonaidpmahgcaaGreatGOh
import Derived.Test.YtoonaidpmahgcaaGreatRows
import Derived.Test.YtoonaidpmahgcaaGreatGVo
import Derived.JoinedCond
import Derived.Deep.DeepHandedRow
namespace Go.Proofs.YtoonaidpmahgcaaGreat
set_option linter.unusedSimpArgs false
set_option linter.unusedVariables false
open Go.ChangeShapes Go.WideShapes Go.ChangeAt Go.RowKit
open Go.ChangeMaps (open_string shut_string)

theorem reads_VersionKept (os : Os) {H : Type} (enc : TypeId × Value → H) : ∃ places, DataW.whole enc Tryz.prog ((World.holding Tryz.prog os ⟨#[], #[], []⟩).forCall (fun _ _ => 0) ⟨#[], #[.agg #[.slice none 0 0], .string ⟨#[]⟩, .string ⟨#[]⟩, .string ⟨#[]⟩, .agg #[.int .i64 0, .int .i64 0], .int .i64 0], []⟩).memory Tryz.f9.params.toList Rows.versionKeptSpec.vars false (#[.agg #[.slice none 0 0], .string ⟨#[]⟩, .string ⟨#[]⟩, .string ⟨#[]⟩, .agg #[.int .i64 0, .int .i64 0], .int .i64 0] : Array Value).toList 8 = some ([.agg [.nil], .lit (.string []), .lit (.string []), .lit (.string []), .agg [.lit (.int .i64 0), .lit (.int .i64 0)], .lit (.int .i64 0)], [], places) :=
  ⟨[], by kernel_rfl⟩
set_option maxRecDepth 100000 in
theorem lifted_VersionKept (os : Os) (started : os.Started) (H : Type) (enc : TypeId × Value → H) (F : Stop.Interp) :
    ReturnsInHanded {} Tryz.checked os 9 .any ((Rows.OpenSpec.upto Rows.versionKeptSpec).preRow enc Tryz.prog Tryz.f9 Rows.versionKeptUptoRow.domain false Rows.versionKeptUptoRow.laid) (((Rows.OpenSpec.upto Rows.versionKeptSpec).at F).post enc Tryz.prog Tryz.f9 false true false false) := by
  obtain ⟨places, hx⟩ := reads_VersionKept os enc
  refine returnsInHanded_of_row (C := Tryz.checked) (s := Rows.OpenSpec.upto Rows.versionKeptSpec) own started (by kernel_rfl) Tryz.func9
    (witness_row_at (enc := enc) (C := Tryz.checked) false (World.holding Tryz.prog os ⟨#[], #[], []⟩) #[.agg #[.slice none 0 0], .string ⟨#[]⟩, .string ⟨#[]⟩, .string ⟨#[]⟩, .agg #[.int .i64 0, .int .i64 0], .int .i64 0] rfl (by kernel_rfl) (by kernel_rfl) (by kernel_rfl)
      (OpenSpec.preRow_of_cond 8 hx (by kernel_rfl) (fun k hk => by cases hk; kernel_rfl) (by kernel_rfl) (laidMetH_nil _ _))) ?_
  intro W base args ds gs before hval0 hW _ hcond _ _ hsh _
  have hbulk := hcond _ rfl
  have hval : ∀ (j : Nat) t v, Tryz.f9.params[j]? = some t → args[j]? = some v → Value.okWide Tryz.prog W .any base t v := hval0
  have hW' := hW
  obtain ⟨p, q, hA0, hV, rfl, hfz, hnd⟩ := hW
  have hA : DataW.TrodAll enc Tryz.prog W 0 (fun _ => true) true Tryz.f9.params.toList args.toList ds p := hA0
  rw [Tryz.params9] at hA hval
  obtain ⟨v0, vs0, d0, ds0, p0, q0, hargs, rfl, rfl, h0, r0⟩ := trodAll_cons hA
  obtain ⟨v1, vs1, d1, ds1, p1, q1, rfl, rfl, rfl, h1, r1⟩ := trodAll_cons r0
  obtain ⟨v2, vs2, d2, ds2, p2, q2, rfl, rfl, rfl, h2, r2⟩ := trodAll_cons r1
  obtain ⟨v3, vs3, d3, ds3, p3, q3, rfl, rfl, rfl, h3, r3⟩ := trodAll_cons r2
  obtain ⟨v4, vs4, d4, ds4, p4, q4, rfl, rfl, rfl, h4, r4⟩ := trodAll_cons r3
  obtain ⟨v5, vs5, d5, ds5, p5, q5, rfl, rfl, rfl, h5, r5⟩ := trodAll_cons r4
  obtain ⟨rfl, rfl, rfl⟩ := trodAll_nil r5
  obtain rfl : args = #[v0, v1, v2, v3, v4, v5] := by cases args; simp_all
  obtain ⟨rfl, rfl⟩ := trodVars_none hV
  have k0 := h0
  have lt0 : ∀ x ∈ p0, x.block < W.heap.size := by obtain ⟨m, hm⟩ := k0; exact DataW.trod_lt m _ _ _ hm
  obtain ⟨cs0, rfl, _⟩ := okWide_struct Tryz.underlying58 (hval 0 58 v0 rfl rfl)
  obtain ⟨vH0, a0, e0, g0, fb0⟩ := trB_history (by simpa [Value.cells] using TrB.of h0 (bulk_le hbulk (by simp)) : TrB 1048576 W 58 cs0.toList)
  have hf0 : ∀ x ∈ a0, ∀ y ∈ x.zs, y.z.form.size < 4294967281 := fun x hx y hy => by have := fb0 x hx y hy; omega
  obtain rfl : cs0 = #[vH0] := by rw [← Array.toArray_toList (xs := cs0), e0]
  have k1 := h1
  have lt1 : ∀ x ∈ p1, x.block < W.heap.size := by obtain ⟨m, hm⟩ := k1; exact DataW.trod_lt m _ _ _ hm
  obtain ⟨a1, rfl⟩ := okWide_string Tryz.underlying9 (hval 1 9 v1 rfl rfl)
  have k2 := h2
  have lt2 : ∀ x ∈ p2, x.block < W.heap.size := by obtain ⟨m, hm⟩ := k2; exact DataW.trod_lt m _ _ _ hm
  obtain ⟨a2, rfl⟩ := okWide_string Tryz.underlying9 (hval 2 9 v2 rfl rfl)
  have k3 := h3
  have lt3 : ∀ x ∈ p3, x.block < W.heap.size := by obtain ⟨m, hm⟩ := k3; exact DataW.trod_lt m _ _ _ hm
  obtain ⟨a3, rfl⟩ := okWide_string Tryz.underlying9 (hval 3 9 v3 rfl rfl)
  have k4 := h4
  have lt4 : ∀ x ∈ p4, x.block < W.heap.size := by obtain ⟨m, hm⟩ := k4; exact DataW.trod_lt m _ _ _ hm
  obtain ⟨cs4, rfl, _⟩ := okWide_struct Tryz.underlying29 (hval 4 29 v4 rfl rfl)
  obtain ⟨a4f, a4t, e4⟩ := tr_span (by simpa [Value.cells] using Tr.of h4 : Tr Tryz.prog W 29 cs4.toList)
  obtain rfl : cs4 = #[.int .i64 a4f, .int .i64 a4t] := by rw [← Array.toArray_toList (xs := cs4), e4]
  have k5 := h5
  have lt5 : ∀ x ∈ p5, x.block < W.heap.size := by obtain ⟨m, hm⟩ := k5; exact DataW.trod_lt m _ _ _ hm
  obtain ⟨a5, rfl⟩ := okWide_int Tryz.underlying3 (hval 5 3 v5 rfl rfl)
  clear hA0 hval0
  refine (law_VersionKept a0 _ a1 a2 a3 a4f a4t a5 W hf0 g0 (hasMax_of hsh)).mono fun e W' ⟨he, bel⟩ => ?_
  subst he
  exact ⟨_, rfl, _, _, _, [], _, [], hW', trodAll_mk1 (shut_bool Tryz.underlying4 _), (trodAll_cons_mk (Below.trod laidOut (by kernel_rfl) (of_decide_eq_true (by kernel_rfl)) k0 bel lt0) (trodAll_cons_mk (Below.trod laidOut (by kernel_rfl) (of_decide_eq_true (by kernel_rfl)) k1 bel lt1) (trodAll_cons_mk (Below.trod laidOut (by kernel_rfl) (of_decide_eq_true (by kernel_rfl)) k2 bel lt2) (trodAll_cons_mk (Below.trod laidOut (by kernel_rfl) (of_decide_eq_true (by kernel_rfl)) k3 bel lt3) (trodAll_cons_mk (Below.trod laidOut (by kernel_rfl) (of_decide_eq_true (by kernel_rfl)) k4 bel lt4) (trodAll_cons_mk (Below.trod laidOut (by kernel_rfl) (of_decide_eq_true (by kernel_rfl)) k5 bel lt5) trodAll_mk0)))))), rfl, bel.frame _, fun h => by cases h⟩

theorem proved_VersionKept : Rows.VersionKeptUptoSaid :=
  OpenClaim.holds_of_cond 9 Tryz.f9 rfl rfl rfl rfl rfl rfl rfl ⟨rfl, rfl, rfl, rfl, rfl⟩ rfl rfl rfl rfl rfl (by kernel_rfl) Tryz.func9 closed_VersionKept
    (of_decide_eq_true (by kernel_rfl)) (by unfold Func.isWrapper; first | (rw [if_pos (by decide +kernel)]; kernel_rfl) | (rw [if_neg (by decide +kernel)]; exact ⟨rfl, rfl⟩))
    (fun os started H enc _ F => by rw [OpenClaim.pre_eq_preRow]; exact lifted_VersionKept os started H enc F)
#print axioms proved_VersionKept

end Go.Proofs.YtoonaidpmahgcaaGreat

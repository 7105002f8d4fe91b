/- The statement of MigrateTexts, from its walk. -/
import Derived.Test.YtdpbhjaicgkblaaGreatDoorJLawMT
import Derived.Test.YtdpbhjaicgkblaaGreatDoorGOpen
import Derived.Test.YtdpbhjaicgkblaaGreatDoorRows
import Derived.Test.YtdpbhjaicgkblaaGreatDoorGOh
import Derived.Test.YtdpbhjaicgkblaaGreatDoorJOpenMg
import Derived.Test.YtdpbhjaicgkblaaGreatDoorTie
import Derived.Test.YtdpbhjaicgkblaaGreatDoorCards
import Derived.JoinedCond
import Derived.Deep.DeepHandedRow
namespace Go.Proofs.YtdpbhjaicgkblaaGreatDoor
set_option linter.unusedSimpArgs false
set_option linter.unusedVariables false
open Go.ChangeShapes Go.WideShapes Go.ChangeAt Go.RowKit
open Go.ChangeMaps (open_string shut_string)
noncomputable def laidWorld_MigrateTexts (os : Os) : World := { World.holding Tryz.prog os ⟨#[], #[], []⟩ with heap := (((World.holding Tryz.prog os ⟨#[], #[], []⟩).heap.modify 0 fun | .cells _ t frozen => .cells #[.string ⟨#[]⟩, .string ⟨#[114, 101, 106, 101, 99, 116]⟩, .string ⟨#[102, 111, 114, 119, 97, 114, 100]⟩, .string ⟨#[98, 97, 99, 107]⟩, .string ⟨#[101, 100, 103, 101]⟩] t frozen | o => o).modify 1 fun | .cells _ t frozen => .cells #[.string ⟨#[]⟩, .string ⟨#[114, 101, 106, 101, 99, 116]⟩, .string ⟨#[102, 105, 114, 115, 116]⟩, .string ⟨#[108, 97, 115, 116]⟩] t frozen | o => o) }
theorem laid_met_MigrateTexts (os : Os) : laidMet Tryz.prog Rows.migrateTextsRow.laid ((laidWorld_MigrateTexts os).forCall (fun _ _ => 0) ⟨#[], #[.slice none 0 0, .slice none 0 0], []⟩).memory :=
 laidMet_of_run' 8 (by kernel_rfl) (by kernel_rfl)
theorem reads_MigrateTexts (os : Os) {H : Type} (enc : TypeId × Value → H) : ∃ places, DataW.whole enc Tryz.prog ((laidWorld_MigrateTexts os).forCall (fun _ _ => 0) ⟨#[], #[.slice none 0 0, .slice none 0 0], []⟩).memory Tryz.f3.params.toList Rows.migrateTextsSpec.vars false (#[.slice none 0 0, .slice none 0 0] : Array Value).toList 8 = some ([.nil, .nil], [], places) :=
 ⟨[], by kernel_rfl⟩
set_option maxRecDepth 100000 in
theorem lifted_MigrateTexts (os : Os) (started : os.Started) (H : Type) (enc : TypeId × Value → H) (F : Stop.Interp) :
  ReturnsInHanded {} Tryz.checked os 3 .any ((OpenSpec.ofChange Rows.migrateTextsSpec).preRow enc Tryz.prog Tryz.f3 Rows.migrateTextsRow.domain false Rows.migrateTextsRow.laid) (((OpenSpec.ofChange Rows.migrateTextsSpec).at F).post enc Tryz.prog Tryz.f3 false true false false) := by
 obtain ⟨places, hx⟩ := reads_MigrateTexts os enc
 refine returnsInHanded_of_row (C := Tryz.checked) (s := OpenSpec.ofChange Rows.migrateTextsSpec) own started (by kernel_rfl) Tryz.func3
  (witness_row_at (enc := enc) (C := Tryz.checked) false (laidWorld_MigrateTexts os) #[.slice none 0 0, .slice none 0 0] rfl (by kernel_rfl) (by kernel_rfl) (by kernel_rfl)
   (OpenSpec.preRow_of_cond 8 hx (by kernel_rfl) (fun k hk => by cases hk) (by kernel_rfl) (laid_met_MigrateTexts os))) ?_
 intro W base args ds gs before hval0 hW _ _ _ hL hsh _
 have hval : ∀ (j : Nat) t v, Tryz.f3.params[j]? = some t → args[j]? = some v → Value.okWide Tryz.prog W .any base t v := hval0
 have hW' := hW
 obtain ⟨p, q, hA0, hV, rfl, hfz, hnd⟩ := hW
 have hA : DataW.TrodAll enc Tryz.prog W 0 (fun _ => true) true Tryz.f3.params.toList args.toList ds p := hA0
 rw [Tryz.params3] at hA hval
 obtain ⟨v0, vs0, d0, ds0, p0, q0, hargs, rfl, rfl, h0, r0⟩ := trodAll_cons hA
 obtain ⟨v1, vs1, d1, ds1, p1, q1, rfl, rfl, rfl, h1, r1⟩ := trodAll_cons r0
 obtain ⟨rfl, rfl, rfl⟩ := trodAll_nil r1
 obtain rfl : args = #[v0, v1] := by cases args; simp_all
 obtain ⟨rfl, rfl⟩ := trodVars_none hV
 have k0 := h0
 have lt0 : ∀ x ∈ p0, x.block < W.heap.size := by obtain ⟨m, hm⟩ := k0; exact DataW.trod_lt m _ _ _ hm
 obtain ⟨A0, len0, cap0, rfl⟩ := okWide_slice Tryz.underlying22 (hval 0 22 v0 rfl rfl)
 obtain ⟨a0, e0, l0⟩ := rd_entries (by simpa [Value.cells] using Tr.of h0 : Tr Tryz.prog W 22 [.slice A0 len0 cap0])
 have k1 := h1
 have lt1 : ∀ x ∈ p1, x.block < W.heap.size := by obtain ⟨m, hm⟩ := k1; exact DataW.trod_lt m _ _ _ hm
 obtain ⟨A1, len1, cap1, rfl⟩ := okWide_slice Tryz.underlying23 (hval 1 23 v1 rfl rfl)
 obtain ⟨a1, e1, l1⟩ := rd_migs (by simpa [Value.cells] using Tr.of h1 : Tr Tryz.prog W 23 [.slice A1 len1 cap1])
 clear hA0 hval0
 refine (law_MigrateTexts a0 _ a1 _ W e0 e1 (hasMax_of hsh)).mono fun e W' ⟨he, bel⟩ => ?_
 subst he
 exact ⟨_, rfl, _, _, _, [], _, [], hW', trodAll_mk1 (shut_bool Tryz.underlying4 _), (trodAll_cons_mk (Below.trod laidOut (by kernel_rfl) (of_decide_eq_true (by kernel_rfl)) k0 bel lt0) (trodAll_cons_mk (Below.trod laidOut (by kernel_rfl) (of_decide_eq_true (by kernel_rfl)) k1 bel lt1) trodAll_mk0)), rfl, bel.frame _, fun h => by cases h⟩
theorem said_MigrateTexts : Rows.MigrateTextsSaid :=
 OpenClaim.holds_of_cond 3 Tryz.f3 rfl rfl rfl rfl rfl rfl rfl ⟨rfl, rfl, rfl, rfl, rfl⟩ rfl rfl rfl rfl rfl (by kernel_rfl) Tryz.func3 (by kernel_rfl)
  (of_decide_eq_true (by kernel_rfl)) (by unfold Func.isWrapper; first | (rw [if_pos (by decide +kernel)]; kernel_rfl) | (rw [if_neg (by decide +kernel)]; exact ⟨rfl, rfl⟩))
  (fun os started H enc _ F => by rw [OpenClaim.pre_eq_preRow]; exact lifted_MigrateTexts os started H enc F)
theorem plain_MigrateTexts (f : FuncId) (fn : Func) (hf : Tryz.pinned.checked.prog.funcNamed "civiltime/civiltimelaw53.MigrateTexts" = some f) (hfn : Tryz.pinned.checked.prog.funcs[f]? = some fn) :
  false = Tryz.pinned.checked.prog.looks [] ∧ ∀ (j : Nat) t, fn.params[j]? = some t → Tryz.pinned.checked.prog.wantsStandIn t = false := by
 obtain rfl : f = 3 := Option.some.inj ((show Tryz.prog.funcNamed "civiltime/civiltimelaw53.MigrateTexts" = some 3 by kernel_rfl).symm.trans hf) |>.symm
 obtain rfl : fn = Tryz.f3 := (Option.some.inj (Tryz.func3.symm.trans hfn)).symm
 refine ⟨by kernel_rfl, fun j t ht => ?_⟩
 rw [Tryz.params3] at ht
 have hm := Array.mem_of_getElem? ht
 simp only [List.mem_toArray, List.mem_cons, List.not_mem_nil, or_false] at hm
 rcases hm with rfl | rfl
 ·exact (show Tryz.prog.wantsStandIn 22 = false by kernel_rfl)
 ·exact (show Tryz.prog.wantsStandIn 23 = false by kernel_rfl)
theorem proved_MigrateTexts : Rows.MigrateTextsCardSaid :=
 Claim7.holds_tied_plain_at .later [] _ _ _ _ said_MigrateTexts (fun _ h => by cases h) (by kernel_rfl) (fun _ h => by cases h) migrateTexts_row_tie rfl ⟨rfl, rfl⟩ (by kernel_rfl) rfl plain_MigrateTexts (by kernel_rfl)
#print axioms proved_MigrateTexts
end Go.Proofs.YtdpbhjaicgkblaaGreatDoor

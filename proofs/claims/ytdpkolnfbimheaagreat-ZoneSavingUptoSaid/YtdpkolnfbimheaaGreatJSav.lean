/- zone.Saving. Printed by gen_sav.py. -/
import Derived.Test.YtdpkolnfbimheaaGreatGZn
import Derived.Test.YtdpkolnfbimheaaGreatGUn
import Derived.Test.YtdpkolnfbimheaaGreatJSavP
import Derived.Deep.RegionHeld3
namespace Go.Proofs.YtdpkolnfbimheaaGreat
set_option linter.unusedSimpArgs false
set_option linter.unusedVariables false
open Go.ChangeShapes Go.WideShapes Go.ChangeAt Go.RowKit

/-- all but one block is as it was -/
structure OthB (q : Nat) (W wr : World) : Prop where
  sz : W.heap.size ≤ wr.heap.size
  h : ∀ j, j ≠ q → j < W.heap.size → wr.heap[j]? = W.heap[j]?
theorem OthB.refl (q : Nat) (W : World) : OthB q W W := ⟨Nat.le_refl _, fun _ _ _ => rfl⟩
theorem OthB.below {q : Nat} {W a b : World} (h : OthB q W a) (hb : Below a.heap.size a b) : OthB q W b := ⟨Nat.le_trans h.sz hb.size, fun j h1 h2 => (hb.block j (Nat.lt_of_lt_of_le h2 h.sz)).trans (h.h j h1 h2)⟩
theorem OthB.grown {q : Nat} {W a b : World} {row : Option Nat} (h : OthB q W a) (hg : a.grownBy b row) (hr : ∀ g, row = some g → W.heap.size ≤ g) : OthB q W b :=
  ⟨Nat.le_trans h.sz hg.size, fun j h1 h2 => (hg.block j (Nat.lt_of_lt_of_le h2 h.sz) (fun e => by have := hr j e.symm; omega)).trans (h.h j h1 h2)⟩
theorem OthB.set {q : Nat} {W a : World} (h : OthB q W a) (i : Nat) (v : Value) : OthB q W (a.setCell ⟨q, i, none⟩ v) :=
  ⟨by simp; exact h.sz, fun j h1 h2 => (Below.heap_setCell a ⟨q, i, none⟩ v j h1).trans (h.h j h1 h2)⟩
theorem OthB.setRow {q g : Nat} {W a : World} (h : OthB q W a) (hg : W.heap.size ≤ g) (i : Nat) (v : Value) : OthB q W (a.setCell ⟨g, i, none⟩ v) :=
  ⟨by simp; exact h.sz, fun j h1 h2 => (Below.heap_setCell a ⟨g, i, none⟩ v j (by show j ≠ g; omega)).trans (h.h j h1 h2)⟩
theorem OthB.cell {q : Nat} {W a : World} (h : OthB q W a) {g o : Nat} (hg : g ≠ q) (hl : g < W.heap.size) : a.cell? ⟨g, o, none⟩ = W.cell? ⟨g, o, none⟩ := World.cell?_of_block (h.h g hg hl)
/-- what a loop holds that fills a row and keeps a type in a box -/
structure SavSt {α : Type} (enc : α → List Value) (T : TypeId) (k q : Nat) (W5 w : World) (v : Value) (S : List α) (o : Typ) (X : World) : Prop where
  own : X.ownsRow W5.heap.size T k v S.length (S.flatMap enc)
  oth : OthB q W5 X
  bel : Below w.heap.size w X
  blk : Blk X q #[.int .i64 o.off, .int .i64 o.sv, .string o.nm] 23
section
variable {α : Type} {enc : α → List Value} {T : TypeId} {k q : Nat} {W5 w : World} {v : Value} {S : List α} {o : Typ} {X : World}
theorem SavSt.on {Y : World} (h : SavSt enc T k q W5 w v S o X) (hb : Below X.heap.size X Y) : SavSt enc T k q W5 w v S o Y :=
  ⟨own_on h.own hb, h.oth.below hb, h.bel.trans (hb.mono h.bel.size), h.blk.below hb h.blk.lt⟩
theorem SavSt.alloc (h : SavSt enc T k q W5 w v S o X) (ob : Obj) : SavSt enc T k q W5 w v S o (X.alloc ob) := h.on (alloc_below' X ob)
theorem SavSt.drew (h : SavSt enc T k q W5 w v S o X) : SavSt enc T k q W5 w v S o X.drew := h.on (Below.refl _ _).drew
theorem SavSt.set (h : SavSt enc T k q W5 w v S o X) (hq : q < W5.heap.size) (hw : w.heap.size ≤ q) (t : Typ) : SavSt enc T k q W5 w v S t (((X.setCell ⟨q, 0, none⟩ (.int .i64 t.off)).setCell ⟨q, 1, none⟩ (.int .i64 t.sv)).setCell ⟨q, 2, none⟩ (.string t.nm)) :=
  ⟨set3_own h.own hq _ _ _, ((h.oth.set 0 _).set 1 _).set 2 _, set3_below h.bel hw _ _ _, h.blk.set3 _ _ _⟩
theorem SavSt.app {Y : World} {v' : Value} {S' : List α} (h : SavSt enc T k q W5 w v S o X) (hq : q < W5.heap.size) (hw : w.heap.size ≤ W5.heap.size) (ob : Obj) (ho : Y.ownsRow W5.heap.size T k v' S'.length (S'.flatMap enc)) (hg : (X.alloc ob).grownBy Y v.ownBlock) : SavSt enc T k q W5 w v' S' o Y := by
  have h2 := h.alloc ob
  refine ⟨ho, h2.oth.grown hg fun g e => (h.own.lt g e).1, h2.bel.grown hg h2.bel.size fun g e => Nat.le_trans hw (h.own.lt g e).1, h2.blk.kept hg fun e => ?_⟩
  have := (h.own.lt q e.symm).1
  omega
end
/-- where the row of a list lies -/
theorem own_at {W : World} {base : Nat} {T : TypeId} {v : Value} {L : List Trn} (h : W.ownsRow base T 4 v L.length (L.flatMap Trn.cells)) (hp : 0 < L.length) : ∃ g c, v = .slice (some ⟨g, 0, none⟩) L.length c ∧ base ≤ g ∧ g < W.heap.size ∧ v.ownBlock = some g ∧ ∀ j, j < L.length → ∀ i u, (Trn.cells L[j]!)[i]? = some u → W.cell? ⟨g, j * 4 + i, none⟩ = some u := by
  rcases h.2 with ⟨_, e⟩ | ⟨g, c, cur, e0, hb, _⟩
  · rw [e] at hp; exact absurd hp (Nat.lt_irrefl _)
  · rcases rd_of_own trn_len h rfl with ⟨e, _⟩ | ⟨g', o, c', e1, hl, hc⟩
    · rw [e] at hp; exact absurd hp (Nat.lt_irrefl _)
    · rw [e0] at e1
      injection e1 with e2 _ _
      injection e2 with e2
      injection e2 with e3 e4 _
      subst e3
      subst e4
      refine ⟨g, c, e0, hb, hl, by rw [e0]; rfl, fun j hj i u hu => ?_⟩
      have := hc j hj i u hu
      rwa [Nat.zero_add] at this
theorem own_atN {W : World} {base : Nat} {T : TypeId} {v : Value} {L : List Trn} {x : Trn} (h : W.ownsRow base T 4 v (L.length + 1) (L.flatMap Trn.cells ++ Trn.cells x)) : ∃ g c, v = .slice (some ⟨g, 0, none⟩) (L.length + 1) c ∧ base ≤ g ∧ g < W.heap.size ∧ v.ownBlock = some g ∧ ∀ j, j < L.length + 1 → ∀ i u, (Trn.cells (L ++ [x])[j]!)[i]? = some u → W.cell? ⟨g, j * 4 + i, none⟩ = some u := by
  have h' := own_snoc (es := L) (x := x) h
  obtain ⟨g, c, h1, h2, h3, h4, h5⟩ := own_at h' (by simp)
  rw [List.length_append, List.length_singleton] at h1 h5
  exact ⟨g, c, h1, h2, h3, h4, h5⟩
theorem addTo_app {S : List Spn} {s : Spn} (h : ¬ (0 < S.length ∧ (S[S.length - 1]!).to = s.fr)) : addTo S s = S ++ [s] := if_neg h
theorem addTo_set {S : List Spn} {s : Spn} {n : Nat} (hn : S.length = n + 1) (h : (S[n]!).to = s.fr) : addTo S s = S.set n ⟨(S[n]!).fr, s.to⟩ := by
  unfold addTo
  rw [show S.length - 1 = n by omega, if_pos ⟨by omega, h⟩]
theorem sav_step {a : Int} {o : Typ} {R : List Trn} {k : Nat} (hk : k < R.length) : stT a o (R.take (k + 1)) = ((R[k]!).at_, (R[k]!).ty) ∧
    touchF (segF a o (R.take (k + 1))) = if (stT a o (R.take k)).2.sv ≠ 0 ∧ (stT a o (R.take k)).1 < (R[k]!).at_ then addTo (touchF (segF a o (R.take k))) ⟨(stT a o (R.take k)).1, (R[k]!).at_⟩ else touchF (segF a o (R.take k)) := by
  rw [List.take_succ_eq_append_getElem hk, ← getElem!_pos R k hk]
  refine ⟨stT_snoc _ _ _ _, ?_⟩
  rw [segF_snoc]
  split
  · rw [touchF_snoc]
  · rw [List.append_nil]
theorem touch_len (a : Int) (o : Typ) (R : List Trn) (k : Nat) : (touchF (segF a o (R.take k))).length ≤ k := by
  have h : ∀ l : List Spn, (touchF l).length ≤ l.length := fun l => by
    suffices H : ∀ (l : List Spn) (acc : List Spn), (l.foldl addTo acc).length ≤ acc.length + l.length from by
      have := H l []
      unfold touchF
      rw [List.length_nil] at this
      omega
    intro l
    induction l with
    | nil => intro acc; simp
    | cons s l ih =>
      intro acc
      have h1 := ih (addTo acc s)
      have h2 := addTo_len acc s
      rw [List.foldl_cons, List.length_cons]
      omega
  have h1 := h (segF a o (R.take k))
  have h2 := segF_len a o (R.take k)
  have h3 := List.length_take_le k R
  omega
def SavRel (q : Nat) (W5 w : World) (a : Int) (o : Typ) (R : List Trn) (v8 v9 i : Value) (wr : World) : Prop :=
  ∃ k : Nat, k ≤ R.length ∧ i = .int .i64 k ∧ v9 = .int .i64 (stT a o (R.take k)).1 ∧ SavSt encN 34 2 q W5 w v8 (touchF (segF a o (R.take k))) (stT a o (R.take k)).2 wr
theorem sav_rel {q : Nat} {W5 w : World} {a : Int} {o : Typ} {R : List Trn} {v : Value} {S : List Spn} {k : Nat} {x : Trn} {X : World} (hk : k < R.length) (h1 : stT a o (R.take (k + 1)) = (x.at_, x.ty)) (h2 : touchF (segF a o (R.take (k + 1))) = S) (h : SavSt encN 34 2 q W5 w v S x.ty X) :
    SavRel q W5 w a o R v (.int .i64 x.at_) (.int .i64 ((k : Int) + 1)) X := by
  refine ⟨k + 1, hk, by go_num, by rw [h1], ?_⟩
  rw [h1, h2]
  exact h
/-- what zone.Saving returns -/
def SavEnd (z : Zn) (a b : Int) (w : World) (e : Ending) (w' : World) : Prop := Below w.heap.size w w' ∧ (((z.betV a b).2 ≠ 0 ∧ e = .returned (.tuple #[.slice none 0 0, .int .i64 (z.betV a b).2])) ∨ ((z.betV a b).2 = 0 ∧ ∃ u, e = .returned (.tuple #[u, .int .i64 0]) ∧ w'.ownsRow w.heap.size 34 2 u (z.savF a b).length ((z.savF a b).flatMap encN)))
theorem bet_cases (z : Zn) (a b : Int) : z.betV a b = ([], 1) ∨ z.betV a b = ([], 5) ∨ (spanB a b = true ∧ z.valid = true ∧ (z.betF a b).length ≤ 1000 ∧ z.betV a b = (z.betF a b, 0)) := by
  unfold Zn.betV
  by_cases h : spanB a b = true ∧ z.valid = true
  · rw [if_pos h]
    by_cases h2 : (z.betF a b).length ≤ 1000
    · rw [if_pos h2]; exact .inr (.inr ⟨h.1, h.2, h2, rfl⟩)
    · rw [if_neg h2]; exact .inr (.inl rfl)
  · rw [if_neg h]; exact .inl rfl
theorem pair_one (a b : Int) : ∀ u ∈ [Value.int .i64 a, .int .i64 b], u.oneCell' = true := by
  intro v hv
  simp at hv
  rcases hv with rfl | rfl <;> rfl
set_option maxRecDepth 100000 in
set_option maxHeartbeats 8000000 in
theorem Saving_any (z : Zn) (vT vR : Value) (a b : Int) (w : World) (hm : HasMax w) (hT : Rd Trn.cells 4 w vT z.table) (hR : Rd Rule.cells 11 w vR z.tail) (hfs : z.form.size < 4294967281) (hll : z.tail.length ≤ 12 ∨ 100 < z.tail.length) :
    Calls Tryz.prog 18 #[z.v vT vR, .agg #[.int .i64 a, .int .i64 b]] w (SavEnd z a b w) := by
  have HBT := Lib.hid (fun W (hb : Below w.heap.size w W) => Between_own z vT vR a b W (hm.on hb) (hT.on hb) (hR.on hb) hfs hll)
  have HTA := Lib.hid (fun hv ht W (hb : Below w.heap.size w W) => typeAt_any z vT vR a W (hm.on hb) (hT.on hb) (hR.on hb) hfs (valid_len hv hll) hv ht)
  obtain ⟨AT, cT, rfl⟩ := rd_vf hT
  obtain ⟨AR, cR, rfl⟩ := rd_vf hR
  clear hT hR hm
  have b0 := (Blk.new w #[.string z.nm, .int .i64 z.first.off, .int .i64 z.first.sv, .string z.first.nm, .slice AT z.table.length cT, .slice AR z.tail.length cR, .int .i64 z.off, .string z.form, .int .i64 z.year] 27).alloc (.cells #[.int .i64 a, .int .i64 b] 34)
  have b1 := Blk.new (w.alloc (.cells #[.string z.nm, .int .i64 z.first.off, .int .i64 z.first.sv, .string z.first.nm, .slice AT z.table.length cT, .slice AR z.tail.length cR, .int .i64 z.off, .string z.form, .int .i64 z.year] 27)) #[.int .i64 a, .int .i64 b] 34
  rw [World.size_alloc] at b1
  have hB1 : Below w.heap.size w ((w.alloc (.cells #[.string z.nm, .int .i64 z.first.off, .int .i64 z.first.sv, .string z.first.nm, .slice AT z.table.length cT, .slice AR z.tail.length cR, .int .i64 z.off, .string z.form, .int .i64 z.year] 27)).alloc (.cells #[.int .i64 a, .int .i64 b] 34)) := ((Below.refl _ _).alloc (Nat.le_refl _) _).alloc (by simp) _
  unfold BetOwn at HBT
  unfold Zn.v at HBT HTA ⊢
  unfold SavEnd
  rcases bet_cases z a b with hbv | hbv | ⟨hsp, hv, hlen, hbv⟩
  · rw [hbv] at HBT ⊢
    have hn : ¬ ((1 : Int) = 0) := by decide
    clear hbv HTA
    go_enter Tryz.func18, Tryz.ntmps18
    go_wp2_with (go_at_call 12; refine (HBT.out _ hB1).mono ?_; rintro e w4 ⟨v6, rfl, hown6, hb4, _⟩)
    go_ret2
    exact ⟨hB1.trans (hb4.mono hB1.size), .inl ⟨by decide, rfl⟩⟩
  · rw [hbv] at HBT ⊢
    have hn : ¬ ((1 : Int) = 0) := by decide
    clear hbv HTA
    go_enter Tryz.func18, Tryz.ntmps18
    go_wp2_with (go_at_call 12; refine (HBT.out _ hB1).mono ?_; rintro e w4 ⟨v6, rfl, hown6, hb4, _⟩)
    go_ret2
    exact ⟨hB1.trans (hb4.mono hB1.size), .inl ⟨by decide, rfl⟩⟩
  · rw [hbv] at HBT ⊢
    obtain ⟨o, ho⟩ : ∃ o, z.typF a = o := ⟨_, rfl⟩
    obtain ⟨j0, hj0, hz0, hz1, hz2⟩ := info_parts infoT
    obtain ⟨js, hjs, hy0, hy1, hy2⟩ := info_parts info_span
    have hsa := span_in hsp
    have HTA := Lib.hid (HTA.out hv (by unfold inT; simp; omega))
    rw [ho] at HTA
    unfold Typ.val at HTA
    have HSF := Lib.hid (show z.savF a b = touchF (segF a o (z.betF a b ++ [⟨b, default⟩])) by unfold Zn.savF; rw [ho])
    rw [HSF.out]
    generalize z.betF a b = L at *
    clear hbv hsp hv ho hsa HSF
    go_enter Tryz.func18, Tryz.ntmps18
    go_wp2_with fail
    generalize ((w.alloc (.cells #[.string z.nm, .int .i64 z.first.off, .int .i64 z.first.sv, .string z.first.nm, .slice AT z.table.length cT, .slice AR z.tail.length cR, .int .i64 z.off, .string z.form, .int .i64 z.year] 27)).alloc (.cells #[.int .i64 a, .int .i64 b] 34)) = W at *
    have hw : w.heap.size ≤ W.heap.size := hB1.size
    refine (HBT.out W hB1).mono ?_
    rintro e w4 ⟨v6, rfl, hown6, hb4, _⟩
    clear HBT
    have KZ := b0.below hb4 b0.lt
    have KI := b1.below hb4 b1.lt
    have KL := KZ.lt
    have KIL := KI.lt
    have z0 := KZ.cl 0 _ rfl
    have z1 := KZ.cl 1 _ rfl
    have z2 := KZ.cl 2 _ rfl
    have z3 := KZ.cl 3 _ rfl
    have z4 := KZ.cl 4 _ rfl
    have z5 := KZ.cl 5 _ rfl
    have z6 := KZ.cl 6 _ rfl
    have z7 := KZ.cl 7 _ rfl
    have z8 := KZ.cl 8 _ rfl
    have i0 := KI.cl 0 _ rfl
    have i1 := KI.cl 1 _ rfl
    have HS := Lib.hid (fun w' (hb : Below w4.heap.size w4 w') => And.intro hb (And.intro ((hb.cell (p := ⟨w.heap.size, 0, none⟩) KL).trans z0) (And.intro ((hb.cell (p := ⟨w.heap.size, 1, none⟩) KL).trans z1) (And.intro ((hb.cell (p := ⟨w.heap.size, 2, none⟩) KL).trans z2) (And.intro ((hb.cell (p := ⟨w.heap.size, 3, none⟩) KL).trans z3) (And.intro ((hb.cell (p := ⟨w.heap.size, 4, none⟩) KL).trans z4) (And.intro ((hb.cell (p := ⟨w.heap.size, 5, none⟩) KL).trans z5) (And.intro ((hb.cell (p := ⟨w.heap.size, 6, none⟩) KL).trans z6) (And.intro ((hb.cell (p := ⟨w.heap.size, 7, none⟩) KL).trans z7) (And.intro ((hb.cell (p := ⟨w.heap.size, 8, none⟩) KL).trans z8) (((hb.cell (p := ⟨w.heap.size + 1, 0, none⟩) KIL).trans i0))))))))))))
    have hdr : Below w4.heap.size w4 w4.drew := below_drewN (Below.refl w4.heap.size w4) 1
    have hw4 := hB1.trans (hb4.mono hw)
    have HW4 := Lib.hid hw4
    obtain ⟨A6, c6, rfl⟩ := own_formN hown6
    have HOWN := Lib.hid hown6
    have h4W := hb4.size
    clear hown6 hw4
    go_wp2_with fail
    go_region_held3 (fun w' => Below w4.heap.size w4 w' ∧ w'.cell? ⟨w.heap.size, 0, none⟩ = some (.string z.nm) ∧ w'.cell? ⟨w.heap.size, 1, none⟩ = some (.int .i64 z.first.off) ∧ w'.cell? ⟨w.heap.size, 2, none⟩ = some (.int .i64 z.first.sv) ∧ w'.cell? ⟨w.heap.size, 3, none⟩ = some (.string z.first.nm) ∧ w'.cell? ⟨w.heap.size, 4, none⟩ = some (.slice AT z.table.length cT) ∧ w'.cell? ⟨w.heap.size, 5, none⟩ = some (.slice AR z.tail.length cR) ∧ w'.cell? ⟨w.heap.size, 6, none⟩ = some (.int .i64 z.off) ∧ w'.cell? ⟨w.heap.size, 7, none⟩ = some (.string z.form) ∧ w'.cell? ⟨w.heap.size, 8, none⟩ = some (.int .i64 z.year) ∧ w'.cell? ⟨w.heap.size + 1, 0, none⟩ = some (.int .i64 a)) (first | exact HS.out _ hdr | exact HS.out _ K6 | exact HS.out _ (K6.alloc K6.size _) | exact HS.out _ (hdr.alloc hdr.size _) | exact HS.out _ (((K6.setCell (p := ⟨w4.heap.size, 0, none⟩) (Nat.le_refl _) _).setCell (p := ⟨w4.heap.size, 1, none⟩) (Nat.le_refl _) _).setCell (p := ⟨w4.heap.size, 2, none⟩) (Nat.le_refl _) _) | go_keep)
      (first | (go_at_call 52; refine (HTA.out _ (HW4.out.trans (hdr.mono HW4.out.size))).mono ?_; rintro e w6 ⟨rfl, hb6⟩; have K6 : Below w4.heap.size w4 w6 := hdr.trans (hb6.mono hdr.size)) | (go_at_call 52; refine (HTA.out _ (HW4.out.trans ((hdr.alloc hdr.size _).mono HW4.out.size))).mono ?_; rintro e w6 ⟨rfl, hb6⟩; have K6 : Below w4.heap.size w4 w6 := (hdr.alloc hdr.size _).trans (hb6.mono (hdr.alloc hdr.size _).size); have bq := Blk.new w4.drew #[.int .i64 0, .int .i64 0, .string ⟨#[]⟩] 23; have bq6 := bq.below hb6 bq.lt; have q0 : w6.cell? ⟨w4.heap.size, 0, none⟩ = some (.int .i64 0) := bq6.cl 0 _ rfl; have q1 : w6.cell? ⟨w4.heap.size, 1, none⟩ = some (.int .i64 0) := bq6.cl 1 _ rfl; have q2 : w6.cell? ⟨w4.heap.size, 2, none⟩ = some (.string ⟨#[]⟩) := bq6.cl 2 _ rfl; have qf0 : w6.frozen? ⟨w4.heap.size, 0, none⟩ = false := bq6.frozen 0; have qf1 : w6.frozen? ⟨w4.heap.size, 1, none⟩ = false := bq6.frozen 1; have qf2 : w6.frozen? ⟨w4.heap.size, 2, none⟩ = false := bq6.frozen 2; have ql : w4.heap.size < w6.heap.size := bq6.lt))
    all_goals
      first
      | (obtain ⟨W9, q, hW9, hq, hK9, bq9, hq4⟩ : ∃ W9 q, w6.alloc (.cells #[.int .i64 o.off, .int .i64 o.sv, .string o.nm] 23) = W9 ∧ w6.heap.size = q ∧ Below w4.heap.size w4 W9 ∧ Blk W9 q #[.int .i64 o.off, .int .i64 o.sv, .string o.nm] 23 ∧ w4.heap.size ≤ q := ⟨_, _, rfl, rfl, K6.alloc K6.size _, Blk.new w6 _ _, K6.size⟩; rw [hW9, hq])
      | (obtain ⟨W9, q, hW9, hq, hK9, bq9, hq4⟩ : ∃ W9 q, ((w6.setCell ⟨w4.heap.size, 0, none⟩ (.int .i64 o.off)).setCell ⟨w4.heap.size, 1, none⟩ (.int .i64 o.sv)).setCell ⟨w4.heap.size, 2, none⟩ (.string o.nm) = W9 ∧ w4.heap.size = q ∧ Below w4.heap.size w4 W9 ∧ Blk W9 q #[.int .i64 o.off, .int .i64 o.sv, .string o.nm] 23 ∧ w4.heap.size ≤ q := ⟨_, _, rfl, rfl, (((K6.setCell (p := ⟨w4.heap.size, 0, none⟩) (Nat.le_refl _) _).setCell (p := ⟨w4.heap.size, 1, none⟩) (Nat.le_refl _) _).setCell (p := ⟨w4.heap.size, 2, none⟩) (Nat.le_refl _) _), bq6.set3 _ _ _, Nat.le_refl _⟩; rw [hW9, hq])
      clear hW9 hq
      have HO9 := Lib.hid (own_on HOWN.out hK9)
      have hw9 := HW4.out.trans (hK9.mono HW4.out.size)
      have hqv : (Value.slice A6 L.length c6).ownBlock ≠ some q := fun e => by have := (HOWN.out.lt q e).2; omega
      have hq9 := bq9.lt
      have hqw : w.heap.size ≤ q := Nat.le_trans HW4.out.size hq4
      have HB9 := Lib.hid bq9
      have s1 := (hK9.cell (p := ⟨w.heap.size + 1, 1, none⟩) KIL).trans i1
      have h9W : W.heap.size ≤ W9.heap.size := Nat.le_trans h4W hK9.size
      clear bq9 z0 z1 z2 z3 z4 z5 z6 z7 z8 i0 i1 KZ KI KL KIL
      go_wp2_with (at_builtin; go_loud (refine wpList_append_own_at _ rfl (.tmp 29) (.tmp 33) _ rfl W.heap.size 38 j0 _ 4 40 Tryz.underlying24 hj0 hz0 hz1 hz2 rfl (by decide) _ _ _ rfl (HO9.out.alloc _) ⟨_, 0, none⟩ 1 1 (Trn.cells ⟨b, ⟨0, 0, ⟨#[]⟩⟩⟩) rfl rfl (new_row_at (by simp) _) (trn_one _) (by simp only [maxLen]; omega) (by omega) (by simp; omega) ?_); intro v' w5 hown5 hg5 _ hat; obtain ⟨g5, c5, rfl, _, hg5l, _, hc5⟩ := own_atN hown5; have hw5 := (hw9.alloc hw9.size _).grown hg5 (hw9.alloc hw9.size _).size (fun g e => Nat.le_trans hw (HO9.out.lt g e).1); have bq5 := (HB9.out.alloc _).kept hg5 (fun e => hqv e.symm); have hgq : g5 ≠ q := (fun e => hat.elim (fun h => hqv ((show (Value.slice A6 L.length c6).ownBlock = some g5 from h.symm).trans (congrArg some e))) (fun h => by have h2 : some g5 = some _ := h; injection h2 with h2; simp at h2; omega)))
      have HC5 := Lib.hid hc5
      have HW5 := Lib.hid hw5
      have HB5 := Lib.hid bq5
      have hq5 := bq5.lt
      obtain ⟨R, hR⟩ : ∃ R : List Trn, L ++ [⟨b, ⟨0, 0, ⟨#[]⟩⟩⟩] = R := ⟨_, rfl⟩
      have hRl : R.length = L.length + 1 := by rw [← hR]; simp
      rw [hR] at HC5
      have HRR := Lib.hid hR
      have HRL := Lib.hid hRl
      clear hc5 hw5 bq5 hR hRl hown5 hg5 hat
      go_loopw [8, 9, 36] (fun v8 v9 i wr => SavRel q w5 w a o R v8 v9 i wr) (fun _ _ i _ => L.length + 1 - (intOf i).toNat)
      case atStart => exact ⟨0, Nat.zero_le _, rfl, rfl, ⟨World.ownsRow_nil _ _ _ _, OthB.refl _ _, HW5.out, HB5.out⟩⟩
      case round =>
        obtain ⟨k, hk, rfl, rfl, hst⟩ := hrel
        have hSL := touch_len a o R k
        have hk2 : k ≤ L.length + 1 := by have := HRL.out; omega
        by_cases hkl : k < L.length + 1
        · have hlt : k < R.length := by have := HRL.out; omega
          obtain ⟨hs1, hs2⟩ := sav_step (a := a) (o := o) hlt
          have e0 := (hst.oth.cell hgq hg5l).trans (HC5.out k hkl 0 _ rfl)
          have e1 := (hst.oth.cell hgq hg5l).trans (HC5.out k hkl 1 _ rfl)
          have e2 := (hst.oth.cell hgq hg5l).trans (HC5.out k hkl 2 _ rfl)
          have e3 := (hst.oth.cell hgq hg5l).trans (HC5.out k hkl 3 _ rfl)
          rw [Nat.add_zero] at e0
          generalize R[k]! = x at *
          obtain ⟨xa, xt⟩ := x
          generalize stT a o (R.take k) = st at *
          obtain ⟨f, ty⟩ := st
          generalize touchF (segF a o (R.take k)) = S at *
          dsimp only at e0 e1 e2 e3 hs1 hs2 hst ⊢
          obtain ⟨A8, c8, rfl⟩ := own_formN hst.own
          have HOL := Lib.hid (fun g e => (hst.own.lt g e).2)
          have HS1 := Lib.hid hs1
          have HS0 := Lib.hid hs2
          have hstA := hst.alloc (.cells #[.int .i64 xa, .int .i64 xt.off, .int .i64 xt.sv, .string xt.nm] 38)
          have bx := Blk.new wr #[.int .i64 xa, .int .i64 xt.off, .int .i64 xt.sv, .string xt.nm] 38
          generalize hWA : wr.alloc (.cells #[.int .i64 xa, .int .i64 xt.off, .int .i64 xt.sv, .string xt.nm] 38) = WA at *
          have x0 := bx.cl 0 _ rfl
          have x1 := bx.cl 1 _ rfl
          have x2 := bx.cl 2 _ rfl
          have x3 := bx.cl 3 _ rfl
          have p0 := hstA.blk.cl 0 _ rfl
          have p1 := hstA.blk.cl 1 _ rfl
          have p2 := hstA.blk.cl 2 _ rfl
          have f0 := hstA.blk.frozen 0
          have f1 := hstA.blk.frozen 1
          have f2 := hstA.blk.frozen 2
          have HST := Lib.hid hstA
          have hszA := hstA.oth.sz
          clear hs1 hs2 hst hstA
          by_cases h1 : ty.sv = 0
          · have HS2 := Lib.hid (HS0.out.trans (if_neg fun h => h.1 h1))
            have d1 : (ty.sv != 0) = false := by simp [h1]
            clear h1
            go_wp2_with fail
            go_region
            go_wp2
            go_roundw
            case rel => exact sav_rel (x := ⟨xa, xt⟩) hlt HS1.out HS2.out ((HST.out.set hq5 hqw xt).drew)
            case measure => simp [intOf]; omega
          · have d1 : (ty.sv != 0) = true := by simp [h1]
            by_cases h2 : f < xa
            · have HS2 := Lib.hid (HS0.out.trans (if_pos ⟨h1, h2⟩))
              have d2 : decide (f < xa) = true := decide_eq_true h2
              clear h1
              by_cases h3 : S.length = 0
              · have HS2 := Lib.hid (HS2.out.trans (addTo_app fun h => by omega))
                have d3 : decide ((0 : Int) < (S.length : Int)) = false := decide_eq_false (by omega)
                have d30 : ¬ 0 < S.length := by omega
                clear h3
                go_wp2_with (at_builtin; go_loud (refine wpList_append_own _ rfl (.tmp 70) (.tmp 75) _ rfl w5.heap.size 34 js _ 2 16 Tryz.underlying46 hjs hy0 hy1 hy2 rfl (by decide) _ _ _ rfl (HST.out.own.alloc _) ⟨_, 0, none⟩ 1 1 (encN ⟨f, xa⟩) rfl rfl (new_row_at (by simp) _) (encN_one _) (by simp only [maxLen]; omega) (by omega) (by simp; omega) ?_); intro v8' w7 hown7 hg7 _; have hX := HST.out.app hq5 (Nat.le_trans hqw (Nat.le_of_lt hq5)) _ (own_snoc (es := S) (x := (⟨f, xa⟩ : Spn)) hown7) hg7; have bx7 := (bx.alloc _).kept hg7 (fun e => Nat.lt_irrefl _ (HOL.out _ e.symm)); have X0 := bx7.cl 0 _ rfl; have X1 := bx7.cl 1 _ rfl; have X2 := bx7.cl 2 _ rfl; have X3 := bx7.cl 3 _ rfl; have P0 := hX.blk.cl 0 _ rfl; have P1 := hX.blk.cl 1 _ rfl; have P2 := hX.blk.cl 2 _ rfl; have F0 := hX.blk.frozen 0; have F1 := hX.blk.frozen 1; have F2 := hX.blk.frozen 2; have HX := Lib.hid hX; clear hX)
                clear x0 x1 x2 x3 p0 p1 p2 f0 f1 f2
                go_region
                go_wp2
                go_roundw
                case rel => exact sav_rel (x := ⟨xa, xt⟩) hlt HS1.out HS2.out ((HX.out.set hq5 hqw xt).drew)
                case measure => simp [intOf]; omega
              · obtain ⟨n, hn⟩ : ∃ n, S.length = n + 1 := ⟨S.length - 1, by omega⟩
                have d3 : decide ((0 : Int) < (S.length : Int)) = true := decide_eq_true (by omega)
                have d30 : 0 < S.length := by omega
                have hnl : n < S.length := by omega
                have hwi : (S.length : Int) - 1 = (n : Int) := by omega
                obtain ⟨g8, hA8⟩ : ∃ g8, A8 = some ⟨g8, 0, none⟩ := by
                  rcases HST.out.own.2 with ⟨e0, _⟩ | ⟨g', cap', cur, e0, _⟩
                  · injection e0 with _ e1 _; omega
                  · injection e0 with e1 _ _; exact ⟨g', e1⟩
                subst hA8
                have l1 : WA.cell? ⟨g8, n * 2 + 1, none⟩ = some (.int .i64 (S[n]!).to) := (HST.out.own.cellAt (n * 2 + 1) (by omega)).trans (flat_get encN_len S n 1 hnl (by omega))
                have lf := HST.out.own.frozenAt (n * 2 + 1)
                clear h3
                by_cases h4 : (S[n]!).to = f
                · have HS2 := Lib.hid (HS2.out.trans (addTo_set hn h4))
                  rw [h4] at l1
                  have HN := Lib.hid hn
                  clear h4 hn
                  go_wp2_with fail
                  have hst2 := (HST.out.own.stored (n * 2 + 1) (.int .i64 xa)).1
                  rw [set_flat S n xa hnl] at hst2
                  have hg8 : w5.heap.size ≤ g8 := (HST.out.own.lt g8 rfl).1
                  have hX : SavSt encN 34 2 q w5 w (.slice (some ⟨g8, 0, none⟩) S.length c8) (S.set n ⟨(S[n]!).fr, xa⟩) ty (WA.setCell ⟨g8, n * 2 + 1, none⟩ (.int .i64 xa)) :=
                    ⟨by rw [List.length_set]; exact hst2, HST.out.oth.setRow hg8 _ _, HST.out.bel.setCell (p := ⟨g8, n * 2 + 1, none⟩) (Nat.le_trans hqw (Nat.le_trans (Nat.le_of_lt hq5) hg8)) _, HST.out.blk.other (fun e => by omega) _⟩
                  have bx7 := bx.other (B' := g8) (i := n * 2 + 1) (fun e => Nat.lt_irrefl _ (HOL.out _ (show some g8 = _ from congrArg some e.symm))) (.int .i64 xa)
                  have X0 := bx7.cl 0 _ rfl
                  have X1 := bx7.cl 1 _ rfl
                  have X2 := bx7.cl 2 _ rfl
                  have X3 := bx7.cl 3 _ rfl
                  have P0 := hX.blk.cl 0 _ rfl
                  have P1 := hX.blk.cl 1 _ rfl
                  have P2 := hX.blk.cl 2 _ rfl
                  have F0 := hX.blk.frozen 0
                  have F1 := hX.blk.frozen 1
                  have F2 := hX.blk.frozen 2
                  have HX := Lib.hid hX
                  clear hX hst2 bx7 x0 x1 x2 x3 p0 p1 p2 f0 f1 f2 l1 lf bx
                  generalize WA.setCell ⟨g8, n * 2 + 1, none⟩ (.int .i64 xa) = WB at *
                  go_region
                  go_wp2
                  go_roundw
                  case rel => exact sav_rel (x := ⟨xa, xt⟩) hlt HS1.out HS2.out ((HX.out.set hq5 hqw xt).drew)
                  case measure => simp [intOf]; omega
                · have HS2 := Lib.hid (HS2.out.trans (addTo_app fun h => h4 (by have h5 := h.2; rwa [show S.length - 1 = n by omega] at h5)))
                  have d4 : ((S[n]!).to == f) = false := beq_eq_false_iff_ne.2 h4
                  generalize (S[n]!).to = lt at *
                  have HN := Lib.hid hn
                  clear h4 hn
                  go_wp2_with (at_builtin; go_loud (refine wpList_append_own _ rfl (.tmp 70) (.tmp 75) _ rfl w5.heap.size 34 js _ 2 16 Tryz.underlying46 hjs hy0 hy1 hy2 rfl (by decide) _ _ _ rfl (HST.out.own.alloc _) ⟨_, 0, none⟩ 1 1 (encN ⟨f, xa⟩) rfl rfl (new_row_at (by simp) _) (encN_one _) (by simp only [maxLen]; omega) (by omega) (by simp; omega) ?_); intro v8' w7 hown7 hg7 _; have hX := HST.out.app hq5 (Nat.le_trans hqw (Nat.le_of_lt hq5)) _ (own_snoc (es := S) (x := (⟨f, xa⟩ : Spn)) hown7) hg7; have bx7 := (bx.alloc _).kept hg7 (fun e => Nat.lt_irrefl _ (HOL.out _ e.symm)); have X0 := bx7.cl 0 _ rfl; have X1 := bx7.cl 1 _ rfl; have X2 := bx7.cl 2 _ rfl; have X3 := bx7.cl 3 _ rfl; have P0 := hX.blk.cl 0 _ rfl; have P1 := hX.blk.cl 1 _ rfl; have P2 := hX.blk.cl 2 _ rfl; have F0 := hX.blk.frozen 0; have F1 := hX.blk.frozen 1; have F2 := hX.blk.frozen 2; have HX := Lib.hid hX; clear hX)
                  clear x0 x1 x2 x3 p0 p1 p2 f0 f1 f2
                  go_region
                  go_wp2
                  go_roundw
                  case rel => exact sav_rel (x := ⟨xa, xt⟩) hlt HS1.out HS2.out ((HX.out.set hq5 hqw xt).drew)
                  case measure => simp [intOf]; omega
            · have HS2 := Lib.hid (HS0.out.trans (if_neg fun h => h2 h.2))
              have d2 : decide (f < xa) = false := decide_eq_false h2
              clear h1
              go_wp2_with fail
              go_region
              go_wp2
              go_roundw
              case rel => exact sav_rel (x := ⟨xa, xt⟩) hlt HS1.out HS2.out ((HST.out.set hq5 hqw xt).drew)
              case measure => simp [intOf]; omega
        · obtain rfl : k = L.length + 1 := by omega
          have hkR : (L.length + 1) = R.length := HRL.out.symm
          have HST := Lib.hid hst
          have HB := Lib.hid hst.bel
          have HFIN := Lib.hid (show touchF (segF a o (L ++ [⟨b, default⟩])) = touchF (segF a o (R.take (L.length + 1))) from by
            rw [hkR, List.take_length, ← HRR.out]; rfl)
          clear hst hkR
          go_wp2
          go_ret2
          exact ⟨HB.out, .inr ⟨trivial, _, rfl, by rw [HFIN.out]; exact own_lower HST.out.own (Nat.le_trans hqw (Nat.le_of_lt hq5))⟩⟩
end Go.Proofs.YtdpkolnfbimheaaGreat

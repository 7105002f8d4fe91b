/- zone.Types. Printed by gen_types.py. -/
import Derived.Test.YtdpkolnfbimheaaGreatJSav
namespace Go.Proofs.YtdpkolnfbimheaaGreat
set_option linter.unusedSimpArgs false
set_option linter.unusedVariables false
open Go.ChangeShapes Go.WideShapes Go.ChangeAt Go.RowKit

theorem typ_len (t : Typ) : t.cells.length = 3 := rfl
theorem typ_one (t : Typ) : ∀ u ∈ t.cells, u.oneCell' = true := by
  intro v hv
  simp [Typ.cells] at hv
  rcases hv with rfl | rfl | rfl <;> rfl
theorem infoTy : (Tryz.prog.info? 23).map (fun i => (i.zero, i.size, i.bytes)) = some (some (.agg #[.int .i64 0, .int .i64 0, .string ⟨#[]⟩]), 3, 32) := by kernel_rfl
theorem isAggTy (w : World) : (isAgg 23).run Tryz.prog w = .ok true w := by kernel_rfl
theorem sizeOfTy (w : World) : (Go.sizeOf 23).run Tryz.prog w = .ok 3 w := by kernel_rfl
theorem eqlTy : Go.Proofs.EqlAt Tryz.prog 23 (fun x => .agg (Typ.cells x).toArray) (fun x y => decide (x = y)) := ⟨fun x y w => eqTy x y w, .agg _ (by kernel_rfl)⟩
/-- slices.Contains at types -/
theorem has_ty {g o c n : Nat} {S : List Typ} (x : Typ) (w : World) (hn : n ≤ S.length) (hl : S.length ≤ 1000000) (hc : ∀ j, j < S.length → ∀ i v, (Typ.cells S[j]!)[i]? = some v → w.cell? ⟨g, o + j * 3 + i, none⟩ = some v) :
    Calls Tryz.prog 21 #[.slice (some ⟨g, o, none⟩) n c, .agg #[.int .i64 x.off, .int .i64 x.sv, .string x.nm]] w fun e w' => e = .returned (.bool (decide (x ∈ S.take n))) ∧ Below w.heap.size w w' := by
  have h := Tryz.slices_Contains_f21 3 isAggTy sizeOfTy Typ.cells typ_len (fun x y => decide (x = y)) eqlTy g o n c S x w hn (by omega) hc
  have e : ((S.take n).any fun y => decide (x = y)) = decide (x ∈ S.take n) := by
    rw [Bool.eq_iff_iff]
    simp
  rw [e] at h
  exact h
theorem tys_step {o : Typ} {L : List Trn} {k : Nat} (hk : k < L.length) : tysF o (L.take (k + 1)) = addTy (tysF o (L.take k)) (L[k]!).ty := by
  rw [List.take_succ_eq_append_getElem hk, ← getElem!_pos L k hk, tysF_snoc]
/-- what zone.Types returns -/
def TypEnd (z : Zn) (a b : Int) (w : World) (e : Ending) (w' : World) : Prop := Below w.heap.size w w' ∧ (((z.betV a b).2 ≠ 0 ∧ e = .returned (.tuple #[.slice none 0 0, .int .i64 (z.betV a b).2])) ∨ ((z.betV a b).2 = 0 ∧ ∃ u, e = .returned (.tuple #[u, .int .i64 0]) ∧ w'.ownsRow w.heap.size 23 3 u (z.tysV a b).length ((z.tysV a b).flatMap Typ.cells)))
set_option maxRecDepth 100000 in
set_option maxHeartbeats 8000000 in
theorem Types_any (z : Zn) (vT vR : Value) (a b : Int) (w : World) (hm : HasMax w) (hT : Rd Trn.cells 4 w vT z.table) (hR : Rd Rule.cells 11 w vR z.tail) (hfs : z.form.size < 4294967281) (hll : z.tail.length ≤ 12 ∨ 100 < z.tail.length) :
    Calls Tryz.prog 19 #[z.v vT vR, .agg #[.int .i64 a, .int .i64 b]] w (TypEnd z a b w) := by
  have HBT := Lib.hid (fun W (hb : Below w.heap.size w W) => Between_own z vT vR a b W (hm.on hb) (hT.on hb) (hR.on hb) hfs hll)
  have HTA := Lib.hid (fun hv ht W (hb : Below w.heap.size w W) => typeAt_any z vT vR a W (hm.on hb) (hT.on hb) (hR.on hb) hfs (valid_len hv hll) hv ht)
  obtain ⟨AT, cT, rfl⟩ := rd_vf hT
  obtain ⟨AR, cR, rfl⟩ := rd_vf hR
  clear hT hR hm
  have b0 := (Blk.new w #[.string z.nm, .int .i64 z.first.off, .int .i64 z.first.sv, .string z.first.nm, .slice AT z.table.length cT, .slice AR z.tail.length cR, .int .i64 z.off, .string z.form, .int .i64 z.year] 27).alloc (.cells #[.int .i64 a, .int .i64 b] 34)
  have b1 := Blk.new (w.alloc (.cells #[.string z.nm, .int .i64 z.first.off, .int .i64 z.first.sv, .string z.first.nm, .slice AT z.table.length cT, .slice AR z.tail.length cR, .int .i64 z.off, .string z.form, .int .i64 z.year] 27)) #[.int .i64 a, .int .i64 b] 34
  rw [World.size_alloc] at b1
  have hB1 : Below w.heap.size w ((w.alloc (.cells #[.string z.nm, .int .i64 z.first.off, .int .i64 z.first.sv, .string z.first.nm, .slice AT z.table.length cT, .slice AR z.tail.length cR, .int .i64 z.off, .string z.form, .int .i64 z.year] 27)).alloc (.cells #[.int .i64 a, .int .i64 b] 34)) := ((Below.refl _ _).alloc (Nat.le_refl _) _).alloc (by simp) _
  unfold BetOwn at HBT
  unfold Zn.v at HBT HTA ⊢
  unfold TypEnd
  rcases bet_cases z a b with hbv | hbv | ⟨hsp, hv, hlen, hbv⟩
  · rw [hbv] at HBT ⊢
    have hn : ¬ ((1 : Int) = 0) := by decide
    clear hbv HTA
    go_enter Tryz.func19, Tryz.ntmps19
    go_wp2_with (go_at_call 12; refine (HBT.out _ hB1).mono ?_; rintro e w4 ⟨v6, rfl, hown6, hb4, _⟩)
    go_ret2
    exact ⟨hB1.trans (hb4.mono hB1.size), .inl ⟨by decide, rfl⟩⟩
  · rw [hbv] at HBT ⊢
    have hn : ¬ ((1 : Int) = 0) := by decide
    clear hbv HTA
    go_enter Tryz.func19, Tryz.ntmps19
    go_wp2_with (go_at_call 12; refine (HBT.out _ hB1).mono ?_; rintro e w4 ⟨v6, rfl, hown6, hb4, _⟩)
    go_ret2
    exact ⟨hB1.trans (hb4.mono hB1.size), .inl ⟨by decide, rfl⟩⟩
  · rw [hbv] at HBT ⊢
    obtain ⟨o, ho⟩ : ∃ o, z.typF a = o := ⟨_, rfl⟩
    have hsa := span_in hsp
    have HTA := Lib.hid (HTA.out hv (by unfold inT; simp; omega))
    rw [ho] at HTA
    unfold Typ.val at HTA
    have HSF := Lib.hid (show z.tysV a b = tysF o (z.betF a b) by unfold Zn.tysV; rw [ho])
    rw [HSF.out]
    generalize z.betF a b = L at *
    clear hbv hsp hv ho hsa HSF
    obtain ⟨i0, hi0, hz0, hz1, hz2⟩ := info_parts infoTy
    go_enter Tryz.func19, Tryz.ntmps19
    go_wp2_with fail
    generalize ((w.alloc (.cells #[.string z.nm, .int .i64 z.first.off, .int .i64 z.first.sv, .string z.first.nm, .slice AT z.table.length cT, .slice AR z.tail.length cR, .int .i64 z.off, .string z.form, .int .i64 z.year] 27)).alloc (.cells #[.int .i64 a, .int .i64 b] 34)) = W at *
    have hw : w.heap.size ≤ W.heap.size := hB1.size
    refine (HBT.out W hB1).mono ?_
    rintro e w4 ⟨v6, rfl, hown6, hb4, _⟩
    clear HBT
    have KZ := b0.below hb4 b0.lt
    have KI := b1.below hb4 b1.lt
    have KL := KZ.lt
    have KIL := KI.lt
    have z0 := KZ.cl 0 _ rfl
    have z1 := KZ.cl 1 _ rfl
    have z2 := KZ.cl 2 _ rfl
    have z3 := KZ.cl 3 _ rfl
    have z4 := KZ.cl 4 _ rfl
    have z5 := KZ.cl 5 _ rfl
    have z6 := KZ.cl 6 _ rfl
    have z7 := KZ.cl 7 _ rfl
    have z8 := KZ.cl 8 _ rfl
    have j0 := KI.cl 0 _ rfl
    have j1 := KI.cl 1 _ rfl
    have hw4 := hB1.trans (hb4.mono hw)
    have hw4s := hw4.size
    have HW4 := Lib.hid hw4
    have HROW := Lib.hid (rd_of_own trn_len hown6 rfl)
    obtain ⟨A6, c6, rfl⟩ := own_formN hown6
    clear hown6 hw4
    go_wp2_with fail
    refine (HTA.out _ HW4.out).mono ?_
    rintro e w6 ⟨rfl, hb6⟩
    clear KZ KI KL KIL z0 z1 z2 z3 z4 z5 z6 z7 z8 j0 j1
    have hO0 : (w6.alloc (.cells #[.int .i64 o.off, .int .i64 o.sv, .string o.nm] 23)).ownsRow w4.heap.size 23 3 (.slice (some ⟨w6.heap.size, 0, none⟩) 1 1) 1 [.int .i64 o.off, .int .i64 o.sv, .string o.nm] := World.ownsRow_lit w6 #[.int .i64 o.off, .int .i64 o.sv, .string o.nm] 1 hb6.size (by decide) rfl
    have hB6 : Below w4.heap.size w4 (w6.alloc (.cells #[.int .i64 o.off, .int .i64 o.sv, .string o.nm] 23)) := hb6.alloc hb6.size _
    have HO0 := Lib.hid hO0
    clear hO0
    go_wp2
    generalize w6.alloc (.cells #[.int .i64 o.off, .int .i64 o.sv, .string o.nm] 23) = W6 at *
    go_loopw [8, 27] (fun v8 i wr => ∃ k : Nat, k ≤ L.length ∧ i = .int .i64 k ∧ wr.ownsRow w4.heap.size 23 3 v8 (tysF o (L.take k)).length ((tysF o (L.take k)).flatMap Typ.cells) ∧ Below w4.heap.size w4 wr) (fun _ i _ => L.length - (intOf i).toNat)
    case atStart => exact ⟨0, Nat.zero_le _, rfl, HO0.out, hB6⟩
    case round =>
      obtain ⟨k, hk, rfl, hown, hbr⟩ := hrel
      have hszr := hbr.size
      have hlo : (tysF o (L.take k)).length ≤ k + 1 := Nat.le_trans (tysF_len _ _) (by rw [List.length_take]; omega)
      by_cases hlt : k < L.length
      · have HST := Lib.hid (tys_step (o := o) hlt)
        obtain ⟨g, off, rfl, hg, hcs⟩ : ∃ g off, A6 = some ⟨g, off, none⟩ ∧ g < wr.heap.size ∧ ∀ j, j < L.length → ∀ i u, (Trn.cells L[j]!)[i]? = some u → wr.cell? ⟨g, off + j * 4 + i, none⟩ = some u := by
          rcases HROW.out.on hbr with ⟨h0, _⟩ | ⟨g, off, c', hv', hg, hcs⟩
          · rw [h0] at hlt; exact absurd hlt (Nat.not_lt_zero _)
          · injection hv' with hv1 _ _
            exact ⟨g, off, hv1, hg, hcs⟩
        have hpos : 0 < (tysF o (L.take k)).length := List.length_pos_of_mem (tysF_ok o (L.take k)).2.1
        · skip
          have e0 := hcs k hlt 0 _ rfl
          have e1 := hcs k hlt 1 _ rfl
          have e2 := hcs k hlt 2 _ rfl
          have e3 := hcs k hlt 3 _ rfl
          rw [Nat.add_zero] at e0
          obtain ⟨x, hx⟩ : ∃ x, L[k]! = x := ⟨_, rfl⟩
          rw [hx] at e0 e1 e2 e3 HST
          obtain ⟨xa, xt⟩ := x
          dsimp only at e0 e1 e2 e3 HST
          clear hcs hx
          generalize tysF o (L.take k) = O at *
          have bx := Blk.new wr #[.int .i64 xa, .int .i64 xt.off, .int .i64 xt.sv, .string xt.nm] 38
          have hBA : Below w4.heap.size w4 (wr.alloc (.cells #[.int .i64 xa, .int .i64 xt.off, .int .i64 xt.sv, .string xt.nm] 38)) := hbr.alloc hbr.size _
          have hOA := own_on hown (alloc_below' wr (.cells #[.int .i64 xa, .int .i64 xt.off, .int .i64 xt.sv, .string xt.nm] 38))
          generalize hWA : wr.alloc (.cells #[.int .i64 xa, .int .i64 xt.off, .int .i64 xt.sv, .string xt.nm] 38) = WA at *
          have x0 := bx.cl 0 _ rfl
          have x1 := bx.cl 1 _ rfl
          have x2 := bx.cl 2 _ rfl
          have x3 := bx.cl 3 _ rfl
          have hRA := rd_of_own typ_len hOA rfl
          obtain ⟨A8, c8, rfl⟩ := own_formN hown
          have HOA := Lib.hid hOA
          have HCT := Lib.hid (show ∀ _ : Unit, Calls Tryz.prog 21 #[.slice A8 O.length c8, .agg #[.int .i64 xt.off, .int .i64 xt.sv, .string xt.nm]] WA fun e w' => e = .returned (.bool (decide (xt ∈ O))) ∧ Below WA.heap.size WA w' from fun _ => by
            rcases hRA with ⟨h0, A', c', hv'⟩ | ⟨g', o', c', hv', hg', hc'⟩
            · rw [h0] at hpos; exact absurd hpos (Nat.lt_irrefl _)
            · injection hv' with h1 h2 h3
              subst h1
              have := has_ty (c := c8) (n := O.length) xt WA (Nat.le_refl _) (by omega) hc'
              rwa [List.take_length] at this)
          clear hown hOA hRA
          by_cases hin : xt ∈ O
          · have HAD := Lib.hid (show addTy O xt = O from if_pos hin)
            rw [decide_eq_true hin] at HCT
            clear hin
            go_wp2_with (go_at_call 21; refine (HCT.out ()).mono ?_; rintro e w7 ⟨rfl, hb7⟩)
            go_roundw
            case rel => exact ⟨k + 1, by omega, by go_num, by rw [HST.out, HAD.out]; exact own_on HOA.out hb7, hBA.trans (hb7.mono hBA.size)⟩
            case measure => simp [intOf]; omega
          · have HAD := Lib.hid (show addTy O xt = O ++ [xt] from if_neg hin)
            rw [decide_eq_false hin] at HCT
            clear hin
            go_wp2_with fail
            refine (HCT.out ()).mono ?_
            rintro e w7 ⟨rfl, hb7⟩
            have bx7 := bx.below hb7 bx.lt
            have y1 := bx7.cl 1 _ rfl
            have y2 := bx7.cl 2 _ rfl
            have y3 := bx7.cl 3 _ rfl
            have HO7 := Lib.hid (own_on HOA.out hb7)
            have hB7 := hBA.trans (hb7.mono hBA.size)
            have hszB := hB7.size
            clear bx x0 x1 x2 x3 bx7
            go_wp2_with (at_builtin; go_loud (refine wpList_append_own _ rfl (.tmp 36) (.tmp 39) _ rfl w4.heap.size 23 i0 _ 3 32 Tryz.underlying49 hi0 hz0 hz1 hz2 rfl (by decide) _ _ _ rfl (HO7.out.alloc _) ⟨_, 0, none⟩ 1 1 (Typ.cells xt) rfl rfl (new_row_at (by simp) _) (typ_one _) (by simp only [maxLen]; omega) (by omega) (by simp; omega) ?_); intro v' w8 hown8 hg8 _)
            have hB8 : Below w4.heap.size w4 w8 := below_app HO7.out (Nat.le_refl _) (hB7.alloc hB7.size _) hg8
            go_roundw
            case rel => exact ⟨k + 1, by omega, by go_num, by rw [HST.out, HAD.out]; exact own_snoc (es := O) (x := xt) hown8, hB8⟩
            case measure => simp [intOf]; omega
      · obtain rfl : k = L.length := by omega
        rw [List.take_length] at hown
        have HO := Lib.hid hown
        clear hown
        go_wp2
        go_ret2
        exact ⟨HW4.out.trans (hbr.mono hw4s), .inr ⟨trivial, _, rfl, own_lower HO.out hw4s⟩⟩

end Go.Proofs.YtdpkolnfbimheaaGreat

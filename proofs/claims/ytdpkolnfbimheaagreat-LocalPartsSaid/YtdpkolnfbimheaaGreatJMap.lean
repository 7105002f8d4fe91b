/- local.Map. Printed by gen_map.py. -/
import Derived.Test.YtdpkolnfbimheaaGreatJPartP
import Derived.Test.YtdpkolnfbimheaaGreatJSpW
namespace Go.Proofs.YtdpkolnfbimheaaGreat
set_option linter.unusedSimpArgs false
set_option linter.unusedVariables false
open Go.ChangeShapes Go.WideShapes Go.ChangeAt Go.RowKit

/-- a span within time, of at most forty years -/
def mSpn (s : Spn) : Prop := tSpn s ∧ s.to - s.fr ≤ 1262278080
theorem invs_len (s : Spn) (ps : List Piece) : (invs s ps).length ≤ ps.length := List.length_filterMap_le _ _
theorem inverse_m (z : Zn) (vT vR : Value) (s : Spn) (w : World) (hm : HasMax w) (hT : Rd Trn.cells 4 w vT z.table) (hR : Rd Rule.cells 11 w vR z.tail) (hfs : z.form.size < 4294967281) (hll : z.tail.length ≤ 12) (htl : z.table.length ≤ 300) (hv : z.valid = true) (hs : mSpn s) :
    Calls Tryz.prog 89 #[z.v vT vR, .agg #[.int .i64 s.fr, .int .i64 s.to]] w fun e w' => ∃ v, e = .returned v ∧ w'.ownsRow w.heap.size 34 2 v (invs s (z.pcS s)).length ((invs s (z.pcS s)).flatMap encN) ∧ Below w.heap.size w w' :=
  inverse_any z vT vR s.fr s.to w hm hT hR hfs hll (mild40 hv htl hll (by have := hs.2; omega)) (pcs_of hv (wide_lt hs.1)) (tSpn_ok hs.1)
theorem invs_bd {z : Zn} (hv : z.valid = true) (htl : z.table.length ≤ 300) (hll : z.tail.length ≤ 12) {s : Spn} (hs : mSpn s) : (invs s (z.pcS s)).length ≤ 1001 :=
  Nat.le_trans (invs_len _ _) (pieces_len (mild40 hv htl hll (by have := hs.2; omega)))
theorem mapL_take {z : Zn} {l : List Spn} {k : Nat} (hk : k < l.length) : z.mapL (l.take (k + 1)) = z.mapL (l.take k) ++ invs l[k]! (z.pcS l[k]!) := by
  unfold Zn.mapL
  rw [List.take_succ_eq_append_getElem hk, List.flatMap_append, getElem!_pos l k hk]
  simp
theorem mapL_len {z : Zn} (hv : z.valid = true) (htl : z.table.length ≤ 300) (hll : z.tail.length ≤ 12) : ∀ {l : List Spn}, (∀ s ∈ l, mSpn s) → (z.mapL l).length ≤ 1001 * l.length
  | [], _ => Nat.zero_le _
  | s :: l, h => by
    have h1 := invs_bd hv htl hll (h s List.mem_cons_self)
    have h2 := mapL_len hv htl hll (l := l) fun q hq => h q (List.mem_cons_of_mem _ hq)
    unfold Zn.mapL at h2 ⊢
    rw [List.flatMap_cons, List.length_append, List.length_cons]
    omega
set_option maxRecDepth 100000 in
set_option maxHeartbeats 8000000 in
theorem Map_any (z : Zn) (vT vR : Value) (l : List Spn) (v : Value) (w : World) (hm : HasMax w) (hT : Rd Trn.cells 4 w vT z.table) (hR : Rd Rule.cells 11 w vR z.tail) (hfs : z.form.size < 4294967281) (hll : z.tail.length ≤ 12) (htl : z.table.length ≤ 300) (hv : z.valid = true) (hl : ∀ s ∈ l, mSpn s) (hlen : l.length ≤ 1000) (hRl : Rd encN 2 w v l) :
    Calls Tryz.prog 38 #[z.v vT vR, v] w (UnionEnd (z.mapL l) ⟨-62135596800, 253402300800⟩ w.heap.size w) := by
  have HV := Lib.hid (fun W (hb : Below w.heap.size w W) => Valid_zone z vT vR W (hm.on hb) (hT.on hb) (hR.on hb) hfs (.inl hll))
  rw [hv] at HV
  have HCF := Lib.hid (fun W (hb : Below w.heap.size w W) => cfS_no 87 (enters_of Tryz.func87 (by kernel_rfl) rfl) v l W tSpn (fun s hs => (hl s hs).1) ⟨0, 1⟩ (by unfold tSpn; decide) (fun W s hs => map1_any s W hs.1 hs.2.1 hs.2.2) (by omega) (hRl.on hb))
  have HIN := Lib.hid (fun s (hs : mSpn s) W (hb : Below w.heap.size w W) => inverse_m z vT vR s W (hm.on hb) (hT.on hb) (hR.on hb) hfs hll htl hv hs)
  have HML := Lib.hid (mapL_len hv htl hll hl)
  have HMT := Lib.hid (fun k => mapL_len hv htl hll (l := l.take k) fun s hs => hl s (List.mem_of_mem_take hs))
  have HU := Lib.hid (fun u n W hlen hu hn => union_any (z.mapL l) ⟨-62135596800, 253402300800⟩ n u W (by decide) (mapL_ok hv fun s hs => (hl s hs).1) hlen hu hn)
  have HL := Lib.hid hl
  have HRL := Lib.hid (fun W (hb : Below w.heap.size w W) => hRl.on hb)
  have HIB := Lib.hid (fun s (hs : mSpn s) => invs_bd hv htl hll hs)
  obtain ⟨AT, cT, rfl⟩ := rd_vf hT
  obtain ⟨AR, cR, rfl⟩ := rd_vf hR
  obtain ⟨Al, cl, rfl⟩ := rd_vf hRl
  clear hT hR hm hRl hl hv
  have b0 := Blk.new w #[.string z.nm, .int .i64 z.first.off, .int .i64 z.first.sv, .string z.first.nm, .slice AT z.table.length cT, .slice AR z.tail.length cR, .int .i64 z.off, .string z.form, .int .i64 z.year] 27
  have hB1 : Below w.heap.size w (w.alloc (.cells #[.string z.nm, .int .i64 z.first.off, .int .i64 z.first.sv, .string z.first.nm, .slice AT z.table.length cT, .slice AR z.tail.length cR, .int .i64 z.off, .string z.form, .int .i64 z.year] 27)) := (Below.refl _ _).alloc (Nat.le_refl _) _
  have dl : decide ((2000 : Int) < (l.length : Int)) = false := decide_eq_false (by omega)
  obtain ⟨i0, hi0, hz0, hz1, hz2⟩ := info_parts info_span
  unfold UnionEnd at HU ⊢
  unfold Zn.v at HV HIN ⊢
  go_enter Tryz.func38, Tryz.ntmps38
  go_wp2_with fail
  generalize w.alloc (.cells #[.string z.nm, .int .i64 z.first.off, .int .i64 z.first.sv, .string z.first.nm, .slice AT z.table.length cT, .slice AR z.tail.length cR, .int .i64 z.off, .string z.form, .int .i64 z.year] 27) = W at *
  have hw : w.heap.size ≤ W.heap.size := hB1.size
  refine (HV.out W hB1).mono ?_
  rintro e w1 ⟨rfl, hb1⟩
  clear HV
  go_wp2_with fail
  refine (HCF.out w1 (hB1.trans (hb1.mono hw))).mono ?_
  rintro e w2 ⟨rfl, hb2⟩
  clear HCF
  have hb2 := hb1.trans (hb2.mono hb1.size)
  go_wp2
  go_loopw [6, 23] (fun v6 i wr => ∃ k : Nat, k ≤ l.length ∧ i = .int .i64 k ∧ wr.ownsRow W.heap.size 34 2 v6 (z.mapL (l.take k)).length ((z.mapL (l.take k)).flatMap encN) ∧ Below W.heap.size W wr) (fun _ i _ => l.length - (intOf i).toNat)
  case atStart => exact ⟨0, Nat.zero_le _, rfl, World.ownsRow_nil _ _ _ _, hb2⟩
  case round =>
    obtain ⟨k, hk, rfl, hown, hbr⟩ := hrel
    have hszr := hbr.size
    have hlo : (z.mapL (l.take k)).length ≤ 1001 * k := Nat.le_trans (HMT.out k) (Nat.mul_le_mul_left _ (List.length_take_le _ _))
    by_cases hlt : k < l.length
    · have HST := Lib.hid (mapL_take (z := z) hlt)
      have hms := HL.out (l[k]!) (by rw [getElem!_pos l k hlt]; exact List.getElem_mem _)
      obtain ⟨g, o, rfl, hg, e0, e1⟩ : ∃ g o, Al = some ⟨g, o, none⟩ ∧ g < wr.heap.size ∧ wr.cell? ⟨g, o + k * 2, none⟩ = some (.int .i64 (l[k]!).fr) ∧ wr.cell? ⟨g, o + k * 2 + 1, none⟩ = some (.int .i64 (l[k]!).to) := by
        obtain ⟨_, hR0 | ⟨g, o, hA, hg, hc⟩⟩ := rd_at (HRL.out wr (hB1.trans (hbr.mono hw)))
        · rw [hR0] at hlt; exact absurd hlt (Nat.not_lt_zero _)
        · exact ⟨g, o, hA, hg, (hc k hlt).1, (hc k hlt).2⟩
      have HIk := Lib.hid (HIN.out _ hms)
      have hbd := HIB.out _ hms
      obtain ⟨s, hs⟩ : ∃ s, l[k]! = s := ⟨_, rfl⟩
      rw [hs] at e0 e1 HST HIk hbd
      clear hs hms
      generalize invs s (z.pcS s) = I at *
      generalize z.mapL (l.take k) = M at *
      obtain ⟨A6, c6, rfl⟩ := own_formN hown
      have hBA : Below W.heap.size W (wr.alloc (.cells #[.int .i64 s.fr, .int .i64 s.to] 34)) := hbr.alloc hbr.size _
      have HOA := Lib.hid (own_on hown (alloc_below' wr (.cells #[.int .i64 s.fr, .int .i64 s.to] 34)))
      have bs := Blk.new wr #[.int .i64 s.fr, .int .i64 s.to] 34
      clear hown
      generalize hWA : wr.alloc (.cells #[.int .i64 s.fr, .int .i64 s.to] 34) = WA at *
      have s0 := bs.cl 0 _ rfl
      have s1 := bs.cl 1 _ rfl
      have KZ := b0.below hBA b0.lt
      have KL := KZ.lt
      have z0 := KZ.cl 0 _ rfl
      have z1 := KZ.cl 1 _ rfl
      have z2 := KZ.cl 2 _ rfl
      have z3 := KZ.cl 3 _ rfl
      have z4 := KZ.cl 4 _ rfl
      have z5 := KZ.cl 5 _ rfl
      have z6 := KZ.cl 6 _ rfl
      have z7 := KZ.cl 7 _ rfl
      have z8 := KZ.cl 8 _ rfl
      go_wp2_with fail
      refine (HIk.out WA (hB1.trans (hBA.mono hw))).mono ?_
      rintro e w5 ⟨v5, rfl, hr5, hb5⟩
      have hB5 := hBA.trans (hb5.mono hBA.size)
      have HO5 := Lib.hid (own_on HOA.out hb5)
      have HR5 := Lib.hid (rd_of_own encN_len hr5 rfl)
      have hsz5 := hB5.size
      clear hr5 s0 s1 bs hWA
      go_wp2_with (at_builtin; go_loud (refine wpList_append_rd rfl (.tmp 27) (.tmp 30) _ rfl W.heap.size 34 i0 _ 2 16 Tryz.underlying46 hi0 hz0 hz1 hz2 rfl (by decide) _ _ _ rfl HO5.out encN encN_len encN_one _ rfl I HR5.out (by simp only [maxLen]; omega) (by omega) (by omega) ?_); intro v7 w7 hown7 hg7)
      have hB7 : Below W.heap.size W w7 := below_app HO5.out (Nat.le_refl _) hB5 hg7
      go_roundw
      case rel => exact ⟨k + 1, by omega, by go_num, by rw [HST.out, List.length_append, List.flatMap_append]; exact hown7, hB7⟩
      case measure => simp [intOf]; omega
    · obtain rfl : k = l.length := by omega
      rw [List.take_length] at hown hlo
      have hol := HML.out
      obtain ⟨A6, c6, rfl⟩ := own_formN hown
      have HUU := Lib.hid (HU.out _ W.heap.size wr (by omega) hown hszr)
      clear hown
      go_wp2_with fail
      refine HUU.out.mono ?_
      rintro e w9 ⟨O, u, h1, h2, ⟨h3, rfl, h4⟩ | ⟨h3, rfl⟩⟩
      · go_wp2
        go_ret2
        exact ⟨O, u, h1, hB1.trans ((hbr.trans h2).mono hw), .inl ⟨h3, rfl, own_lower h4 hw⟩⟩
      · go_wp2
        go_ret2
        exact ⟨O, u, h1, hB1.trans ((hbr.trans h2).mono hw), .inr ⟨h3, rfl⟩⟩

end Go.Proofs.YtdpkolnfbimheaaGreat

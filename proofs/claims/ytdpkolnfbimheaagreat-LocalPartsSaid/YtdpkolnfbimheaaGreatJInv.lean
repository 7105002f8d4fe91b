/- local.inverse. Printed by gen_inv.py. -/
import Derived.Test.YtdpkolnfbimheaaGreatGRn
import Derived.Test.YtdpkolnfbimheaaGreatGLb
import Derived.Test.YtdpkolnfbimheaaGreatJGapsQ
import Derived.Deep.RegionHeld3
namespace Go.Proofs.YtdpkolnfbimheaaGreat
set_option linter.unusedSimpArgs false
set_option linter.unusedVariables false
open Go.RowKit Go.Shelf Go.ChangeShapes Go.WideShapes Go.ChangeAt
attribute [local go_sem] Oper.semAt_some

/-- the instants of a piece whose local time is in a span -/
def invP (s : Spn) (p : Piece) : Option Spn := if meetB s p.img = true then some ⟨(meetF s p.img).fr - p.off, (meetF s p.img).to - p.off⟩ else none
def invs (s : Spn) (ps : List Piece) : List Spn := ps.filterMap (invP s)
/-- the same, as the machine reckons -/
def invQ (s : Spn) (p : Piece) : List Spn := if meetB s (imgW p) = true then [⟨wrap64 ((meetF s (imgW p)).fr - p.off), wrap64 ((meetF s (imgW p)).to - p.off)⟩] else []
def invW (s : Spn) : List Piece → List Spn
  | [] => []
  | p :: ps => invQ s p ++ invW s ps
theorem invW_snoc (s : Spn) (p : Piece) : ∀ ps, invW s (ps ++ [p]) = invW s ps ++ invQ s p
  | [] => by simp [invW]
  | q :: ps => by rw [List.cons_append, invW, invW, invW_snoc s p ps, List.append_assoc]
theorem invQ_len (s : Spn) (p : Piece) : (invQ s p).length ≤ 1 := by unfold invQ; split <;> simp
theorem invW_len (s : Spn) : ∀ ps, (invW s ps).length ≤ ps.length
  | [] => Nat.zero_le _
  | p :: ps => by
    have h1 := invQ_len s p
    have h2 := invW_len s ps
    rw [invW, List.length_append, List.length_cons]
    omega
theorem invW_F {s : Spn} (hs : s.ok = true) : ∀ {ps : List Piece}, (∀ p ∈ ps, (-62135596800 ≤ p.fr ∧ p.fr < p.to ∧ p.to ≤ 253402300800) ∧ -93600 < p.off ∧ p.off < 93600) → invW s ps = invs s ps
  | [], _ => rfl
  | p :: ps, h => by
    obtain ⟨⟨h1, h2, h3⟩, h4, h5⟩ := h p List.mem_cons_self
    obtain ⟨g1, g2, g3⟩ := Spn.ok_iff.1 hs
    have e : imgW p = p.img := by
      unfold imgW Piece.img
      rw [show wrap64 (p.fr + p.off) = p.fr + p.off by unfold wrap64; omega, show wrap64 (p.to + p.off) = p.to + p.off by unfold wrap64; omega]
    have ih := invW_F hs fun q hq => h q (List.mem_cons_of_mem _ hq)
    unfold invs at ih ⊢
    rw [invW, ih, List.filterMap_cons]
    unfold invQ invP
    rw [e]
    by_cases hm : meetB s p.img = true
    · rw [if_pos hm, if_pos hm]
      unfold meetF Piece.img
      dsimp only
      rw [show wrap64 (max s.fr (p.fr + p.off) - p.off) = max s.fr (p.fr + p.off) - p.off by unfold wrap64; omega, show wrap64 (min s.to (p.to + p.off) - p.off) = min s.to (p.to + p.off) - p.off by unfold wrap64; omega]
      rfl
    · rw [if_neg hm, if_neg hm]; rfl
/-- the loop of inverse -/
def InvI (Bo Bs base : Nat) (s : Spn) (pre : List Piece) (W : World) : Prop := BoxRow W Bo 46 34 2 base (invW s pre).length ((invW s pre).flatMap encN) ∧ Blk W Bs #[.int .i64 s.fr, .int .i64 s.to] 34
theorem invI_own (D Bo Bs base : Nat) (s : Spn) : OwnT 23 D (InvI Bo Bs base s) := OwnT.and (boxRow_ownT _ _ (by decide) (by decide)) (blk_ownT _ (by decide))
theorem keeps_below {W W' : World} (h : Below W.heap.size W W') : KeepsOthers W W' := KeepsOthers.of_grownBy (only_of_below h none) (fun j o e => by cases e)
set_option maxRecDepth 100000 in
set_option maxHeartbeats 8000000 in
theorem inverse_any (z : Zn) (vT vR : Value) (a b : Int) (w : World) (hm : HasMax w) (hT : Rd Trn.cells 4 w vT z.table) (hR : Rd Rule.cells 11 w vR z.tail) (hfs : z.form.size < 4294967281) (hll : z.tail.length ≤ 12) (hM : Mild z (wideA a) (wideB b)) (hP : Pcs (z.pieces (wideA a) (wideB b)) (wideA a) (wideB b)) (hok : (⟨a, b⟩ : Spn).ok = true) :
    Calls Tryz.prog 89 #[z.v vT vR, .agg #[.int .i64 a, .int .i64 b]] w fun e w' => ∃ v, e = .returned v ∧ w'.ownsRow w.heap.size 34 2 v (invs ⟨a, b⟩ (z.pieces (wideA a) (wideB b))).length ((invs ⟨a, b⟩ (z.pieces (wideA a) (wideB b))).flatMap encN) ∧ Below w.heap.size w w' := by
  obtain ⟨o1, o2, o3⟩ := Spn.ok_iff.1 hok
  dsimp only at o1 o2 o3
  have HST := Lib.hid (fun Bi Bz W (hb : Below w.heap.size w W) hz hi => pieces_stops 4 (by omega) Bi Bz z vT vR (wideA a) (wideB b) W hM hll hfs (hm.on hb) (hT.on hb) (hR.on hb) hz hi)
  have HBD := Lib.hid (invW_F hok fun p hp => ⟨by have h1 := (contig_bd hP.ct).1 p hp; have := hP.lo; have := hP.hi; omega, hP.off p hp⟩)
  have HLN := Lib.hid (pieces_len hM)
  have HWD := Lib.hid (fun W => wide_any a b W ⟨by omega, by omega⟩ ⟨by omega, by omega⟩)
  have HME := Lib.hid (fun x W => Meet_any ⟨a, b⟩ x W)
  unfold MeetEnd at HME
  obtain ⟨AT, cT, rfl⟩ := rd_vf hT
  obtain ⟨AR, cR, rfl⟩ := rd_vf hR
  have HPC := Lib.hid (fun W => pieces_any z AT AR z.table.length z.tail.length cT cR (wideA a) (wideB b) W)
  unfold PcEnd at HPC
  clear hT hR hm hM hP hok
  generalize hPP : z.pieces (wideA a) (wideB b) = PL at *
  unfold Zn.v at HPC ⊢
  refine (callsIn_wide (n := 5)).1 ?_
  refine callsIn_of_wp_marks Tryz.func89 rfl trivial ?_ rfl
  simp only [Tryz.ntmps89, List.size_toArray, List.length_cons, List.length_nil, Nat.reduceAdd, Nat.reduceSub, Array.replicate_succ, Array.replicate_zero, List.push_toArray, List.append_toArray, List.nil_append, List.cons_append]
  have b1 := Blk.new w #[.string z.nm, .int .i64 z.first.off, .int .i64 z.first.sv, .string z.first.nm, .slice AT z.table.length cT, .slice AR z.tail.length cR, .int .i64 z.off, .string z.form, .int .i64 z.year] 27
  have b2 := Blk.new (w.alloc (.cells #[.string z.nm, .int .i64 z.first.off, .int .i64 z.first.sv, .string z.first.nm, .slice AT z.table.length cT, .slice AR z.tail.length cR, .int .i64 z.off, .string z.form, .int .i64 z.year] 27)) #[.int .i64 a, .int .i64 b] 34
  have b3 := Blk.new ((w.alloc (.cells #[.string z.nm, .int .i64 z.first.off, .int .i64 z.first.sv, .string z.first.nm, .slice AT z.table.length cT, .slice AR z.tail.length cR, .int .i64 z.off, .string z.form, .int .i64 z.year] 27)).alloc (.cells #[.int .i64 a, .int .i64 b] 34)) #[.slice none 0 0] 46
  have hB2 : Below w.heap.size w (((w.alloc (.cells #[.string z.nm, .int .i64 z.first.off, .int .i64 z.first.sv, .string z.first.nm, .slice AT z.table.length cT, .slice AR z.tail.length cR, .int .i64 z.off, .string z.form, .int .i64 z.year] 27)).alloc (.cells #[.int .i64 a, .int .i64 b] 34)).alloc (.cells #[.slice none 0 0] 46)) := (((Below.refl _ _).alloc (Nat.le_refl _) _).alloc (by simp) _).alloc (by simp; omega) _
  have hsz2 : w.heap.size + 1 + 1 < (((w.alloc (.cells #[.string z.nm, .int .i64 z.first.off, .int .i64 z.first.sv, .string z.first.nm, .slice AT z.table.length cT, .slice AR z.tail.length cR, .int .i64 z.off, .string z.form, .int .i64 z.year] 27)).alloc (.cells #[.int .i64 a, .int .i64 b] 34)).alloc (.cells #[.slice none 0 0] 46)).heap.size := by simp
  simp only [World.size_alloc] at b2 b3
  have b1 := (b1.alloc (.cells #[.int .i64 a, .int .i64 b] 34)).alloc (.cells #[.slice none 0 0] 46)
  have b2 := b2.alloc (.cells #[.slice none 0 0] 46)
  gi_wp2
  generalize (((w.alloc (.cells #[.string z.nm, .int .i64 z.first.off, .int .i64 z.first.sv, .string z.first.nm, .slice AT z.table.length cT, .slice AR z.tail.length cR, .int .i64 z.off, .string z.form, .int .i64 z.year] 27)).alloc (.cells #[.int .i64 a, .int .i64 b] 34)).alloc (.cells #[.slice none 0 0] 46)) = W2 at *
  have z0 := b1.cl 0 _ rfl
  have z1 := b1.cl 1 _ rfl
  have z2 := b1.cl 2 _ rfl
  have z3 := b1.cl 3 _ rfl
  have z4 := b1.cl 4 _ rfl
  have z5 := b1.cl 5 _ rfl
  have z6 := b1.cl 6 _ rfl
  have z7 := b1.cl 7 _ rfl
  have z8 := b1.cl 8 _ rfl
  have l0 := b2.cl 0 _ rfl
  have l1 := b2.cl 1 _ rfl
  have hsz0 : w.heap.size < W2.heap.size := by omega
  have hsz1 : w.heap.size + 1 < W2.heap.size := by omega
  have hdr : Below W2.heap.size W2 W2.drew := below_drewN (Below.refl W2.heap.size W2) 1
  have HS := Lib.hid (fun w' (hb : Below W2.heap.size W2 w') => And.intro hb (And.intro ((hb.cell (p := ⟨w.heap.size, 0, none⟩) hsz0).trans z0) (And.intro ((hb.cell (p := ⟨w.heap.size, 1, none⟩) hsz0).trans z1) (And.intro ((hb.cell (p := ⟨w.heap.size, 2, none⟩) hsz0).trans z2) (And.intro ((hb.cell (p := ⟨w.heap.size, 3, none⟩) hsz0).trans z3) (And.intro ((hb.cell (p := ⟨w.heap.size, 4, none⟩) hsz0).trans z4) (And.intro ((hb.cell (p := ⟨w.heap.size, 5, none⟩) hsz0).trans z5) (And.intro ((hb.cell (p := ⟨w.heap.size, 6, none⟩) hsz0).trans z6) (And.intro ((hb.cell (p := ⟨w.heap.size, 7, none⟩) hsz0).trans z7) (And.intro ((hb.cell (p := ⟨w.heap.size, 8, none⟩) hsz0).trans z8) (And.intro ((hb.cell (p := ⟨w.heap.size + 1, 0, none⟩) hsz1).trans l0) ((hb.cell (p := ⟨w.heap.size + 1, 1, none⟩) hsz1).trans l1))))))))))))
  refine wpIn_wide.2 (wp_region_noPanic ?_)
  go_region_held3 (fun w' => Below W2.heap.size W2 w' ∧ w'.cell? ⟨w.heap.size, 0, none⟩ = some (.string z.nm) ∧ w'.cell? ⟨w.heap.size, 1, none⟩ = some (.int .i64 z.first.off) ∧ w'.cell? ⟨w.heap.size, 2, none⟩ = some (.int .i64 z.first.sv) ∧ w'.cell? ⟨w.heap.size, 3, none⟩ = some (.string z.first.nm) ∧ w'.cell? ⟨w.heap.size, 4, none⟩ = some (.slice AT z.table.length cT) ∧ w'.cell? ⟨w.heap.size, 5, none⟩ = some (.slice AR z.tail.length cR) ∧ w'.cell? ⟨w.heap.size, 6, none⟩ = some (.int .i64 z.off) ∧ w'.cell? ⟨w.heap.size, 7, none⟩ = some (.string z.form) ∧ w'.cell? ⟨w.heap.size, 8, none⟩ = some (.int .i64 z.year) ∧ w'.cell? ⟨w.heap.size + 1, 0, none⟩ = some (.int .i64 a) ∧ w'.cell? ⟨w.heap.size + 1, 1, none⟩ = some (.int .i64 b)) (first | exact HS.out _ hdr | exact HS.out _ K8 | exact HS.out _ K6 | go_keep)
    (first | (go_at_call 67; refine (HWD.out _).mono ?_; rintro e w6 ⟨rfl, hb6⟩; have K6 := hdr.trans (hb6.mono hdr.size); clear HWD) | (go_at_call 111; refine (HPC.out _).mono ?_; rintro e w8 ⟨Bi, Bz, rfl, hzB, hiB, hBi0, hb8⟩; have K8 := K6.trans (hb8.mono K6.size)))
  all_goals
    have hB8 : Below w.heap.size w w8 := hB2.trans (K8.mono (Nat.le_of_lt hsz0))
    have c2 := b2.below K8 hsz1
    have c3 := b3.below K8 hsz2
    have hs8 := K8.size
    have hBi1 := hiB.lt
    have hBi2 : w.heap.size + 1 + 1 < Bi := by have := K6.size; omega
    have HSS := Lib.hid (HST.out Bi Bz w8 hB8 hzB hiB)
    clear HS z0 z1 z2 z3 z4 z5 z6 z7 z8 l0 l1 b1 b2 b3 hdr HPC HST hb6 hb8 K6 hB2
    obtain ⟨i0, hi0, hz0, hz1, hz2⟩ := info_parts info_span
    refine NoPanic.normal ?_
    gi_wp2
    refine wpIn_range_T (T := 23) rfl (by omega) (gf := 149) (lb := #[.pointer (some ⟨Bi, 0, none⟩), .pointer (some ⟨Bz, 0, none⟩)]) rfl trivial (enters_of Tryz.func149 (by kernel_rfl) rfl)
      HSS.out (fun h k => h.trans k) (fun W l o o' _ h hc => kpP_b W l o o' h hc) (Below.refl _ _) (fun _ => rfl)
      (fun pre W => InvI (w.heap.size + 1 + 1) (w.heap.size + 1) w8.heap.size ⟨a, b⟩ pre W ∧ Below w.heap.size w W ∧ w8.heap.size ≤ W.heap.size)
      (fun _ _ _ => False)
      (OwnT.and (invI_own _ _ _ _ _) (OwnT.and (ownT_below (by omega) (by omega)) (ownT_size _ _ _)))
      (fun _ => fun _ _ _ _ h _ _ => h)
      ⟨⟨⟨_, c3, World.ownsRow_nil _ _ _ _⟩, c2⟩, hB8, Nat.le_refl _⟩
      (fun x a' W => ∃ Bx, w.heap.size + 1 + 1 < Bx ∧ Blk W Bx #[.int .i64 x.fr, .int .i64 x.to] 34 ∧ a' = { tmps := #[.agg #[.string z.nm, .int .i64 z.first.off, .int .i64 z.first.sv, .string z.first.nm, .slice AT z.table.length cT, .slice AR z.tail.length cR, .int .i64 z.off, .string z.form, .int .i64 z.year], .agg #[.int .i64 a, .int .i64 b], .pointer (some ⟨w.heap.size, 0, none⟩), .pointer (some ⟨w.heap.size + 1, 0, none⟩), .slice none 0 0, .pointer (some ⟨w.heap.size + 1 + 1, 0, none⟩), .pointer (some ⟨Bx, 0, none⟩), .int .i64 x.off, undef, undef, .agg #[.string z.nm, .int .i64 z.first.off, .int .i64 z.first.sv, .string z.first.nm, .slice AT z.table.length cT, .slice AR z.tail.length cR, .int .i64 z.off, .string z.form, .int .i64 z.year], .agg #[.int .i64 a, .int .i64 b], .agg #[.int .i64 (wideA a), .int .i64 (wideB b)], .func (.func 149) #[] #[.pointer (some ⟨Bi, 0, none⟩), .pointer (some ⟨Bz, 0, none⟩)], .agg #[.int .i64 x.fr, .int .i64 x.to], .int .i64 x.off, undef, undef, undef, undef, undef, undef, undef, undef, undef, undef, undef, undef, undef, undef, undef, undef, undef, undef, undef, undef, undef, undef, undef, undef, undef, undef, undef, undef], defers := [] })
      (fun x a' => ownT_ex fun Bx => OwnT.and (ownT_pure _ _ _) (OwnT.and (blk_ownT _ (by decide)) (ownT_pure _ _ _))) ?assign ?body ?done ?stop
    case assign =>
      rintro l1 pre x W K ⟨hi, hb, hW8⟩ hK
      unfold encP
      gi_wp2
      exact hK _ _ ((KeepsOthers.alloc _ _).from _) ((KpP.refl _ _).alloc _) ⟨invI_own 0 _ _ _ _ pre W _ none hi (World.grownBy_alloc W _ none) (fun r e => by cases e), hb.alloc hb.size _, (by simp; omega)⟩ ⟨W.heap.size, (by omega), Blk.new W _ _, rfl⟩
    case body =>
      rintro l1 pre x a' W ⟨⟨⟨v, hv, hr⟩, hl⟩, hb, hW8⟩ ⟨Bx, hBx, bX, rfl⟩ hlt
      dsimp only at hl
      obtain ⟨A, c, rfl⟩ := own_formN hr
      have x0 := bX.cl 0 _ rfl
      have x1 := bX.cl 1 _ rfl
      have l0 := hl.cl 0 _ rfl
      have l1 := hl.cl 1 _ rfl
      have hln := invW_len ⟨a, b⟩ pre
      have hL := HLN.out
      have HSN := Lib.hid (invW_snoc ⟨a, b⟩ x pre)
      have HMx := Lib.hid (HME.out (imgW x))
      unfold imgW at HMx
      dsimp only at HMx
      cases hm : meetB ⟨a, b⟩ ⟨wrap64 (x.fr + x.off), wrap64 (x.to + x.off)⟩
      · rw [meetV_no hm] at HMx
        have HQ := Lib.hid (show invQ ⟨a, b⟩ x = [] from if_neg (by unfold imgW; rw [hm]; exact Bool.false_ne_true))
        clear hm
        gi_wp2_with (refine ⟨trivial, ?_⟩; gi_at_call 74; refine (callsIn_wide.2 (HMx.out _)).mono ?_; rintro e w9 ⟨rfl, hb9⟩)
        have hA : Below W.heap.size W (w9.alloc (.cells #[.int .i64 0, .int .i64 0] 34)) := hb9.alloc hb9.size _
        refine ⟨(keeps_below hA).from _, (KpP.refl _ _).below hA, ⟨⟨_, hv.below hA hv.lt, ?_⟩, hl.below hA hl.lt⟩, hb.trans (hA.mono hb.size), Nat.le_trans hW8 hA.size⟩
        rw [HSN.out, HQ.out, List.append_nil]
        exact own_on hr hA
      · rw [meetV_yes hm] at HMx
        have HQ := Lib.hid (show invQ ⟨a, b⟩ x = [⟨wrap64 ((meetF ⟨a, b⟩ ⟨wrap64 (x.fr + x.off), wrap64 (x.to + x.off)⟩).fr - x.off), wrap64 ((meetF ⟨a, b⟩ ⟨wrap64 (x.fr + x.off), wrap64 (x.to + x.off)⟩).to - x.off)⟩] from if_pos hm)
        clear hm
        generalize meetF ⟨a, b⟩ ⟨wrap64 (x.fr + x.off), wrap64 (x.to + x.off)⟩ = m at *
        gi_wp2_with fail
        refine ⟨trivial, ?_⟩
        gi_at_call 74
        refine (callsIn_wide.2 (HMx.out _)).mono ?_
        rintro e w9 ⟨rfl, hb9⟩
        have hA : Below W.heap.size W (w9.alloc (.cells #[.int .i64 m.fr, .int .i64 m.to] 34)) := hb9.alloc hb9.size _
        have bm := Blk.new w9 #[.int .i64 m.fr, .int .i64 m.to] 34
        have m0 := bm.cl 0 _ rfl
        have m1 := bm.cl 1 _ rfl
        have v0 := (hv.below hA hv.lt).cl 0 _ rfl
        have hrA := own_on hr hA
        have HRA := Lib.hid hrA
        have hsA := hA.size
        clear hrA x0 x1 l0 l1 bm
        generalize hWA : w9.alloc (.cells #[.int .i64 m.fr, .int .i64 m.to] 34) = WA at *
        gi_wp2_with (gi_at_builtin; go_loud (refine wpListIn_append_own _ rfl _ _ 46 rfl w8.heap.size 34 i0 _ 2 16 Tryz.underlying46 hi0 hz0 hz1 hz2 rfl (by decide) _ _ _ rfl (HRA.out.alloc _) ⟨_, 0, none⟩ 1 1 (encN ⟨wrap64 (m.fr - x.off), wrap64 (m.to - x.off)⟩) rfl rfl (new_row_at (by simp) _) (encN_one _) (by simp only [maxLen]; omega) (by omega) (by simp; omega) ?_); intro v' w1 hown' hgrow _; obtain ⟨hv1, hv2, hr2, hk2, hp2, hb2⟩ := appended hv hr (by decide) (by decide) (by decide) (by decide) (by decide) (by omega) hBi1 (Nat.le_refl _) (by omega) (by omega) (hA.alloc hA.size _) hown' hgrow; obtain ⟨g', cap', rfl⟩ := ownsRow_succ hown'; have hc1 := hv1.cl 0 _ rfl; have hf1 := hv1.frozen 0)
        refine ⟨hk2.from _, hp2, ⟨⟨_, hv2, ?_⟩, hl.below hb2 (by omega)⟩, hb.trans (hb2.mono (by omega)), Nat.le_trans hW8 hb2.size⟩
        rw [HSN.out, HQ.out, List.length_append, List.flatMap_append]
        exact hr2
    case done =>
      rintro D ys W hD hys ⟨⟨⟨v, hv, hr⟩, hl⟩, hb, _⟩ hK
      subst hys
      obtain ⟨A, c, rfl⟩ := own_formN hr
      have v0 := hv.cl 0 _ rfl
      have HR := Lib.hid (own_base (ownsRow_putObj hr (.deferred none) hK rfl) (show w.heap.size ≤ w8.heap.size by omega))
      rw [HBD.out] at HR v0
      gi_wp2
      refine ⟨by simp, .inl ⟨_, _, rfl, run_takeDeferred hK, ?_⟩⟩
      refine ⟨_, results_tmp rfl _ _ _, ?_⟩
      exact ⟨_, rfl, HR.out, hb.trans (belowK_b (w := w8) (by omega) W D _ _ hD hK rfl rfl)⟩
    case stop =>
      rintro D c pre W hD _ h hK
      exact h.elim

end Go.Proofs.YtdpkolnfbimheaaGreat

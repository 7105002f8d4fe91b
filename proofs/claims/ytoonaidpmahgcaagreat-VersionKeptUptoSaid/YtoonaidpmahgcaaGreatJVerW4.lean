/- version.Instants. Printed by gen_veri.py. -/
import Derived.Test.YtoonaidpmahgcaaGreatJVerW3
import Derived.Test.YtoonaidpmahgcaaGreatJRunsOf
import Derived.Test.YtoonaidpmahgcaaGreatGVp
namespace Go.Proofs.YtoonaidpmahgcaaGreat
set_option linter.unusedSimpArgs false
set_option linter.unusedVariables false
open Go.ChangeShapes Go.WideShapes Go.ChangeAt Go.RowKit

/-- what version.Instants returns for a span of at most forty years -/
def InstEnd (z q : Zn) (a b : Int) (w : World) (e : Ending) (w' : World) : Prop := Below w.heap.size w w' ∧
  (((z.valid = false ∨ q.valid = false ∨ spanV a b = false) ∧ e = .returned (.tuple #[.slice none 0 0, .int .i64 1])) ∨
   (z.valid = true ∧ q.valid = true ∧ spanV a b = true ∧ ∃ out u, Canon out ∧ (∀ t, hasL out t ↔ (a ≤ t ∧ t < b) ∧ z.typF t ≠ q.typF t) ∧ out.length ≤ 2000 ∧ e = .returned (.tuple #[u, .int .i64 0]) ∧ w'.ownsRow w.heap.size 29 2 u out.length (out.flatMap encN)))

theorem own_lt {w : World} {base : Nat} {e : TypeId} {size : Nat} {v : Value} {n : Nat} {xs : List Value} (h : w.ownsRow base e size v n xs) : ∀ r, v.ownBlock = some r → r < w.heap.size := fun r er => by
  rcases h.2 with ⟨rfl, _⟩ | ⟨g, cap, cur, rfl, _, hg, _⟩
  · simp [Value.ownBlock] at er
  · obtain rfl : g = r := by simpa [Value.ownBlock] using er
    exact (Array.getElem?_eq_some_iff.1 hg).1
theorem own_in {w : World} {base : Nat} {e : TypeId} {size : Nat} {v : Value} {n : Nat} {xs : List Value} (h : w.ownsRow base e size v n xs) : ∀ r, v.ownBlock = some r → base ≤ r ∧ r < w.heap.size := fun r er => by
  refine ⟨?_, own_lt h r er⟩
  rcases h.2 with ⟨rfl, _⟩ | ⟨g, cap, cur, rfl, hg, _⟩
  · simp [Value.ownBlock] at er
  · obtain rfl : g = r := by simpa [Value.ownBlock] using er
    exact hg
/-- the blocks from lo on that were there in w5 have not turned, and the row v is none of them -/
def KeepB (lo : Nat) (w5 w6 : World) (v : Value) : Prop := w5.heap.size ≤ w6.heap.size ∧ (∀ i, lo ≤ i → i < w5.heap.size → w6.heap[i]? = w5.heap[i]?) ∧ ∀ r, v.ownBlock = some r → r < lo ∨ w5.heap.size ≤ r
theorem Of_nil (w : World) : Calls Tryz.prog 60 #[.slice none 0 0] w fun e w' => e = .returned (.tuple #[.slice none 0 0, .int .i64 0]) ∧ Below w.heap.size w w' := by
  go_enter Tryz.func60, Tryz.ntmps60
  go_wp2_with (first
    | (go_at_call 73; refine (noneS_cf _ _ _ _).mono ?_; rintro e w' ⟨rfl, rfl⟩)
    | (go_at_call 126; refine (Tryz.slices_Clone_nil_f126 _ _ _).mono ?_; rintro e w' ⟨rfl, rfl⟩)
    | (go_at_call 127; refine (Tryz.slices_SortFunc_none_f127 (α := BSpn) _ _ _ _).mono ?_; rintro e w1 ⟨rfl, rfl⟩))
  refine wp_loop_rounds 1 ?_
  rw [rounds_succ]
  go_wp2_with (go_at_call 129; refine (done_any _ _ _ _ (by decide)).mono ?_; rintro e w' ⟨rfl, rfl⟩)
  go_ret2
  exact ⟨rfl, Below.refl _ _⟩
theorem one_one (a : Int) : ∀ u ∈ [Value.int .i64 a], u.oneCell' = true := by
  intro v hv
  obtain rfl := List.mem_singleton.1 hv
  rfl
theorem keep_step {lo : Nat} {w5 w6 w7 : World} {v v' : Value} {o1 o2 : Obj} (h : KeepB lo w5 w6 v) (hlt : ∀ r, v.ownBlock = some r → r < w6.heap.size) (hg : ((w6.alloc o1).alloc o2).grownBy w7 v.ownBlock) (hat : v'.ownBlock = v.ownBlock ∨ v'.ownBlock = some ((w6.alloc o1).alloc o2).heap.size) : KeepB lo w5 w7 v' := by
  obtain ⟨h1, h2, h3⟩ := h
  have hs := hg.size
  simp at hs
  refine ⟨by omega, fun i hi1 hi2 => ?_, fun r er => ?_⟩
  · have hne : some i ≠ v.ownBlock := fun e => by
      rcases h3 i e.symm with h | h <;> omega
    have e1 := hg.block i (by simp; omega) hne
    have e2 := (World.grownBy_alloc (w6.alloc o1) o2 none).block i (by simp; omega) (by simp)
    have e3 := (World.grownBy_alloc w6 o1 none).block i (by omega) (by simp)
    rw [e1, e2, e3]
    exact h2 i hi1 hi2
  · rcases hat with h | h
    · rw [h] at er; exact h3 r er
    · rw [h] at er
      injection er with er
      simp at er
      exact .inr (by omega)
theorem betV_of {z : Zn} (hv : z.valid = true) {a b : Int} (h : -62135596800 ≤ a ∧ a < b ∧ b ≤ 253402300800) (hl : (z.betF a b).length ≤ 1000) : z.betV a b = (z.betF a b, 0) := by
  have hs : spanB a b = true := by
    unfold spanB ivB lineB
    simp
    omega
  unfold Zn.betV
  rw [if_pos ⟨hs, hv⟩, if_pos hl]
set_option maxRecDepth 100000 in
set_option maxHeartbeats 8000000 in
theorem Instants_ver (z q : Zn) (vTz vRz vTq vRq : Value) (a b : Int) (w : World) (hm : HasMax w)
    (hTz : Rd Trn.cells 4 w vTz z.table) (hRz : Rd Rule.cells 11 w vRz z.tail) (hTq : Rd Trn.cells 4 w vTq q.table) (hRq : Rd Rule.cells 11 w vRq q.tail) (hfz : z.form.size < 4294967281) (hfq : q.form.size < 4294967281) (hlz : z.tail.length ≤ 12) (hlq : q.tail.length ≤ 12) (htz : z.table.length ≤ 300) (htq : q.table.length ≤ 300) (hab : spanV a b = true → b - a ≤ 1263000000) :
    Calls Tryz.prog 16 #[z.v vTz vRz, q.v vTq vRq, .agg #[.int .i64 a, .int .i64 b]] w (InstEnd z q a b w) := by
  have HV := Lib.hid (fun W (hb : Below w.heap.size w W) => Valid_zone z vTz vRz W (hm.on hb) (hTz.on hb) (hRz.on hb) hfz (.inl hlz))
  have HVq := Lib.hid (fun W (hb : Below w.heap.size w W) => Valid_zone q vTq vRq W (hm.on hb) (hTq.on hb) (hRq.on hb) hfq (.inl hlq))
  have HS := Lib.hid (fun W => vspan_any a b W)
  have HBz := Lib.hid (fun W (hb : Below w.heap.size w W) => Between_own z vTz vRz a b W (hm.on hb) (hTz.on hb) (hRz.on hb) hfz (.inl hlz))
  have HBq := Lib.hid (fun W (hb : Below w.heap.size w W) => Between_own q vTq vRq a b W (hm.on hb) (hTq.on hb) (hRq.on hb) hfq (.inl hlq))
  have HI := Lib.hid (fun hz hq pa pb o w0 W L s hs hbe hBo ha hb hao hbo hlen hP => ins1_any z q vTz vRz vTq vRq pa pb o w w0 W L s hz hq hs hm hTz hRz hTq hRq hfz hfq hlz hlq hbe hBo ha hb hao hbo hlen hP)
  obtain ⟨AT, cT, rfl⟩ := rd_vf hTz
  obtain ⟨AR, cR, rfl⟩ := rd_vf hRz
  obtain ⟨AU, cU, rfl⟩ := rd_vf hTq
  obtain ⟨AS, cS, rfl⟩ := rd_vf hRq
  clear hTz hRz hTq hRq hm hfz hfq
  unfold InstEnd
  have b0 := ((Blk.new w #[.string z.nm, .int .i64 z.first.off, .int .i64 z.first.sv, .string z.first.nm, .slice AT z.table.length cT, .slice AR z.tail.length cR, .int .i64 z.off, .string z.form, .int .i64 z.year] 27).alloc (.cells #[.string q.nm, .int .i64 q.first.off, .int .i64 q.first.sv, .string q.first.nm, .slice AU q.table.length cU, .slice AS q.tail.length cS, .int .i64 q.off, .string q.form, .int .i64 q.year] 27)).alloc (.cells #[.int .i64 a, .int .i64 b] 29)
  have b1 := (Blk.new (w.alloc (.cells #[.string z.nm, .int .i64 z.first.off, .int .i64 z.first.sv, .string z.first.nm, .slice AT z.table.length cT, .slice AR z.tail.length cR, .int .i64 z.off, .string z.form, .int .i64 z.year] 27)) #[.string q.nm, .int .i64 q.first.off, .int .i64 q.first.sv, .string q.first.nm, .slice AU q.table.length cU, .slice AS q.tail.length cS, .int .i64 q.off, .string q.form, .int .i64 q.year] 27).alloc (.cells #[.int .i64 a, .int .i64 b] 29)
  have b2 := Blk.new ((w.alloc (.cells #[.string z.nm, .int .i64 z.first.off, .int .i64 z.first.sv, .string z.first.nm, .slice AT z.table.length cT, .slice AR z.tail.length cR, .int .i64 z.off, .string z.form, .int .i64 z.year] 27)).alloc (.cells #[.string q.nm, .int .i64 q.first.off, .int .i64 q.first.sv, .string q.first.nm, .slice AU q.table.length cU, .slice AS q.tail.length cS, .int .i64 q.off, .string q.form, .int .i64 q.year] 27)) #[.int .i64 a, .int .i64 b] 29
  simp only [World.size_alloc] at b1 b2
  have hB3 : Below w.heap.size w (((w.alloc (.cells #[.string z.nm, .int .i64 z.first.off, .int .i64 z.first.sv, .string z.first.nm, .slice AT z.table.length cT, .slice AR z.tail.length cR, .int .i64 z.off, .string z.form, .int .i64 z.year] 27)).alloc (.cells #[.string q.nm, .int .i64 q.first.off, .int .i64 q.first.sv, .string q.first.nm, .slice AU q.table.length cU, .slice AS q.tail.length cS, .int .i64 q.off, .string q.form, .int .i64 q.year] 27)).alloc (.cells #[.int .i64 a, .int .i64 b] 29)) := (((Below.refl _ _).alloc (Nat.le_refl _) _).alloc (by simp) _).alloc (by simp; omega) _
  unfold Zn.v at HV HVq HBz HBq ⊢
  unfold Zn.cellsZ at HI
  go_enter Tryz.func16, Tryz.ntmps16
  go_wp2_with fail
  generalize (((w.alloc (.cells #[.string z.nm, .int .i64 z.first.off, .int .i64 z.first.sv, .string z.first.nm, .slice AT z.table.length cT, .slice AR z.tail.length cR, .int .i64 z.off, .string z.form, .int .i64 z.year] 27)).alloc (.cells #[.string q.nm, .int .i64 q.first.off, .int .i64 q.first.sv, .string q.first.nm, .slice AU q.table.length cU, .slice AS q.tail.length cS, .int .i64 q.off, .string q.form, .int .i64 q.year] 27)).alloc (.cells #[.int .i64 a, .int .i64 b] 29)) = W at *
  have hw : w.heap.size ≤ W.heap.size := hB3.size

  by_cases hvz : z.valid = true
  case neg =>
    have hvz0 : z.valid = false := by simpa using hvz
    refine (HV.out W hB3).mono ?_
    rintro e w1 ⟨rfl, hb1⟩
    rw [hvz0]
    go_wp2
    go_ret2
    exact ⟨hB3.trans (hb1.mono hw), .inl ⟨.inl hvz0, rfl⟩⟩
  refine (HV.out W hB3).mono ?_
  rintro e w1 ⟨rfl, hb1⟩
  rw [hvz]
  clear HV
  have Kq := b1.below hb1 b1.lt
  have Lq := Kq.lt
  have q0 := blk_cl Kq 0 _ rfl
  have q1 := blk_cl Kq 1 _ rfl
  have q2 := blk_cl Kq 2 _ rfl
  have q3 := blk_cl Kq 3 _ rfl
  have q4 := blk_cl Kq 4 _ rfl
  have q5 := blk_cl Kq 5 _ rfl
  have q6 := blk_cl Kq 6 _ rfl
  have q7 := blk_cl Kq 7 _ rfl
  have q8 := blk_cl Kq 8 _ rfl
  go_wp2_with fail
  by_cases hvq : q.valid = true
  case neg =>
    have hvq0 : q.valid = false := by simpa using hvq
    refine (HVq.out w1 (hB3.trans (hb1.mono hw))).mono ?_
    rintro e w2 ⟨rfl, hb2⟩
    have hb2 := hb1.trans (hb2.mono hb1.size)
    rw [hvq0]
    go_wp2
    go_ret2
    exact ⟨hB3.trans (hb2.mono hw), .inl ⟨.inr (.inl hvq0), rfl⟩⟩
  refine (HVq.out w1 (hB3.trans (hb1.mono hw))).mono ?_
  rintro e w2 ⟨rfl, hb2⟩
  have hb2 := hb1.trans (hb2.mono hb1.size)
  rw [hvq]
  clear HVq
  clear Kq Lq q0 q1 q2 q3 q4 q5 q6 q7 q8
  have Ki := b2.below hb2 b2.lt
  have Li := Ki.lt
  have i0 := blk_cl Ki 0 _ rfl
  have i1 := blk_cl Ki 1 _ rfl
  go_wp2_with fail
  by_cases hsp : spanV a b = true
  case neg =>
    have hsp0 : spanV a b = false := by simpa using hsp
    refine (HS.out w2).mono ?_
    rintro e w3 ⟨rfl, hb3⟩
    have hb3 := hb2.trans (hb3.mono hb2.size)
    rw [hsp0]
    go_wp2
    go_ret2
    exact ⟨hB3.trans (hb3.mono hw), .inl ⟨.inr (.inr hsp0), rfl⟩⟩
  refine (HS.out w2).mono ?_
  rintro e w3 ⟨rfl, hb3⟩
  have hb3 := hb2.trans (hb3.mono hb2.size)
  rw [hsp]
  clear HS
  clear Ki Li i0 i1
  have Kz := b0.below hb3 b0.lt
  have Lz := Kz.lt
  have z0 := blk_cl Kz 0 _ rfl
  have z1 := blk_cl Kz 1 _ rfl
  have z2 := blk_cl Kz 2 _ rfl
  have z3 := blk_cl Kz 3 _ rfl
  have z4 := blk_cl Kz 4 _ rfl
  have z5 := blk_cl Kz 5 _ rfl
  have z6 := blk_cl Kz 6 _ rfl
  have z7 := blk_cl Kz 7 _ rfl
  have z8 := blk_cl Kz 8 _ rfl
  have Kq := b1.below hb3 b1.lt
  have Lq := Kq.lt
  have q0 := blk_cl Kq 0 _ rfl
  have q1 := blk_cl Kq 1 _ rfl
  have q2 := blk_cl Kq 2 _ rfl
  have q3 := blk_cl Kq 3 _ rfl
  have q4 := blk_cl Kq 4 _ rfl
  have q5 := blk_cl Kq 5 _ rfl
  have q6 := blk_cl Kq 6 _ rfl
  have q7 := blk_cl Kq 7 _ rfl
  have q8 := blk_cl Kq 8 _ rfl
  have Ki := b2.below hb3 b2.lt
  have Li := Ki.lt
  have i0 := blk_cl Ki 0 _ rfl
  have i1 := blk_cl Ki 1 _ rfl
  have HI := Lib.hid (HI.out hvz hvq)
  have hsp2 : -62135596800 ≤ a ∧ a < b ∧ b ≤ 253402300800 := by
    unfold spanV at hsp
    simp at hsp
    omega
  have hbvz : z.betV a b = (z.betF a b, 0) := betV_of hvz hsp2 (by have := bet_count40 hvz htz hlz (hab hsp); omega)
  have hbvq : q.betV a b = (q.betF a b, 0) := betV_of hvq hsp2 (by have := bet_count40 hvq htq hlq (hab hsp); omega)
  have hlz2 := bet_count40 hvz htz hlz (hab hsp)
  have hlq2 := bet_count40 hvq htq hlq (hab hsp)
  unfold BetOwn at HBz HBq
  rw [hbvz] at HBz
  rw [hbvq] at HBq
  dsimp only at HBz HBq
  have HDIF := Lib.hid (fun l hA hb h1 h2 => dif_has hvz hvq hsp2.2.1 (l := l) hA hb h1 h2)
  have HMZ := Lib.hid (fun x (hx : x ∈ z.betF a b) => bet_mem x hx)
  go_wp2_with fail
  obtain ⟨i0', hi0, hz0, hz1, hz2⟩ := info_parts infoI
  have ba := Blk.new w3 #[.string z.nm, .int .i64 z.first.off, .int .i64 z.first.sv, .string z.first.nm, .slice AT z.table.length cT, .slice AR z.tail.length cR, .int .i64 z.off, .string z.form, .int .i64 z.year, .string q.nm, .int .i64 q.first.off, .int .i64 q.first.sv, .string q.first.nm, .slice AU q.table.length cU, .slice AS q.tail.length cS, .int .i64 q.off, .string q.form, .int .i64 q.year] 27
  have hba : Below W.heap.size W (w3.alloc (.cells #[.string z.nm, .int .i64 z.first.off, .int .i64 z.first.sv, .string z.first.nm, .slice AT z.table.length cT, .slice AR z.tail.length cR, .int .i64 z.off, .string z.form, .int .i64 z.year, .string q.nm, .int .i64 q.first.off, .int .i64 q.first.sv, .string q.first.nm, .slice AU q.table.length cU, .slice AS q.tail.length cS, .int .i64 q.off, .string q.form, .int .i64 q.year] 27)) := hb3.alloc hb3.size _
  generalize w3.alloc (.cells #[.string z.nm, .int .i64 z.first.off, .int .i64 z.first.sv, .string z.first.nm, .slice AT z.table.length cT, .slice AR z.tail.length cR, .int .i64 z.off, .string z.form, .int .i64 z.year, .string q.nm, .int .i64 q.first.off, .int .i64 q.first.sv, .string q.first.nm, .slice AU q.table.length cU, .slice AS q.tail.length cS, .int .i64 q.off, .string q.form, .int .i64 q.year] 27) = W4 at *
  have hW4 : w.heap.size + 3 ≤ W4.heap.size := by have := b2.lt; have := hba.size; omega
  generalize hLz : z.betF a b = Lz at *
  generalize hLq : q.betF a b = Lq at *
  go_loopw [8, 33] (fun v8 v33 wr => ∃ (k : Nat) (acc : List Int), v33 = .int .i64 k ∧ (k = 0 ∧ acc = [] ∨ k = 1 ∧ acc = atsF Lz ∨ k = 2 ∧ acc = atsF Lz ++ atsF Lq) ∧ wr.ownsRow W4.heap.size 3 1 v8 acc.length (acc.map (Value.int .i64)) ∧ Below W4.heap.size W4 wr) (fun _ v33 _ => 2 - (intOf v33).toNat)
  case atStart => exact ⟨0, [], rfl, .inl ⟨rfl, rfl⟩, World.ownsRow_nil _ _ _ _, Below.refl _ _⟩
  case round =>
    obtain ⟨k, acc, rfl, hk, hown, hbr⟩ := hrel
    have hbR : Below W.heap.size W wr := hba.trans (hbr.mono hba.size)
    rcases hk with ⟨rfl, rfl⟩ | ⟨rfl, rfl⟩ | ⟨rfl, rfl⟩
    · skip
      have kw := ba.below hbr ba.lt
      have lw := kw.lt
      have c0 := blk_cl kw 0 _ rfl
      have c1 := blk_cl kw 1 _ rfl
      have c2 := blk_cl kw 2 _ rfl
      have c3 := blk_cl kw 3 _ rfl
      have c4 := blk_cl kw 4 _ rfl
      have c5 := blk_cl kw 5 _ rfl
      have c6 := blk_cl kw 6 _ rfl
      have c7 := blk_cl kw 7 _ rfl
      have c8 := blk_cl kw 8 _ rfl
      have ki := b2.below hbR b2.lt
      have li := ki.lt
      have i0 := blk_cl ki 0 _ rfl
      have i1 := blk_cl ki 1 _ rfl
      have HOW := Lib.hid hown
      clear hown
      go_wp2_with fail
      have hbZ : Below W.heap.size W (wr.alloc (.cells #[.string z.nm, .int .i64 z.first.off, .int .i64 z.first.sv, .string z.first.nm, .slice AT z.table.length cT, .slice AR z.tail.length cR, .int .i64 z.off, .string z.form, .int .i64 z.year] 27)) := hbR.alloc hbR.size _
      have hbZ4 : Below W4.heap.size W4 (wr.alloc (.cells #[.string z.nm, .int .i64 z.first.off, .int .i64 z.first.sv, .string z.first.nm, .slice AT z.table.length cT, .slice AR z.tail.length cR, .int .i64 z.off, .string z.form, .int .i64 z.year] 27)) := hbr.alloc hbr.size _
      have HOW1 := Lib.hid (HOW.out.alloc (.cells #[.string z.nm, .int .i64 z.first.off, .int .i64 z.first.sv, .string z.first.nm, .slice AT z.table.length cT, .slice AR z.tail.length cR, .int .i64 z.off, .string z.form, .int .i64 z.year] 27))
      have hszw : wr.heap.size < (wr.alloc (.cells #[.string z.nm, .int .i64 z.first.off, .int .i64 z.first.sv, .string z.first.nm, .slice AT z.table.length cT, .slice AR z.tail.length cR, .int .i64 z.off, .string z.form, .int .i64 z.year] 27)).heap.size := by simp
      have hfar0 : ∀ r, u8.ownBlock = some r → r < wr.heap.size := own_lt HOW.out
      clear HOW
      generalize wr.alloc (.cells #[.string z.nm, .int .i64 z.first.off, .int .i64 z.first.sv, .string z.first.nm, .slice AT z.table.length cT, .slice AR z.tail.length cR, .int .i64 z.off, .string z.form, .int .i64 z.year] 27) = wz at *
      refine (HBz.out wz (hB3.trans (hbZ.mono hw))).mono ?_
      rintro e w5 ⟨v5, rfl, hr5, hb5, hns5⟩
      have hR5 := rd_of_own trn_len hr5 rfl
      have hlo5 : ∀ r, v5.ownBlock = some r → wz.heap.size ≤ r ∧ r < w5.heap.size := own_in hr5
      have hO5 := own_on HOW1.out hb5
      have hb54 := hbZ4.trans (hb5.mono hbZ4.size)
      obtain ⟨A5, c5, rfl⟩ := rd_vf hR5
      have HR5 := Lib.hid hR5
      have HLO := Lib.hid hlo5
      have hK0 : KeepB wz.heap.size w5 w5 u8 := ⟨Nat.le_refl _, fun _ _ _ => rfl, fun r er => .inl (Nat.lt_trans (hfar0 r er) hszw)⟩
      clear hR5 hlo5 hr5 HOW1 hfar0 ki li i0 i1 kw lw c0 c1 c2 c3 c4 c6 c7 c8
      go_wp2
      go_loopw [8, 47] (fun v8 v47 w6 => ∃ j : Nat, j ≤ Lz.length ∧ v47 = .int .i64 j ∧ w6.ownsRow W4.heap.size 3 1 v8 ([] ++ atsF (Lz.take j)).length (([] ++ atsF (Lz.take j)).map (Value.int .i64)) ∧ Below W4.heap.size W4 w6 ∧ KeepB wz.heap.size w5 w6 v8) (fun _ v47 _ => Lz.length - (intOf v47).toNat)
      case atStart => exact ⟨0, Nat.zero_le _, rfl, by simpa [atsF] using hO5, hb54, hK0⟩
      case round =>
        obtain ⟨j, hj, rfl, hown6, hb6, hK6⟩ := hrel
        by_cases hlt : j < Lz.length
        · obtain ⟨g, off, hA, hg, hcg⟩ : ∃ g off, A5 = some ⟨g, off, none⟩ ∧ g < w5.heap.size ∧ ∀ i u, (Trn.cells Lz[j]!)[i]? = some u → w5.cell? ⟨g, off + j * 4 + i, none⟩ = some u := by
            rcases HR5.out with ⟨e, _⟩ | ⟨g, off, c', hv, hg, hc⟩
            · rw [e] at hlt; simp at hlt
            · injection hv with e1 _ _
              exact ⟨g, off, e1, hg, fun i u hu => hc j hlt i u hu⟩
          subst hA
          have hgl := (HLO.out g rfl).1
          have hcw : ∀ i u, (Trn.cells Lz[j]!)[i]? = some u → wr.cell? ⟨g, off + j * 4 + i, none⟩ = some u := fun i u hu => (World.cell?_of_block (hK6.2.1 g hgl hg)).trans (hcg i u hu)
          have e0 := hcw 0 _ rfl
          have e1 := hcw 1 _ rfl
          have e2 := hcw 2 _ rfl
          have e3 := hcw 3 _ rfl
          rw [Nat.add_zero] at e0
          have htk : atsF (Lz.take (j + 1)) = atsF (Lz.take j) ++ [(Lz[j]!).at_] := by
            unfold atsF
            rw [List.take_succ_eq_append_getElem hlt, List.map_append, getElem!_pos Lz j hlt]; rfl
          have HTK := Lib.hid htk
          have hgw : g < wr.heap.size := Nat.lt_of_lt_of_le hg hK6.1
          have hln : ([] ++ atsF (Lz.take j)).length ≤ 3000 := by simp [atsF]; omega
          have HO6 := Lib.hid hown6
          have HK6 := Lib.hid hK6
          clear hown6 hK6 hcg hcw htk
          generalize Lz[j]! = x at *
          obtain ⟨xa, xt⟩ := x
          dsimp only at e0 e1 e2 e3 HTK
          have hs5 := hb6.size
          go_wp2_with (at_builtin; go_loud (refine wpList_append_own_at _ rfl _ _ 97 rfl W4.heap.size 3 i0' _ 1 8 Tryz.underlying97 hi0 hz0 hz1 hz2 rfl (by decide) u8 _ _ rfl ((HO6.out.alloc _).alloc _) ⟨_, 0, none⟩ 1 1 [.int .i64 xa] rfl rfl (new_row_at (by simp) _) (one_one xa) (by simp only [maxLen]; omega) (by omega) (by simp; omega) ?_); intro v' w7 hown7 hg7 _ hat7)
          go_roundw
          case rel =>
            refine ⟨j + 1, by omega, by go_num, ?_, ?_, ?_⟩
            · rw [HTK.out, ← List.append_assoc, List.map_append, List.length_append]
              exact hown7
            · exact below_app HO6.out (Nat.le_refl _) ((hb6.alloc hb6.size _).alloc (by simp; omega) _) hg7
            · exact keep_step HK6.out (own_lt HO6.out) hg7 hat7
          case measure => simp [intOf]; omega
        · have hj' : j = Lz.length := by omega
          subst hj'
          rw [List.take_length] at hown6
          have HBW := Lib.hid hb6
          go_wp2
          go_roundw
          case rel => exact ⟨1, _, by go_num, .inr (.inl ⟨rfl, by simp⟩), hown6, HBW.out⟩
          case measure => simp [intOf]
    · skip
      have kw := ba.below hbr ba.lt
      have lw := kw.lt
      have c0 := blk_cl kw 9 _ rfl
      have c1 := blk_cl kw 10 _ rfl
      have c2 := blk_cl kw 11 _ rfl
      have c3 := blk_cl kw 12 _ rfl
      have c4 := blk_cl kw 13 _ rfl
      have c5 := blk_cl kw 14 _ rfl
      have c6 := blk_cl kw 15 _ rfl
      have c7 := blk_cl kw 16 _ rfl
      have c8 := blk_cl kw 17 _ rfl
      have ki := b2.below hbR b2.lt
      have li := ki.lt
      have i0 := blk_cl ki 0 _ rfl
      have i1 := blk_cl ki 1 _ rfl
      have HOW := Lib.hid hown
      clear hown
      go_wp2_with fail
      have hbZ : Below W.heap.size W (wr.alloc (.cells #[.string q.nm, .int .i64 q.first.off, .int .i64 q.first.sv, .string q.first.nm, .slice AU q.table.length cU, .slice AS q.tail.length cS, .int .i64 q.off, .string q.form, .int .i64 q.year] 27)) := hbR.alloc hbR.size _
      have hbZ4 : Below W4.heap.size W4 (wr.alloc (.cells #[.string q.nm, .int .i64 q.first.off, .int .i64 q.first.sv, .string q.first.nm, .slice AU q.table.length cU, .slice AS q.tail.length cS, .int .i64 q.off, .string q.form, .int .i64 q.year] 27)) := hbr.alloc hbr.size _
      have HOW1 := Lib.hid (HOW.out.alloc (.cells #[.string q.nm, .int .i64 q.first.off, .int .i64 q.first.sv, .string q.first.nm, .slice AU q.table.length cU, .slice AS q.tail.length cS, .int .i64 q.off, .string q.form, .int .i64 q.year] 27))
      have hszw : wr.heap.size < (wr.alloc (.cells #[.string q.nm, .int .i64 q.first.off, .int .i64 q.first.sv, .string q.first.nm, .slice AU q.table.length cU, .slice AS q.tail.length cS, .int .i64 q.off, .string q.form, .int .i64 q.year] 27)).heap.size := by simp
      have hfar0 : ∀ r, u8.ownBlock = some r → r < wr.heap.size := own_lt HOW.out
      clear HOW
      generalize wr.alloc (.cells #[.string q.nm, .int .i64 q.first.off, .int .i64 q.first.sv, .string q.first.nm, .slice AU q.table.length cU, .slice AS q.tail.length cS, .int .i64 q.off, .string q.form, .int .i64 q.year] 27) = wz at *
      refine (HBq.out wz (hB3.trans (hbZ.mono hw))).mono ?_
      rintro e w5 ⟨v5, rfl, hr5, hb5, hns5⟩
      have hR5 := rd_of_own trn_len hr5 rfl
      have hlo5 : ∀ r, v5.ownBlock = some r → wz.heap.size ≤ r ∧ r < w5.heap.size := own_in hr5
      have hO5 := own_on HOW1.out hb5
      have hb54 := hbZ4.trans (hb5.mono hbZ4.size)
      obtain ⟨A5, c5, rfl⟩ := rd_vf hR5
      have HR5 := Lib.hid hR5
      have HLO := Lib.hid hlo5
      have hK0 : KeepB wz.heap.size w5 w5 u8 := ⟨Nat.le_refl _, fun _ _ _ => rfl, fun r er => .inl (Nat.lt_trans (hfar0 r er) hszw)⟩
      clear hR5 hlo5 hr5 HOW1 hfar0 ki li i0 i1 kw lw c0 c1 c2 c3 c4 c6 c7 c8
      go_wp2
      go_loopw [8, 47] (fun v8 v47 w6 => ∃ j : Nat, j ≤ Lq.length ∧ v47 = .int .i64 j ∧ w6.ownsRow W4.heap.size 3 1 v8 (atsF Lz ++ atsF (Lq.take j)).length ((atsF Lz ++ atsF (Lq.take j)).map (Value.int .i64)) ∧ Below W4.heap.size W4 w6 ∧ KeepB wz.heap.size w5 w6 v8) (fun _ v47 _ => Lq.length - (intOf v47).toNat)
      case atStart => exact ⟨0, Nat.zero_le _, rfl, by simpa [atsF] using hO5, hb54, hK0⟩
      case round =>
        obtain ⟨j, hj, rfl, hown6, hb6, hK6⟩ := hrel
        by_cases hlt : j < Lq.length
        · obtain ⟨g, off, hA, hg, hcg⟩ : ∃ g off, A5 = some ⟨g, off, none⟩ ∧ g < w5.heap.size ∧ ∀ i u, (Trn.cells Lq[j]!)[i]? = some u → w5.cell? ⟨g, off + j * 4 + i, none⟩ = some u := by
            rcases HR5.out with ⟨e, _⟩ | ⟨g, off, c', hv, hg, hc⟩
            · rw [e] at hlt; simp at hlt
            · injection hv with e1 _ _
              exact ⟨g, off, e1, hg, fun i u hu => hc j hlt i u hu⟩
          subst hA
          have hgl := (HLO.out g rfl).1
          have hcw : ∀ i u, (Trn.cells Lq[j]!)[i]? = some u → wr.cell? ⟨g, off + j * 4 + i, none⟩ = some u := fun i u hu => (World.cell?_of_block (hK6.2.1 g hgl hg)).trans (hcg i u hu)
          have e0 := hcw 0 _ rfl
          have e1 := hcw 1 _ rfl
          have e2 := hcw 2 _ rfl
          have e3 := hcw 3 _ rfl
          rw [Nat.add_zero] at e0
          have htk : atsF (Lq.take (j + 1)) = atsF (Lq.take j) ++ [(Lq[j]!).at_] := by
            unfold atsF
            rw [List.take_succ_eq_append_getElem hlt, List.map_append, getElem!_pos Lq j hlt]; rfl
          have HTK := Lib.hid htk
          have hgw : g < wr.heap.size := Nat.lt_of_lt_of_le hg hK6.1
          have hln : (atsF Lz ++ atsF (Lq.take j)).length ≤ 3000 := by simp [atsF]; omega
          have HO6 := Lib.hid hown6
          have HK6 := Lib.hid hK6
          clear hown6 hK6 hcg hcw htk
          generalize Lq[j]! = x at *
          obtain ⟨xa, xt⟩ := x
          dsimp only at e0 e1 e2 e3 HTK
          have hs5 := hb6.size
          go_wp2_with (at_builtin; go_loud (refine wpList_append_own_at _ rfl _ _ 97 rfl W4.heap.size 3 i0' _ 1 8 Tryz.underlying97 hi0 hz0 hz1 hz2 rfl (by decide) u8 _ _ rfl ((HO6.out.alloc _).alloc _) ⟨_, 0, none⟩ 1 1 [.int .i64 xa] rfl rfl (new_row_at (by simp) _) (one_one xa) (by simp only [maxLen]; omega) (by omega) (by simp; omega) ?_); intro v' w7 hown7 hg7 _ hat7)
          go_roundw
          case rel =>
            refine ⟨j + 1, by omega, by go_num, ?_, ?_, ?_⟩
            · rw [HTK.out, ← List.append_assoc, List.map_append, List.length_append]
              exact hown7
            · exact below_app HO6.out (Nat.le_refl _) ((hb6.alloc hb6.size _).alloc (by simp; omega) _) hg7
            · exact keep_step HK6.out (own_lt HO6.out) hg7 hat7
          case measure => simp [intOf]; omega
        · have hj' : j = Lq.length := by omega
          subst hj'
          rw [List.take_length] at hown6
          have HBW := Lib.hid hb6
          go_wp2
          go_roundw
          case rel => exact ⟨2, _, by go_num, .inr (.inr ⟨rfl, rfl⟩), hown6, HBW.out⟩
          case measure => simp [intOf]
    · have HOW := Lib.hid hown
      have kz := (b0.below hbR b0.lt).alloc (.cells #[.slice none 0 0] 33)
      have kq := (b1.below hbR b1.lt).alloc (.cells #[.slice none 0 0] 33)
      have ki := b2.below hbR b2.lt
      have li := ki.lt
      have i0 := blk_cl ki 0 _ rfl
      have i1 := blk_cl ki 1 _ rfl
      have bo := Boxed.new wr 33 (.slice none 0 0)
      have hbO : Below W.heap.size W (wr.alloc (.cells #[.slice none 0 0] 33)) := hbR.alloc hbR.size _
      have hln : (atsF Lz ++ atsF Lq).length ≤ 1900 := by simp [atsF]; omega
      have HOWo := Lib.hid (HOW.out.alloc (.cells #[.slice none 0 0] 33))
      have hs5 := hbr.size
      have hszo : wr.heap.size < (wr.alloc (.cells #[.slice none 0 0] 33)).heap.size := by simp
      clear hown HBz HBq HOW
      go_wp2_with fail
      generalize wr.alloc (.cells #[.slice none 0 0] 33) = wo at *
      have hfar := own_in HOWo.out
      have hbe : Below w.heap.size w wo := hB3.trans (hbO.mono hw)
      have HP := Lib.hid (pieces_ins w.heap.size (w.heap.size + 1) wr.heap.size W4.heap.size (typB2 z q) (fun s => Nat.le_trans (typB2_len z q s) (by decide)) (atsF Lz ++ atsF Lq) u8 a b wo hsp2.2.1 (by omega) HOWo.out (by omega) bo.lt bo
        (fun w0 L s Wk hg hP h1 h2 h3 hl => HI.out _ _ _ w0 Wk L s ⟨by omega, by omega⟩ (hbe.grown hg hbe.size fun r er => by have := hfar r er; omega) (by omega)
          (kz.kept hg (fun e => by have := hfar _ e.symm; omega)) (kq.kept hg (fun e => by have := hfar _ e.symm; omega)) (by omega) (by omega) hl hP))
      unfold PieceEnd at HP
      have HBE := Lib.hid (fun w0 (hg : wo.grownBy w0 u8.ownBlock) => hbe.grown hg hbe.size fun r er => by have := hfar r er; omega)
      clear HI kz kq bo HOWo hfar ki li i0 i1
      refine HP.out.mono ?_
      rintro e w6 ⟨rfl, w0, hg0, hP6⟩
      clear HP
      have hb0 := HBE.out w0 hg0
      have hb6 := hb0.trans (hP6.old (show w.heap.size ≤ wr.heap.size by omega))
      obtain ⟨_, hoo, u, hbu, hou, hnil⟩ := hP6
      rw [difF_flat] at hou hnil
      have o0 := hbu.cell
      have HD := Lib.hid (HDIF.out ((atsF Lz ++ atsF Lq ++ [a, b]).mergeSort fun x y => decide (x ≤ y)) (sorted_ms _) (mem_ms.2 (by simp)) (fun x hx => mem_ms.2 (by simp [atsF]; exact .inl ⟨x, hx, rfl⟩)) (fun x hx => mem_ms.2 (by simp [atsF]; exact .inr (.inl ⟨x, hx, rfl⟩))))
      have hpl := piecesC_len b a ((atsF Lz ++ atsF Lq ++ [a, b]).mergeSort fun x y => decide (x ≤ y))
      have hdl := difF_len z q (piecesC b a ((atsF Lz ++ atsF Lq ++ [a, b]).mergeSort fun x y => decide (x ≤ y)))
      have hpo := (piecesC_ok b (f := a) (sorted_ms (atsF Lz ++ atsF Lq ++ [a, b])) (by omega)).1
      have hdo : ∀ s ∈ difF z q (piecesC b a ((atsF Lz ++ atsF Lq ++ [a, b]).mergeSort fun x y => decide (x ≤ y))), s.ok = true := fun s hs => by
        have h := (hpo s (List.mem_filter.1 hs).1).1
        exact Spn.ok_iff.2 ⟨by omega, by omega, by omega⟩
      rw [List.length_mergeSort] at hpl
      have hal : (atsF Lz ++ atsF Lq ++ [a, b]).length ≤ 1902 := by rw [List.length_append]; simp only [List.length_cons, List.length_nil]; omega
      generalize difF z q (piecesC b a ((atsF Lz ++ atsF Lq ++ [a, b]).mergeSort fun x y => decide (x ≤ y))) = D at *
      go_wp2_with fail
      by_cases hD : D = []
      · have hu := hnil hD
        subst hu
        subst hD
        refine (Of_nil _).mono ?_
        rintro e w7 ⟨rfl, hb7⟩
        go_wp2
        go_ret2
        exact ⟨hb6.trans (hb7.mono hb6.size), .inr ⟨hvz, hvq, hsp, [], _, canon_nil, HD.out, by simp, rfl, World.ownsRow_nil _ _ _ _⟩⟩
      · have hOf := Of_runs D u w6 (List.length_pos_iff.2 hD) (by omega) hdo (rd_of_own encN_len hou rfl)
        unfold OfEnd at hOf
        refine hOf.mono ?_
        rintro e w7 ⟨out, u', hc, hm, _, hlen, rfl, hown7, hb7⟩
        go_wp2
        go_ret2
        exact ⟨hb6.trans (hb7.mono hb6.size), .inr ⟨hvz, hvq, hsp, out, u', hc, fun t => (hm t).trans (HD.out t), by omega, rfl, own_lower hown7 hb6.size⟩⟩

end Go.Proofs.YtoonaidpmahgcaaGreat

/- version.Locals. Printed by gen_verl.py. -/
import Derived.Test.YtdafcipilknecaaGreatDoorJVerW5
import Derived.Test.YtdafcipilknecaaGreatDoorJVerC
import Derived.Test.YtdafcipilknecaaGreatDoorGLb
namespace Go.Proofs.YtdafcipilknecaaGreatDoor
set_option linter.unusedSimpArgs false
set_option linter.unusedVariables false
open Go.ChangeShapes Go.WideShapes Go.ChangeAt Go.RowKit
def LocGen (N : Nat) (z q : Zn) (a b g f : Int) (w : World) (e : Ending) (w' : World) : Prop := Below w.heap.size w w' ∧
 (((z.valid = false ∨ q.valid = false ∨ polB g f = false ∨ spanV a b = false) ∧ e = .returned (.tuple #[.slice none 0 0, .int .i64 1])) ∨
  (z.valid = true ∧ q.valid = true ∧ polB g f = true ∧ spanV a b = true ∧ ∃ out, Canon out ∧ (∀ t, hasL out t ↔ (a ≤ t ∧ t < b) ∧ z.resV t g f ≠ q.resV t g f) ∧ out.length ≤ 2 * (8 * N + 10) ∧
   ((out.length ≤ 2000 ∧ ∃ u, e = .returned (.tuple #[u, .int .i64 0]) ∧ w'.ownsRow w.heap.size 35 2 u out.length (out.flatMap encN)) ∨ (2000 < out.length ∧ e = .returned (.tuple #[.slice none 0 0, .int .i64 5])))))
def encX1 (x : Int) : List Value := [.int .i64 x]
theorem encX1_len (x : Int) : (encX1 x).length = 1 := rfl
theorem flat_encX1 : ∀ l : List Int, l.flatMap encX1 = l.map (Value.int .i64)
 | [] => rfl
 | x :: l => by rw [List.flatMap_cons, flat_encX1 l]; rfl
theorem rd_news {l : List Int} {w : World} {b off c : Nat} (h : Rd encX1 1 w (.slice (some ⟨b, off, none⟩) l.length c) l) : ∀ j u, (l.map (Value.int .i64))[j]? = some u → w.cell? ((⟨b, off, none⟩ : Addr).add j) = some u := by
 intro j u hu
 obtain ⟨hlt, he⟩ := List.getElem?_eq_some_iff.1 hu
 rw [List.length_map] at hlt
 rw [List.getElem_map] at he
 subst he
 rcases h with ⟨rfl, _⟩ | ⟨b', off', c', hv, _, hc⟩
 ·simp at hlt
 ·injection hv with h1 _ _
  injection h1 with h1
  injection h1 with h1 h2 _
  subst h1 h2
  have := hc j hlt 0 (.int .i64 l[j]) (by rw [getElem!_pos l j hlt]; rfl)
  rw [add_plain']
  rwa [Nat.add_zero, Nat.mul_one] at this
theorem map_oneT (l : List Int) : ∀ u ∈ l.map (Value.int .i64), u.oneCell' = true := fun u hu => by
 obtain ⟨x, _, rfl⟩ := List.mem_map.1 hu
 rfl
set_option maxRecDepth 100000 in
set_option maxHeartbeats 8000000 in
theorem Locals_gen (N : Nat) (hN : N ≤ 360) (z q : Zn) (vTz vRz vTq vRq : Value) (a b g f : Int) (w : World) (hm : HasMax w)
  (hTz : Rd Trn.cells 4 w vTz z.table) (hRz : Rd Rule.cells 11 w vRz z.tail) (hTq : Rd Trn.cells 4 w vTq q.table) (hRq : Rd Rule.cells 11 w vRq q.tail) (hfz : z.form.size < 4294967281) (hfq : q.form.size < 4294967281) (hlz : z.tail.length ≤ 12) (hlq : q.tail.length ≤ 12) (htz : z.table.length ≤ 300) (htq : q.table.length ≤ 300)
  (hcz : z.valid = true → spanV a b = true → (z.betF (cutA a) (cutB b)).length ≤ N) (hcq : q.valid = true → spanV a b = true → (q.betF (cutA a) (cutB b)).length ≤ N) :
  Calls Tryz.prog 19 #[z.v vTz vRz, q.v vTq vRq, .agg #[.int .i64 a, .int .i64 b], .agg #[.int .i64 g, .int .i64 f]] w (LocGen N z q a b g f w) := by
 have HV := Lib.hid (fun W (hb : Below w.heap.size w W) => Valid_zone z vTz vRz W (hm.on hb) (hTz.on hb) (hRz.on hb) hfz (.inl hlz))
 have HVq := Lib.hid (fun W (hb : Below w.heap.size w W) => Valid_zone q vTq vRq W (hm.on hb) (hTq.on hb) (hRq.on hb) hfq (.inl hlq))
 have HS := Lib.hid (fun W => vspan_any a b W)
 have HPO := Lib.hid (fun W => pol_any g f W)
 have HCz := Lib.hid (fun hv h1 h2 h3 hc W (hb : Below w.heap.size w W) => cutsOf_any z vTz vRz a b W (hm.on hb) (hTz.on hb) (hRz.on hb) hfz hlz hv h1 h2 h3 hc)
 have HCq := Lib.hid (fun hv h1 h2 h3 hc W (hb : Below w.heap.size w W) => cutsOf_any q vTq vRq a b W (hm.on hb) (hTq.on hb) (hRq.on hb) hfq hlq hv h1 h2 h3 hc)
 have HI := Lib.hid (fun pa pp pb o w0 W L s hs hbe hBo ha hb hp hao hbo hpo hlen hP => loc1_any z q vTz vRz vTq vRq g f pa pp pb o w w0 W L s hs hm hTz hRz hTq hRq hfz hfq hlz hlq htz htq hbe hBo ha hb hp hao hbo hpo hlen hP)
 obtain ⟨AT, cT, rfl⟩ := rd_vf hTz
 obtain ⟨AR, cR, rfl⟩ := rd_vf hRz
 obtain ⟨AU, cU, rfl⟩ := rd_vf hTq
 obtain ⟨AS, cS, rfl⟩ := rd_vf hRq
 clear hTz hRz hTq hRq hm hfz hfq
 unfold LocGen
 have b0 := (((Blk.new w #[.string z.nm, .int .i64 z.first.off, .int .i64 z.first.sv, .string z.first.nm, .slice AT z.table.length cT, .slice AR z.tail.length cR, .int .i64 z.off, .string z.form, .int .i64 z.year] 48).alloc (.cells #[.string q.nm, .int .i64 q.first.off, .int .i64 q.first.sv, .string q.first.nm, .slice AU q.table.length cU, .slice AS q.tail.length cS, .int .i64 q.off, .string q.form, .int .i64 q.year] 48)).alloc (.cells #[.int .i64 a, .int .i64 b] 35)).alloc (.cells #[.int .i64 g, .int .i64 f] 26)
 have b1 := ((Blk.new (w.alloc (.cells #[.string z.nm, .int .i64 z.first.off, .int .i64 z.first.sv, .string z.first.nm, .slice AT z.table.length cT, .slice AR z.tail.length cR, .int .i64 z.off, .string z.form, .int .i64 z.year] 48)) #[.string q.nm, .int .i64 q.first.off, .int .i64 q.first.sv, .string q.first.nm, .slice AU q.table.length cU, .slice AS q.tail.length cS, .int .i64 q.off, .string q.form, .int .i64 q.year] 48).alloc (.cells #[.int .i64 a, .int .i64 b] 35)).alloc (.cells #[.int .i64 g, .int .i64 f] 26)
 have b2 := (Blk.new ((w.alloc (.cells #[.string z.nm, .int .i64 z.first.off, .int .i64 z.first.sv, .string z.first.nm, .slice AT z.table.length cT, .slice AR z.tail.length cR, .int .i64 z.off, .string z.form, .int .i64 z.year] 48)).alloc (.cells #[.string q.nm, .int .i64 q.first.off, .int .i64 q.first.sv, .string q.first.nm, .slice AU q.table.length cU, .slice AS q.tail.length cS, .int .i64 q.off, .string q.form, .int .i64 q.year] 48)) #[.int .i64 a, .int .i64 b] 35).alloc (.cells #[.int .i64 g, .int .i64 f] 26)
 have b3 := Blk.new (((w.alloc (.cells #[.string z.nm, .int .i64 z.first.off, .int .i64 z.first.sv, .string z.first.nm, .slice AT z.table.length cT, .slice AR z.tail.length cR, .int .i64 z.off, .string z.form, .int .i64 z.year] 48)).alloc (.cells #[.string q.nm, .int .i64 q.first.off, .int .i64 q.first.sv, .string q.first.nm, .slice AU q.table.length cU, .slice AS q.tail.length cS, .int .i64 q.off, .string q.form, .int .i64 q.year] 48)).alloc (.cells #[.int .i64 a, .int .i64 b] 35)) #[.int .i64 g, .int .i64 f] 26
 simp only [World.size_alloc] at b1 b2 b3
 have hB4 : Below w.heap.size w ((((w.alloc (.cells #[.string z.nm, .int .i64 z.first.off, .int .i64 z.first.sv, .string z.first.nm, .slice AT z.table.length cT, .slice AR z.tail.length cR, .int .i64 z.off, .string z.form, .int .i64 z.year] 48)).alloc (.cells #[.string q.nm, .int .i64 q.first.off, .int .i64 q.first.sv, .string q.first.nm, .slice AU q.table.length cU, .slice AS q.tail.length cS, .int .i64 q.off, .string q.form, .int .i64 q.year] 48)).alloc (.cells #[.int .i64 a, .int .i64 b] 35)).alloc (.cells #[.int .i64 g, .int .i64 f] 26)) := ((((Below.refl _ _).alloc (Nat.le_refl _) _).alloc (by simp) _).alloc (by simp; omega) _).alloc (by simp; omega) _
 unfold Zn.v at HV HVq HCz HCq ⊢
 unfold Zn.cellsZ at HI
 go_enter Tryz.func19, Tryz.ntmps19
 go_wp2_with fail
 generalize ((((w.alloc (.cells #[.string z.nm, .int .i64 z.first.off, .int .i64 z.first.sv, .string z.first.nm, .slice AT z.table.length cT, .slice AR z.tail.length cR, .int .i64 z.off, .string z.form, .int .i64 z.year] 48)).alloc (.cells #[.string q.nm, .int .i64 q.first.off, .int .i64 q.first.sv, .string q.first.nm, .slice AU q.table.length cU, .slice AS q.tail.length cS, .int .i64 q.off, .string q.form, .int .i64 q.year] 48)).alloc (.cells #[.int .i64 a, .int .i64 b] 35)).alloc (.cells #[.int .i64 g, .int .i64 f] 26)) = W at *
 have hw : w.heap.size ≤ W.heap.size := hB4.size
 by_cases hvz : z.valid = true
 case neg =>
  have hv0 : z.valid = false := by simpa using hvz
  refine (HV.out W hB4).mono ?_
  rintro e w1 ⟨rfl, hb1⟩
  skip
  rw [hv0]
  go_wp2
  go_ret2
  exact ⟨hB4.trans (hb1.mono hw), .inl ⟨.inl hv0, rfl⟩⟩
 refine (HV.out W hB4).mono ?_
 rintro e w1 ⟨rfl, hb1⟩
 skip
 rw [hvz]
 clear HV
 have Kq := b1.below hb1 b1.lt
 have Lq := Kq.lt
 have q0 := blk_cl Kq 0 _ rfl
 have q1 := blk_cl Kq 1 _ rfl
 have q2 := blk_cl Kq 2 _ rfl
 have q3 := blk_cl Kq 3 _ rfl
 have q4 := blk_cl Kq 4 _ rfl
 have q5 := blk_cl Kq 5 _ rfl
 have q6 := blk_cl Kq 6 _ rfl
 have q7 := blk_cl Kq 7 _ rfl
 have q8 := blk_cl Kq 8 _ rfl
 go_wp2_with fail
 by_cases hvq : q.valid = true
 case neg =>
  have hv0 : q.valid = false := by simpa using hvq
  refine (HVq.out w1 (hB4.trans (hb1.mono hw))).mono ?_
  rintro e w2 ⟨rfl, hb2⟩
  have hb2 := hb1.trans (hb2.mono hb1.size)
  rw [hv0]
  go_wp2
  go_ret2
  exact ⟨hB4.trans (hb2.mono hw), .inl ⟨.inr (.inl hv0), rfl⟩⟩
 refine (HVq.out w1 (hB4.trans (hb1.mono hw))).mono ?_
 rintro e w2 ⟨rfl, hb2⟩
 have hb2 := hb1.trans (hb2.mono hb1.size)
 rw [hvq]
 clear HVq
 clear Kq Lq q0 q1 q2 q3 q4 q5 q6 q7 q8
 have Kp := b3.below hb2 b3.lt
 have Lp := Kp.lt
 have p0 := blk_cl Kp 0 _ rfl
 have p1 := blk_cl Kp 1 _ rfl
 go_wp2_with fail
 by_cases hpo : polB g f = true
 case neg =>
  have hv0 : polB g f = false := by simpa using hpo
  refine (HPO.out w2).mono ?_
  rintro e w3 ⟨rfl, hb3⟩
  have hb3 := hb2.trans (hb3.mono hb2.size)
  rw [hv0]
  go_wp2
  go_ret2
  exact ⟨hB4.trans (hb3.mono hw), .inl ⟨.inr (.inr (.inl hv0)), rfl⟩⟩
 refine (HPO.out w2).mono ?_
 rintro e w3 ⟨rfl, hb3⟩
 have hb3 := hb2.trans (hb3.mono hb2.size)
 rw [hpo]
 clear HPO
 clear Kp Lp p0 p1
 have Ki := b2.below hb3 b2.lt
 have Li := Ki.lt
 have i0 := blk_cl Ki 0 _ rfl
 have i1 := blk_cl Ki 1 _ rfl
 go_wp2_with fail
 by_cases hsp : spanV a b = true
 case neg =>
  have hv0 : spanV a b = false := by simpa using hsp
  refine (HS.out w3).mono ?_
  rintro e w4 ⟨rfl, hb4⟩
  have hb4 := hb3.trans (hb4.mono hb3.size)
  rw [hv0]
  go_wp2
  go_ret2
  exact ⟨hB4.trans (hb4.mono hw), .inl ⟨.inr (.inr (.inr hv0)), rfl⟩⟩
 refine (HS.out w3).mono ?_
 rintro e w4 ⟨rfl, hb4⟩
 have hb4 := hb3.trans (hb4.mono hb3.size)
 rw [hsp]
 clear HS
 clear Ki Li i0 i1
 have Kz := b0.below hb4 b0.lt
 have Lz := Kz.lt
 have z0 := blk_cl Kz 0 _ rfl
 have z1 := blk_cl Kz 1 _ rfl
 have z2 := blk_cl Kz 2 _ rfl
 have z3 := blk_cl Kz 3 _ rfl
 have z4 := blk_cl Kz 4 _ rfl
 have z5 := blk_cl Kz 5 _ rfl
 have z6 := blk_cl Kz 6 _ rfl
 have z7 := blk_cl Kz 7 _ rfl
 have z8 := blk_cl Kz 8 _ rfl
 have Ki := b2.below hb4 b2.lt
 have Li := Ki.lt
 have i0 := blk_cl Ki 0 _ rfl
 have i1 := blk_cl Ki 1 _ rfl
 have hsp2 : -62135596800 ≤ a ∧ a < b ∧ b ≤ 253402300800 := by
  unfold spanV at hsp
  simp at hsp
  omega
 have hcz2 := hcz hvz hsp
 have hcq2 := hcq hvq hsp
 have HCz := Lib.hid (HCz.out hvz hsp2.1 hsp2.2.1 hsp2.2.2 (Nat.le_trans hcz2 (by omega)))
 have HCq := Lib.hid (HCq.out hvq hsp2.1 hsp2.2.1 hsp2.2.2 (Nat.le_trans hcq2 (by omega)))
 have HLH := Lib.hid (fun l hA hb h1 h2 t => loc_has hvz hvq hsp2.1 hsp2.2.1 hsp2.2.2 (l := l) hA hb h1 h2 g f t)
 have hlz2 : 0 < (z.cutsF a b).length ∧ (z.cutsF a b).length ≤ 4 * N + 4 := by rw [zcuts_len]; omega
 have hlq2 : 0 < (q.cutsF a b).length ∧ (q.cutsF a b).length ≤ 4 * N + 4 := by rw [zcuts_len]; omega
 unfold CutEnd at HCz HCq
 go_wp2_with fail
 refine (HCz.out w4 (hB4.trans (hb4.mono hw))).mono ?_
 rintro e w5 ⟨v5, rfl, hr5, hb5⟩
 have s45 := hb5.size
 have hb5 := hb4.trans (hb5.mono hb4.size)
 clear HCz
 clear Kz Lz z0 z1 z2 z3 z4 z5 z6 z7 z8 Ki Li i0 i1
 have Kq := b1.below hb5 b1.lt
 have Lq := Kq.lt
 have q0 := blk_cl Kq 0 _ rfl
 have q1 := blk_cl Kq 1 _ rfl
 have q2 := blk_cl Kq 2 _ rfl
 have q3 := blk_cl Kq 3 _ rfl
 have q4 := blk_cl Kq 4 _ rfl
 have q5 := blk_cl Kq 5 _ rfl
 have q6 := blk_cl Kq 6 _ rfl
 have q7 := blk_cl Kq 7 _ rfl
 have q8 := blk_cl Kq 8 _ rfl
 have Ki := b2.below hb5 b2.lt
 have Li := Ki.lt
 have i0 := blk_cl Ki 0 _ rfl
 have i1 := blk_cl Ki 1 _ rfl
 have HR5 := Lib.hid hr5
 clear hr5
 go_wp2_with fail
 refine (HCq.out w5 (hB4.trans (hb5.mono hw))).mono ?_
 rintro e w6 ⟨v6, rfl, hr6, hb6⟩
 have s56 := hb6.size
 have HO5 := Lib.hid (own_on HR5.out hb6)
 have hn5 := noSpot_own HO5.out
 have hn6 := noSpot_own hr6
 have hlo6 := own_in hr6
 have hlt5 := own_lt HR5.out
 have hr6' := hr6
 rw [← flat_encX1] at hr6'
 have HR6 := Lib.hid (rd_of_own encX1_len hr6' rfl)
 clear hr6'
 have hb6 := hb5.trans (hb6.mono hb5.size)
 clear HCq hr6
 clear Kq Lq q0 q1 q2 q3 q4 q5 q6 q7 q8 Ki Li i0 i1
 have hcl := hcz2
 generalize hCz : z.cutsF a b = Cz at *
 generalize hCq : q.cutsF a b = Cq at *
 have kz := (b0.below hb6 b0.lt).alloc (.cells #[.slice none 0 0] 59)
 have kq := (b1.below hb6 b1.lt).alloc (.cells #[.slice none 0 0] 59)
 have ki := (b2.below hb6 b2.lt).alloc (.cells #[.slice none 0 0] 59)
 have kp := (b3.below hb6 b3.lt).alloc (.cells #[.slice none 0 0] 59)
 have li := ki.lt
 have i0 := blk_cl ki 0 _ rfl
 have i1 := blk_cl ki 1 _ rfl
 have bo := Boxed.new w6 59 (.slice none 0 0)
 have hbO : Below W.heap.size W (w6.alloc (.cells #[.slice none 0 0] 59)) := hb6.alloc hb6.size _
 have hs5 := hb4.size
 have hs6 := hb6.size
 have hs45 := hb5.size
 have hdr0 : Below (w6.alloc (.cells #[.slice none 0 0] 59)).heap.size (w6.alloc (.cells #[.slice none 0 0] 59)) (w6.alloc (.cells #[.slice none 0 0] 59)).drew := below_drewN (Below.refl _ _) 1
 have hdr : Below W.heap.size W (w6.alloc (.cells #[.slice none 0 0] 59)).drew := below_drewN hbO 1
 have HO7 := Lib.hid (own_on (own_on HO5.out (alloc_below' w6 (.cells #[.slice none 0 0] 59))) hdr0)
 have hcL : 0 < Cq.length := by omega
 obtain ⟨g6, o6, c6, rfl⟩ : ∃ g6 o6 c6, v6 = .slice (some ⟨g6, o6, none⟩) Cq.length c6 := by
  rcases HR6.out with ⟨e, _⟩ | ⟨g6, o6, c6, hv, _⟩
  ·rw [e] at hcL; simp at hcL
  ·exact ⟨g6, o6, c6, hv⟩
 have HNW := Lib.hid (rd_news ((HR6.out.on (alloc_below' w6 (.cells #[.slice none 0 0] 59))).on hdr0))
 have bo := bo.kept (below_grown (row := none) hdr0) (by simp)
 have kz := kz.below hdr0 kz.lt
 have kq := kq.below hdr0 kq.lt
 have kp := kp.below hdr0 kp.lt
 have hsz6 : (w6.alloc (.cells #[.slice none 0 0] 59)).drew.heap.size = w6.heap.size + 1 := by simp
 have HS := Lib.hid (fun w' (hb : Below W.heap.size W w') => And.intro hb (And.intro ((b2.below hb b2.lt).cell 0 (v := .int .i64 a) rfl) ((b2.below hb b2.lt).cell 1 (v := .int .i64 b) rfl)))
 have hWb := b3.lt
 obtain ⟨i0', hi0, hz0, hz1, hz2⟩ := info_parts infoI
 have hlen : (Cz ++ Cq).length ≤ 2990 := by rw [List.length_append]; omega
 have hzl2 : Cz.length ≤ 2990 := by rw [List.length_append] at hlen; omega
 have hql2 : Cq.length ≤ 2990 := by rw [List.length_append] at hlen; omega
 clear HO5 HR6
 have hlo5 := own_in HR5.out
 have HBE := Lib.hid (fun w' (hb : Below W.heap.size W w') => hB4.trans (hb.mono hw))
 go_wp2_with fail
 generalize hwo : w6.alloc (.cells #[.slice none 0 0] 59) = wo at *
 clear hwo i0 i1 li ki
 have HPC := Lib.hid (show ∀ gg cap w8, w8.ownsRow w4.heap.size 3 1 (.slice (some ⟨gg, 0, none⟩) (Cz.length + Cq.length) cap) (Cz.length + Cq.length) (Cz.map (Value.int .i64) ++ Cq.map (Value.int .i64)) → wo.drew.grownBy w8 v5.ownBlock → (v5.ownBlock = some gg ∨ gg = wo.drew.heap.size) → Below W.heap.size W w8 →
   Calls Tryz.prog 55 #[.agg #[.int .i64 a, .int .i64 b], .slice (some ⟨gg, 0, none⟩) (Cz.length + Cq.length) cap, .func (.func 56) #[] #[.pointer (some ⟨w.heap.size, 0, none⟩), .pointer (some ⟨w.heap.size + 1 + 1 + 1, 0, none⟩), .pointer (some ⟨w.heap.size + 1, 0, none⟩), .pointer (some ⟨w6.heap.size, 0, none⟩)]] w8 fun e w9 => e = .returned (.tuple #[]) ∧ Below W.heap.size W w9 ∧ ∃ w0, w.heap.size ≤ w0.heap.size ∧ OutP w6.heap.size w0 ((piecesC b a ((Cz ++ Cq ++ [a, b]).mergeSort fun x y => decide (x ≤ y))).flatMap (partF (fun y => z.resV y g f) (fun y => q.resV y g f))) w9 from by
  intro gg cap w8 hown hg hat hb8
  have hown' : w8.ownsRow w4.heap.size 3 1 (.slice (some ⟨gg, 0, none⟩) (Cz.length + Cq.length) cap) (Cz ++ Cq).length ((Cz ++ Cq).map (Value.int .i64)) := by rw [List.length_append, List.map_append]; exact hown
  have hgg : w4.heap.size ≤ gg ∧ gg ≠ w6.heap.size := by
   rcases hat with h | h
   ·have := hlo5 _ h; omega
   ·omega
  have hs8 := hg.size
  have hbox8 := bo.kept hg (fun e => by have := hlo5 _ e.symm; omega)
  have kz8 := kz.kept hg (fun e => by have := hlo5 _ e.symm; omega)
  have kq8 := kq.kept hg (fun e => by have := hlo5 _ e.symm; omega)
  have kp8 := kp.kept hg (fun e => by have := hlo5 _ e.symm; omega)
  have hw8 : Below w.heap.size w w8 := HBE.out w8 hb8
  refine (pieces_loc w.heap.size (w.heap.size + 1 + 1 + 1) (w.heap.size + 1) w6.heap.size w4.heap.size (partF (fun y => z.resV y g f) (fun y => q.resV y g f)) (fun s => part_len _ _ s) (Cz ++ Cq) (.slice (some ⟨gg, 0, none⟩) (Cz.length + Cq.length) cap) a b w8 hsp2.2.1 hlen hown' (by omega) (by omega) hbox8
   (fun w0 L s Wk hg0 hP h1 h2 h3 hl => HI.out w.heap.size (w.heap.size + 1 + 1 + 1) (w.heap.size + 1) w6.heap.size w0 Wk L s ⟨by omega, h2, by omega⟩ (hw8.grown hg0 hw8.size fun r er => by obtain rfl : gg = r := (by simpa [Value.ownBlock] using er); omega) (by omega)
    (kz8.kept hg0 (fun e => by simp [Value.ownBlock] at e; omega)) (kq8.kept hg0 (fun e => by simp [Value.ownBlock] at e; omega)) (kp8.kept hg0 (fun e => by simp [Value.ownBlock] at e; omega)) (by omega) (by omega) (by omega) hl hP)).mono ?_
  rintro e w9 ⟨rfl, w0, hg0, hP9⟩
  have hb0 : Below W.heap.size W w0 := hb8.grown hg0 hb8.size fun r er => by obtain rfl : gg = r := (by simpa [Value.ownBlock] using er); omega
  exact ⟨rfl, hb0.trans (hP9.old (show W.heap.size ≤ w6.heap.size by omega)), w0, Nat.le_trans hw hb0.size, hP9⟩)
 clear HI kz kq kp bo hlo5
 have i0 := (HS.out _ hdr).2.1
 have i1 := (HS.out _ hdr).2.2
 have HD := Lib.hid (HLH.out ((Cz ++ Cq ++ [a, b]).mergeSort fun x y => decide (x ≤ y)) (sorted_ms _) (mem_ms.2 (by simp)) (fun c hc => mem_ms.2 (by simp [hc])) (fun c hc => mem_ms.2 (by simp [hc])))
 have hpl := piecesC_len b a ((Cz ++ Cq ++ [a, b]).mergeSort fun x y => decide (x ≤ y))
 have hdl := flat_two (part_len (fun y => z.resV y g f) (fun y => q.resV y g f)) (piecesC b a ((Cz ++ Cq ++ [a, b]).mergeSort fun x y => decide (x ≤ y)))
 have hpk := (piecesC_ok b (f := a) (sorted_ms (Cz ++ Cq ++ [a, b])) (by omega)).1
 have hdo : ∀ s ∈ (piecesC b a ((Cz ++ Cq ++ [a, b]).mergeSort fun x y => decide (x ≤ y))).flatMap (partF (fun y => z.resV y g f) (fun y => q.resV y g f)), s.ok = true := fun s hs => by
  obtain ⟨p, hp, hs⟩ := List.mem_flatMap.1 hs
  have h := (hpk p hp).1
  have h2 := part_in h.2.1 s hs
  exact Spn.ok_iff.2 ⟨by omega, by omega, by omega⟩
 rw [List.length_mergeSort] at hpl
 have hal : (Cz ++ Cq ++ [a, b]).length ≤ 8 * N + 10 := by rw [List.length_append, List.length_append]; simp only [List.length_cons, List.length_nil]; omega
 generalize (piecesC b a ((Cz ++ Cq ++ [a, b]).mergeSort fun x y => decide (x ≤ y))).flatMap (partF (fun y => z.resV y g f) (fun y => q.resV y g f)) = D at *
 have hdl2 : D.length ≤ 2 * (8 * N + 10) := by omega
 clear hdl hpl hpk hal
 go_region_held3 (fun w' => Below W.heap.size W w' ∧ w'.cell? ⟨w.heap.size + 1 + 1, 0, none⟩ = some (.int .i64 a) ∧ w'.cell? ⟨w.heap.size + 1 + 1, 1, none⟩ = some (.int .i64 b)) (first | exact HS.out _ hdr | exact HS.out _ hb9 | exact HS.out _ K8 | go_keep)
  (first
   | (refine step_append_lies _ (by rfl) _ _ _ (by rfl) w4.heap.size 3 i0' _ 1 8 Tryz.underlying51 hi0 hz0 hz1 hz2 rfl (by omega) _ _ _ (by rfl) HO7.out ⟨g6, o6, none⟩ Cq.length c6 (Cq.map (Value.int .i64)) (by rfl) (by simp) HNW.out (map_oneT Cq) hcL (by simp only [maxLen]; omega) (by omega) (by omega) _ rfl ?_; intro gg cap w8 hown8 hg8 hat8 hlt8; have K8 : Below W.heap.size W w8 := below_app HO7.out (by omega) hdr hg8)
   | (go_at_call 55; refine (HPC.out gg cap w8 hown8 hg8 hat8 K8).mono ?_; rintro e w9 ⟨rfl, hb9, w0, hw0, hP9⟩; obtain ⟨_, hoo, u, hbu, hou, hnil⟩ := hP9; have o0 := hbu.cell; have ol := hbu.lt))
 all_goals
  have hb10 := HBE.out w9 hb9
  go_wp2_with fail
  by_cases hD : D = []
  ·have hu := hnil hD
   subst hu
   subst hD
   refine (Of_nil _).mono ?_
   rintro e w10 ⟨rfl, hbx⟩
   go_wp2
   go_ret2
   exact ⟨hb10.trans (hbx.mono hb10.size), .inr ⟨hvz, hvq, hpo, hsp, [], canon_nil, HD.out, by simp, .inl ⟨by simp, _, rfl, World.ownsRow_nil _ _ _ _⟩⟩⟩
  ·have hOf := Of_runs2 D u w9 (List.length_pos_iff.2 hD) (by omega) hdo (rd_of_own encN_len hou rfl)
   unfold OfEnd2 at hOf
   refine hOf.mono ?_
   rintro e w10 ⟨out, hc, hm, _, hlen, hbx, h10⟩
   rcases h10 with ⟨h2, u', rfl, hown10⟩ | ⟨h2, rfl⟩
   ·go_wp2
    go_ret2
    exact ⟨hb10.trans (hbx.mono hb10.size), .inr ⟨hvz, hvq, hpo, hsp, out, hc, fun t => (hm t).trans (HD.out t), by omega, .inl ⟨h2, u', rfl, own_lower hown10 hb10.size⟩⟩⟩
   ·go_wp2
    go_ret2
    exact ⟨hb10.trans (hbx.mono hb10.size), .inr ⟨hvz, hvq, hpo, hsp, out, hc, fun t => (hm t).trans (HD.out t), by omega, .inr ⟨h2, rfl⟩⟩⟩
end Go.Proofs.YtdafcipilknecaaGreatDoor

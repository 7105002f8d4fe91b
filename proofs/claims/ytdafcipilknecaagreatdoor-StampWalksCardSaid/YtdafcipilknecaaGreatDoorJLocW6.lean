/- local.Of, local.Instants. -/
import Derived.Test.YtdafcipilknecaaGreatDoorGLa
import Derived.Test.YtdafcipilknecaaGreatDoorJShiftP
namespace Go.Proofs.YtdafcipilknecaaGreatDoor
set_option linter.unusedSimpArgs false
set_option linter.unusedVariables false
open Go.ChangeShapes Go.WideShapes Go.ChangeAt Go.RowKit
theorem ofV_at (z : Zn) (t : Int) : (z.atV t).2 = 0 ∧ z.valid = true ∧ inT t = true ∧ z.ofV t = (if inT (t + (z.atV t).1.off) = true then (t + (z.atV t).1.off, 0) else (0, 2)) ∨ (z.atV t).2 ≠ 0 ∧ z.ofV t = (0, (z.atV t).2) := by
 unfold Zn.ofV Zn.atV
 rw [inTB_T, inTB_T]
 cases hv : z.valid
 ·right; simp
 ·cases ht : inT t
  ·right; simp
  ·left
   refine ⟨rfl, rfl, rfl, ?_⟩
   show _ = if inT (t + z.offF t) = true then (t + z.offF t, 0) else (0, 2)
   cases inT (t + z.offF t) <;> simp
set_option maxRecDepth 100000 in
set_option maxHeartbeats 4000000 in
theorem Of_any (z : Zn) (vT vR : Value) (t : Int) (w : World) (hm : HasMax w) (hT : Rd Trn.cells 4 w vT z.table) (hR : Rd Rule.cells 11 w vR z.tail) (hfs : z.form.size < 4294967281) (hll : z.tail.length ≤ 12 ∨ 100 < z.tail.length) :
  Calls Tryz.prog 16 #[z.v vT vR, .int .i64 t] w fun e w' => e = .returned (.tuple #[.int .i64 (z.ofV t).1, .int .i64 (z.ofV t).2]) ∧ Below w.heap.size w w' := by
 have HAT := Lib.hid (fun W (hb : Below w.heap.size w W) => zAt_any z vT vR t W (hm.on hb) (hT.on hb) (hR.on hb) hfs hll)
 obtain ⟨AT, cT, rfl⟩ := rd_vf hT
 obtain ⟨AR, cR, rfl⟩ := rd_vf hR
 have hoff : z.valid = true → inT t = true → -93600 < (z.atV t).1.off ∧ (z.atV t).1.off < 93600 := fun hv ht => by
  have e : z.atV t = (z.typF t, 0) := by unfold Zn.atV; rw [if_neg (by rw [hv]; decide), if_neg (by rw [ht]; decide)]
  rw [e]
  exact off_bd hv t
 have hof := ofV_at z t
 unfold Zn.v at HAT ⊢
 unfold atR Typ.val at HAT
 generalize z.ofV t = R at *
 generalize z.atV t = A at *
 obtain ⟨⟨ao, asv, an⟩, ae⟩ := A
 dsimp only at *
 clear hT hR hm
 have b1 := Blk.new w #[.string z.nm, .int .i64 z.first.off, .int .i64 z.first.sv, .string z.first.nm, .slice AT z.table.length cT, .slice AR z.tail.length cR, .int .i64 z.off, .string z.form, .int .i64 z.year] 48
 have hB1 : Below w.heap.size w (w.alloc (.cells #[.string z.nm, .int .i64 z.first.off, .int .i64 z.first.sv, .string z.first.nm, .slice AT z.table.length cT, .slice AR z.tail.length cR, .int .i64 z.off, .string z.form, .int .i64 z.year] 48)) := (Below.refl _ _).alloc (Nat.le_refl _) _
 have hBT : ∀ w3 : World, Below w.heap.size w w3 → Below w.heap.size w (w3.alloc (.cells #[.int .i64 ao, .int .i64 asv, .string an] 44)) := fun w3 h => h.alloc h.size _
 rcases hof with ⟨rfl, hv, ht, hof⟩ | ⟨he, hof⟩
 ·obtain ⟨o1, o2⟩ := hoff hv ht
  have tb : -62135596800 ≤ t ∧ t < 253402300800 := by unfold inT at ht; simpa using ht
  obtain ⟨tb1, tb2⟩ := tb
  clear hoff hv ht
  cases hi : inT (t + ao)
  ·rw [hi] at hof
   subst hof
   go_enter Tryz.func16, Tryz.ntmps16
   go_wp2_with fail
   generalize (w.alloc (.cells #[.string z.nm, .int .i64 z.first.off, .int .i64 z.first.sv, .string z.first.nm, .slice AT z.table.length cT, .slice AR z.tail.length cR, .int .i64 z.off, .string z.form, .int .i64 z.year] 48)) = W at *
   go_wp2_with (first
    | (go_at_call 50; refine (HAT.out W hB1).mono ?_; rintro e w3 ⟨rfl, hb3⟩; have hB3 := hBT w3 (hB1.trans (hb3.mono hB1.size)); have bt := Blk.new w3 #[.int .i64 ao, .int .i64 asv, .string an] 44; have t0 := bt.cl 0 _ rfl; clear HAT)
    | (go_at_call 48; refine (isTime_any (t + ao) _).mono ?_; rintro e w4 ⟨rfl, rfl⟩; rw [hi]))
   go_ret2
   exact ⟨rfl, hB3⟩
  ·rw [hi] at hof
   subst hof
   go_enter Tryz.func16, Tryz.ntmps16
   go_wp2_with fail
   generalize (w.alloc (.cells #[.string z.nm, .int .i64 z.first.off, .int .i64 z.first.sv, .string z.first.nm, .slice AT z.table.length cT, .slice AR z.tail.length cR, .int .i64 z.off, .string z.form, .int .i64 z.year] 48)) = W at *
   go_wp2_with (first
    | (go_at_call 50; refine (HAT.out W hB1).mono ?_; rintro e w3 ⟨rfl, hb3⟩; have hB3 := hBT w3 (hB1.trans (hb3.mono hB1.size)); have bt := Blk.new w3 #[.int .i64 ao, .int .i64 asv, .string an] 44; have t0 := bt.cl 0 _ rfl; clear HAT)
    | (go_at_call 48; refine (isTime_any (t + ao) _).mono ?_; rintro e w4 ⟨rfl, rfl⟩; rw [hi]))
   go_ret2
   exact ⟨rfl, hB3⟩
 ·subst hof
  clear hoff
  have de : decide (ae = 0) = false := decide_eq_false he
  go_enter Tryz.func16, Tryz.ntmps16
  go_wp2_with fail
  generalize (w.alloc (.cells #[.string z.nm, .int .i64 z.first.off, .int .i64 z.first.sv, .string z.first.nm, .slice AT z.table.length cT, .slice AR z.tail.length cR, .int .i64 z.off, .string z.form, .int .i64 z.year] 48)) = W at *
  go_wp2_with (go_at_call 50; refine (HAT.out W hB1).mono ?_; rintro e w3 ⟨rfl, hb3⟩; have hB3 := hBT w3 (hB1.trans (hb3.mono hB1.size)); clear HAT)
  go_ret2
  exact ⟨rfl, hB3⟩
def Zn.insV (z : Zn) (l : Int) : List Int × Int := if z.valid = false then ([], 1) else if inT l = false then ([], 2) else (z.insts l, 0)
set_option maxRecDepth 100000 in
set_option maxHeartbeats 4000000 in
theorem Instants_any (z : Zn) (vT vR : Value) (l : Int) (w : World) (hm : HasMax w) (hT : Rd Trn.cells 4 w vT z.table) (hR : Rd Rule.cells 11 w vR z.tail) (hfs : z.form.size < 4294967281) (hll : z.tail.length ≤ 12) (htl : z.table.length ≤ 300) :
  Calls Tryz.prog 15 #[z.v vT vR, .int .i64 l] w fun e w' => ∃ v, e = .returned (.tuple #[v, .int .i64 (z.insV l).2]) ∧ w'.ownsRow w.heap.size 3 1 v (z.insV l).1.length ((z.insV l).1.map encI) ∧ Below w.heap.size w w' := by
 have HV := Lib.hid (fun W (hb : Below w.heap.size w W) => Valid_zone z vT vR W (hm.on hb) (hT.on hb) (hR.on hb) hfs (.inl hll))
 have HI := Lib.hid (fun hv hl W (hb : Below w.heap.size w W) => instants_any z vT vR l W (hm.on hb) (hT.on hb) (hR.on hb) hfs hll htl hv hl)
 obtain ⟨AT, cT, rfl⟩ := rd_vf hT
 obtain ⟨AR, cR, rfl⟩ := rd_vf hR
 unfold Zn.v at HV HI ⊢
 unfold Zn.insV
 clear hT hR hm
 have b1 := Blk.new w #[.string z.nm, .int .i64 z.first.off, .int .i64 z.first.sv, .string z.first.nm, .slice AT z.table.length cT, .slice AR z.tail.length cR, .int .i64 z.off, .string z.form, .int .i64 z.year] 48
 have hB1 : Below w.heap.size w (w.alloc (.cells #[.string z.nm, .int .i64 z.first.off, .int .i64 z.first.sv, .string z.first.nm, .slice AT z.table.length cT, .slice AR z.tail.length cR, .int .i64 z.off, .string z.form, .int .i64 z.year] 48)) := (Below.refl _ _).alloc (Nat.le_refl _) _
 cases hv : z.valid
 ·rw [hv] at HV
  go_enter Tryz.func15, Tryz.ntmps15
  go_wp2_with fail
  generalize (w.alloc (.cells #[.string z.nm, .int .i64 z.first.off, .int .i64 z.first.sv, .string z.first.nm, .slice AT z.table.length cT, .slice AR z.tail.length cR, .int .i64 z.off, .string z.form, .int .i64 z.year] 48)) = W at *
  go_wp2_with (go_at_call 47; refine (HV.out W hB1).mono ?_; rintro e w3 ⟨rfl, hb3⟩; have hB3 := hB1.trans (hb3.mono hB1.size); clear HV)
  go_ret2
  exact ⟨_, rfl, World.ownsRow_nil _ _ _ _, hB3⟩
 ·rw [hv] at HV
  cases hl : inT l
  ·go_enter Tryz.func15, Tryz.ntmps15
   go_wp2_with fail
   generalize (w.alloc (.cells #[.string z.nm, .int .i64 z.first.off, .int .i64 z.first.sv, .string z.first.nm, .slice AT z.table.length cT, .slice AR z.tail.length cR, .int .i64 z.off, .string z.form, .int .i64 z.year] 48)) = W at *
   go_wp2_with (first
    | (go_at_call 47; refine (HV.out W hB1).mono ?_; rintro e w3 ⟨rfl, hb3⟩; have hB3 := hB1.trans (hb3.mono hB1.size); clear HV)
    | (go_at_call 48; refine (isTime_any l _).mono ?_; rintro e w4 ⟨rfl, rfl⟩; rw [hl]))
   go_ret2
   exact ⟨_, rfl, World.ownsRow_nil _ _ _ _, hB3⟩
  ·have HI2 := Lib.hid (HI.out hv hl)
   clear HI
   go_enter Tryz.func15, Tryz.ntmps15
   go_wp2_with fail
   generalize (w.alloc (.cells #[.string z.nm, .int .i64 z.first.off, .int .i64 z.first.sv, .string z.first.nm, .slice AT z.table.length cT, .slice AR z.tail.length cR, .int .i64 z.off, .string z.form, .int .i64 z.year] 48)) = W at *
   go_wp2_with (first
    | (go_at_call 47; refine (HV.out W hB1).mono ?_; rintro e w3 ⟨rfl, hb3⟩; have hB3 := hB1.trans (hb3.mono hB1.size); have bz := b1.below hb3 b1.lt; have z0 := bz.cl 0 _ rfl; have z1 := bz.cl 1 _ rfl; have z2 := bz.cl 2 _ rfl; have z3 := bz.cl 3 _ rfl; have z4 := bz.cl 4 _ rfl; have z5 := bz.cl 5 _ rfl; have z6 := bz.cl 6 _ rfl; have z7 := bz.cl 7 _ rfl; have z8 := bz.cl 8 _ rfl; clear HV)
    | (go_at_call 48; refine (isTime_any l _).mono ?_; rintro e w4 ⟨rfl, rfl⟩; rw [hl])
    | (go_at_call 49; refine (HI2.out w3 hB3).mono ?_; rintro e w5 ⟨v5, rfl, hr5, hb5⟩; obtain ⟨A5, c5, rfl⟩ := own_formN hr5; clear HI2))
   go_ret2
   exact ⟨_, rfl, own_base hr5 hB3.size, hB3.trans (hb5.mono hB3.size)⟩
end Go.Proofs.YtdafcipilknecaaGreatDoor

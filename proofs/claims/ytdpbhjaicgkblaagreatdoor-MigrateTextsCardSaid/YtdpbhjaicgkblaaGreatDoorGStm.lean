/- Joined by merge.py: StmW, StmR, MigP. -/
import Derived.Test.YtdpbhjaicgkblaaGreatDoorGHis
import Derived.Test.YtdpbhjaicgkblaaGreatDoorGLx
/- stamp.Valid, stamp.resolve, stamp.Resolve. -/
namespace Go.Proofs.YtdpbhjaicgkblaaGreatDoor
set_option linter.unusedSimpArgs false
set_option linter.unusedVariables false
open Go.ChangeShapes Go.WideShapes Go.ChangeAt Go.RowKit Go.Sort Go.Lib
structure Stm where
 at_ : Int
 zn : ByteArray
 gap : Int
 fold : Int
instance : Inhabited Stm := ⟨⟨0, ⟨#[]⟩, 0, 0⟩⟩
def encStm (s : Stm) : List Value := [.int .i64 s.at_, .string s.zn, .int .i64 s.gap, .int .i64 s.fold]
def insT (t : Int) : Bool := decide (-62135596800 ≤ t) && decide (t < 253402300800)
theorem inside_any (t : Int) (w : World) : Calls Tryz.prog 61 #[.int .i64 t] w fun e w' => e = .returned (.bool (insT t)) ∧ w = w' := by
 unfold insT
 by_cases h1 : -62135596800 ≤ t
 ·have d1 := decide_eq_true h1
  go_enter Tryz.func61, Tryz.ntmps61
  go_wp2
  go_ret
  exact ⟨ret1 (vbool (by simp [h1])), rfl⟩
 ·have d1 := decide_eq_false h1
  go_enter Tryz.func61, Tryz.ntmps61
  go_wp2
  go_ret
  exact ⟨ret1 (vbool (by simp [h1])), rfl⟩
def emptyB (s : ByteArray) : Bool := s.toList.isEmpty
def stmB (s : Stm) : Bool := insT s.at_ && (if emptyB s.zn = true then decide (s.gap = 0 ∧ s.fold = 0) else Cv.nameZ s.zn && polB s.gap s.fold)
set_option maxRecDepth 100000 in
set_option maxHeartbeats 1500000 in
theorem stm_valid (s : Stm) (w : World) : Calls Tryz.prog 45 #[.agg (encStm s).toArray] w fun e w' => e = .returned (.bool (stmB s)) ∧ Below w.heap.size w w' := by
 have HI := Lib.hid (fun W => inside_any s.at_ W)
 have HN := Lib.hid (fun W => zoneName s.zn W)
 have HP := Lib.hid (fun W => pol_any s.gap s.fold W)
 have b0 := Blk.new w #[.int .i64 s.at_, .string s.zn, .int .i64 s.gap, .int .i64 s.fold] 38
 have hB1 : Below w.heap.size w (w.alloc (.cells #[.int .i64 s.at_, .string s.zn, .int .i64 s.gap, .int .i64 s.fold] 38)) := (Below.refl _ _).alloc (Nat.le_refl _) _
 have v0 := blk_cl b0 0 _ rfl
 have v1 := blk_cl b0 1 _ rfl
 have v2 := blk_cl b0 2 _ rfl
 have v3 := blk_cl b0 3 _ rfl
 have vl := b0.lt
 show Calls Tryz.prog 45 #[.agg #[.int .i64 s.at_, .string s.zn, .int .i64 s.gap, .int .i64 s.fold]] w _
 cases hi : insT s.at_
 ·rw [hi] at HI
  rw [show stmB s = false from by unfold stmB; rw [hi]; rfl]
  go_enter Tryz.func45, Tryz.ntmps45
  go_wp2_with (go_at_call 61; refine (HI.out _).mono ?_; rintro e w1 ⟨rfl, rfl⟩)
  go_ret
  exact ⟨rfl, hB1⟩
 rw [hi] at HI
 cases he : emptyB s.zn
 ·rw [show stmB s = (Cv.nameZ s.zn && polB s.gap s.fold) from by unfold stmB; rw [hi, he]; rfl]
  clear hi
  unfold emptyB at he
  cases hn : Cv.nameZ s.zn
  ·rw [hn] at HN
   rw [Bool.false_and]
   clear hn
   go_enter Tryz.func45, Tryz.ntmps45
   go_wp2_with (first | (go_at_call 61; refine (HI.out _).mono ?_; rintro e w1 ⟨rfl, rfl⟩) | (go_at_call 62; refine (HN.out _).mono ?_; rintro e w2 ⟨rfl, rfl⟩))
   go_ret
   exact ⟨rfl, hB1⟩
  ·rw [hn] at HN
   rw [Bool.true_and]
   clear hn
   go_enter Tryz.func45, Tryz.ntmps45
   go_wp2_with (first | (go_at_call 61; refine (HI.out _).mono ?_; rintro e w1 ⟨rfl, rfl⟩) | (go_at_call 62; refine (HN.out _).mono ?_; rintro e w2 ⟨rfl, rfl⟩) | (go_at_call 63; refine (HP.out _).mono ?_; rintro e w3 ⟨rfl, hb3⟩))
   go_ret
   exact ⟨rfl, hB1.trans (hb3.mono hB1.size)⟩
 ·rw [show stmB s = decide (s.gap = 0 ∧ s.fold = 0) from by unfold stmB; rw [hi, he]; rfl]
  clear hi HN HP
  unfold emptyB at he
  obtain ⟨sa, sz, sg, sf⟩ := s
  dsimp only at *
  by_cases hg : sg = 0
  ·subst hg
   by_cases hf : sf = 0
   ·subst hf
    go_enter Tryz.func45, Tryz.ntmps45
    go_wp2_with (go_at_call 61; refine (HI.out _).mono ?_; rintro e w1 ⟨rfl, rfl⟩)
    go_ret
    exact ⟨rfl, hB1⟩
   ·have d2 : (sf == 0) = false := by rw [beq_eq_false_iff_ne]; exact hf
    rw [decide_eq_false (fun h => hf h.2)]
    go_enter Tryz.func45, Tryz.ntmps45
    go_wp2_with (go_at_call 61; refine (HI.out _).mono ?_; rintro e w1 ⟨rfl, rfl⟩)
    all_goals (go_ret; exact ⟨ret1 (vbool (by simp [hf])), hB1⟩)
  ·have d1 : (sg == 0) = false := by rw [beq_eq_false_iff_ne]; exact hg
   rw [decide_eq_false (fun h => hg h.1)]
   go_enter Tryz.func45, Tryz.ntmps45
   go_wp2_with (go_at_call 61; refine (HI.out _).mono ?_; rintro e w1 ⟨rfl, rfl⟩)
   all_goals (go_ret; exact ⟨ret1 (vbool (by simp [hg])), hB1⟩)
end Go.Proofs.YtdpbhjaicgkblaaGreatDoor
/- stamp.resolve, stamp.Resolve. -/
namespace Go.Proofs.YtdpbhjaicgkblaaGreatDoor
set_option linter.unusedSimpArgs false
set_option linter.unusedVariables false
open Go.ChangeShapes Go.WideShapes Go.ChangeAt Go.RowKit Go.Sort Go.Lib
def rsv1 (L : List VV) (vn : ByteArray) (s : Stm) : Int × Int :=
 if emptyB s.zn = true then (s.at_, 0)
 else match (findF L vn s.zn).1 with
  | some y => y.z.resV s.at_ s.gap s.fold
  | none => (0, (findF L vn s.zn).2)
def rsvF (L : List VV) (vn : ByteArray) (s : Stm) : Int × Int := if validH L = true ∧ stmB s = true then rsv1 L vn s else (0, 1)
theorem findF_mem {L : List VV} {vn zn : ByteArray} {y : ZV} (h : (findF L vn zn).1 = some y) : (findF L vn zn).2 = 0 ∧ ∃ x ∈ L, y ∈ x.zs := by
 unfold findF at h ⊢
 by_cases h1 : validH L = true
 ·rw [if_pos h1] at h ⊢
  by_cases h2 : 0 ≤ numF L vn
  ·rw [if_pos h2] at h ⊢
   obtain ⟨k, hk, hkl, _⟩ := ixF_lt h2
   have hk : numF L vn = k := hk
   rw [hk, Int.toNat_natCast] at h ⊢
   have hmem : L[k]! ∈ L := by rw [getElem!_pos L k hkl]; exact List.getElem_mem hkl
   generalize L[k]! = x at *
   cases hf : fndZ x.zs x.ls zn with
   | none => rw [hf] at h; cases h
   | some y2 =>
    rw [hf] at h
    injection h with h
    subst h
    refine ⟨rfl, x, hmem, ?_⟩
    unfold fndZ at hf
    by_cases h3 : 0 ≤ fndI x.zs x.ls zn
    ·rw [if_pos h3] at hf
     injection hf with hf
     obtain ⟨j, hj, hjl, _⟩ := ixF_lt h3
     have hj : fndI x.zs x.ls zn = j := hj
     rw [hj, Int.toNat_natCast, getElem!_pos x.zs j hjl] at hf
     rw [← hf]
     exact List.getElem_mem hjl
    ·rw [if_neg h3] at hf; cases hf
  ·rw [if_neg h2] at h; cases h
 ·rw [if_neg h1] at h; cases h
theorem findF_err {L : List VV} {vn zn : ByteArray} (h : (findF L vn zn).1 = none) : (findF L vn zn).2 = 1 ∨ (findF L vn zn).2 = 7 := by
 unfold findF at h ⊢
 by_cases h1 : validH L = true
 ·rw [if_pos h1] at h ⊢
  by_cases h2 : 0 ≤ numF L vn
  ·rw [if_pos h2] at h ⊢
   cases hf : fndZ (L[(numF L vn).toNat]!).zs (L[(numF L vn).toNat]!).ls zn with
   | none => exact .inr rfl
   | some y => rw [hf] at h; cases h
  ·rw [if_neg h2]; exact .inr rfl
 ·rw [if_neg h1]; exact .inl rfl
set_option maxRecDepth 100000 in
set_option maxHeartbeats 1500000 in
theorem resolve_his (L : List VV) (vH : Value) (vn : ByteArray) (s : Stm) (w : World) (hm : HasMax w) (hg : GoodH w vH L) (hk : OkH L) : Calls Tryz.prog 102 #[.agg #[vH], .string vn, .agg (encStm s).toArray] w fun e w' => e = .returned (.tuple #[.int .i64 (rsv1 L vn s).1, .int .i64 (rsv1 L vn s).2]) ∧ Below w.heap.size w w' := by
 have HF := Lib.hid (fun W (hb : Below w.heap.size w W) => Find_his L vH vn s.zn W (hm.on hb) (hg.on hb) hk)
 have HRS := Lib.hid (fun (y : ZV) (h : (findF L vn s.zn).1 = some y) W (hb : Below w.heap.size w W) => show Calls Tryz.prog 109 #[y.z.v y.vT y.vR, .int .i64 s.at_, .agg #[.int .i64 s.gap, .int .i64 s.fold]] W fun e w' => e = .returned (.tuple #[.int .i64 (y.z.resV s.at_ s.gap s.fold).1, .int .i64 (y.z.resV s.at_ s.gap s.fold).2]) ∧ Below W.heap.size W w' from by
  obtain ⟨_, x, hx, hy⟩ := findF_mem h
  have ho := (hk.g x hx).g y hy
  have hgz := (hg.g x hx).g y hy
  exact Resolve_any y.z y.vT y.vR s.at_ s.gap s.fold W (hm.on hb) (hgz.1.on hb) (hgz.2.on hb) ho.2.2 ho.1 ho.2.1)
 obtain ⟨A, c, rfl⟩ := rd_vf hg.r
 have b1 := Blk.new (w.alloc (.cells #[.slice A L.length c] 28)) #[.int .i64 s.at_, .string s.zn, .int .i64 s.gap, .int .i64 s.fold] 38
 have b0 := (Blk.new w #[.slice A L.length c] 28).alloc (.cells #[.int .i64 s.at_, .string s.zn, .int .i64 s.gap, .int .i64 s.fold] 38)
 have hB2 : Below w.heap.size w ((w.alloc (.cells #[.slice A L.length c] 28)).alloc (.cells #[.int .i64 s.at_, .string s.zn, .int .i64 s.gap, .int .i64 s.fold] 38)) := ((Below.refl _ _).alloc (Nat.le_refl _) _).alloc (by simp) _
 rw [World.size_alloc] at b1
 clear hg hk hm
 show Calls Tryz.prog 102 #[.agg #[.slice A L.length c], .string vn, .agg #[.int .i64 s.at_, .string s.zn, .int .i64 s.gap, .int .i64 s.fold]] w _
 cases he : emptyB s.zn
 case true =>
  rw [show rsv1 L vn s = (s.at_, 0) from if_pos he]
  unfold emptyB at he
  go_enter Tryz.func102, Tryz.ntmps102
  go_wp2
  go_ret2
  exact ⟨rfl, hB2⟩
 have HX := Lib.hid (show rsv1 L vn s = match (findF L vn s.zn).1 with
  | some y => y.z.resV s.at_ s.gap s.fold
  | none => (0, (findF L vn s.zn).2) from if_neg (by rw [he]; decide))
 unfold emptyB at he
 have HER := Lib.hid (fun h => findF_err (L := L) (vn := vn) (zn := s.zn) h)
 have HEO := Lib.hid (fun y h => (findF_mem (L := L) (vn := vn) (zn := s.zn) (y := y) h).1)
 generalize hfr : findF L vn s.zn = r at *
 clear hfr
 obtain ⟨r1, r2⟩ := r
 dsimp only at HX HRS HF HER HEO
 rw [HX.out]
 cases r1 with
 | none =>
  have h7 : (r2 == 0) = false := by rw [beq_eq_false_iff_ne]; rcases HER.out rfl with h | h <;> omega
  dsimp only
  unfold optZ at HF
  go_enter Tryz.func102, Tryz.ntmps102
  go_wp2_with fail
  generalize (w.alloc (.cells #[.slice A L.length c] 28)).alloc (.cells #[.int .i64 s.at_, .string s.zn, .int .i64 s.gap, .int .i64 s.fold] 38) = W at *
  refine (HF.out W hB2).mono ?_
  rintro e w1 ⟨rfl, hb1⟩
  have hbw1 : Below w.heap.size w (w1.alloc (.cells #[.string ⟨#[]⟩, .int .i64 0, .int .i64 0, .string ⟨#[]⟩, .slice none 0 0, .slice none 0 0, .int .i64 0, .string ⟨#[]⟩, .int .i64 0] 65)) := (hB2.trans (hb1.mono hB2.size)).alloc (hB2.trans (hb1.mono hB2.size)).size _
  dsimp only [encZ, Zn.cellsZ, default, instInhabitedZV, List.toArray]
  go_wp2
  go_ret2
  exact ⟨rfl, hbw1⟩
 | some y =>
  have h0 := HEO.out y rfl
  subst h0
  obtain ⟨z, vT, vR, ⟨AT, cT, rfl⟩, ⟨AR, cR, rfl⟩⟩ := y
  have HR := Lib.hid (fun W hb => HRS.out _ rfl W hb)
  clear HRS HX
  dsimp only at HR ⊢
  unfold Zn.v at HR
  rw [show optZ (some ⟨z, .slice AT z.table.length cT, .slice AR z.tail.length cR, ⟨AT, cT, rfl⟩, ⟨AR, cR, rfl⟩⟩) = .agg #[.string z.nm, .int .i64 z.first.off, .int .i64 z.first.sv, .string z.first.nm, .slice AT z.table.length cT, .slice AR z.tail.length cR, .int .i64 z.off, .string z.form, .int .i64 z.year] from rfl] at HF
  generalize z.resV s.at_ s.gap s.fold = q at *
  obtain ⟨q1, q2⟩ := q
  dsimp only at HR ⊢
  go_enter Tryz.func102, Tryz.ntmps102
  go_wp2_with fail
  generalize (w.alloc (.cells #[.slice A L.length c] 28)).alloc (.cells #[.int .i64 s.at_, .string s.zn, .int .i64 s.gap, .int .i64 s.fold] 38) = W at *
  refine (HF.out W hB2).mono ?_
  rintro e w1 ⟨rfl, hb1⟩
  have bz := Blk.new w1 #[.string z.nm, .int .i64 z.first.off, .int .i64 z.first.sv, .string z.first.nm, .slice AT z.table.length cT, .slice AR z.tail.length cR, .int .i64 z.off, .string z.form, .int .i64 z.year] 65
  have hbw1 : Below w.heap.size w (w1.alloc (.cells #[.string z.nm, .int .i64 z.first.off, .int .i64 z.first.sv, .string z.first.nm, .slice AT z.table.length cT, .slice AR z.tail.length cR, .int .i64 z.off, .string z.form, .int .i64 z.year] 65)) := (hB2.trans (hb1.mono hB2.size)).alloc (hB2.trans (hb1.mono hB2.size)).size _
  have c1 := (b1.below hb1 b1.lt).alloc (.cells #[.string z.nm, .int .i64 z.first.off, .int .i64 z.first.sv, .string z.first.nm, .slice AT z.table.length cT, .slice AR z.tail.length cR, .int .i64 z.off, .string z.form, .int .i64 z.year] 65)
  have m0 := blk_cl c1 0 _ rfl
  have m1 := blk_cl c1 1 _ rfl
  have m2 := blk_cl c1 2 _ rfl
  have m3 := blk_cl c1 3 _ rfl
  have ml := c1.lt
  have y0 := blk_cl bz 0 _ rfl
  have y1 := blk_cl bz 1 _ rfl
  have y2 := blk_cl bz 2 _ rfl
  have y3 := blk_cl bz 3 _ rfl
  have y4 := blk_cl bz 4 _ rfl
  have y5 := blk_cl bz 5 _ rfl
  have y6 := blk_cl bz 6 _ rfl
  have y7 := blk_cl bz 7 _ rfl
  have y8 := blk_cl bz 8 _ rfl
  have yl := bz.lt
  go_wp2_with fail
  generalize w1.alloc (.cells #[.string z.nm, .int .i64 z.first.off, .int .i64 z.first.sv, .string z.first.nm, .slice AT z.table.length cT, .slice AR z.tail.length cR, .int .i64 z.off, .string z.form, .int .i64 z.year] 65) = w2 at *
  refine (HR.out w2 hbw1).mono ?_
  rintro e w3 ⟨rfl, hb3⟩
  go_wp2
  go_ret2
  exact ⟨rfl, hbw1.trans (hb3.mono hbw1.size)⟩
set_option maxRecDepth 100000 in
set_option maxHeartbeats 1500000 in
theorem Resolve_his (L : List VV) (vH : Value) (vn : ByteArray) (s : Stm) (w : World) (hm : HasMax w) (hg : GoodH w vH L) (hk : OkH L) : Calls Tryz.prog 80 #[.agg #[vH], .string vn, .agg (encStm s).toArray] w fun e w' => e = .returned (.tuple #[.int .i64 (rsvF L vn s).1, .int .i64 (rsvF L vn s).2]) ∧ Below w.heap.size w w' := by
 have HV := Lib.hid (fun W (hb : Below w.heap.size w W) => Valid_his L vH W (hm.on hb) (hg.on hb) hk)
 have HS := Lib.hid (fun W => stm_valid s W)
 have HRS := Lib.hid (fun W (hb : Below w.heap.size w W) => resolve_his L vH vn s W (hm.on hb) (hg.on hb) hk)
 obtain ⟨A, c, rfl⟩ := rd_vf hg.r
 have b1 := Blk.new (w.alloc (.cells #[.slice A L.length c] 28)) #[.int .i64 s.at_, .string s.zn, .int .i64 s.gap, .int .i64 s.fold] 38
 have b0 := (Blk.new w #[.slice A L.length c] 28).alloc (.cells #[.int .i64 s.at_, .string s.zn, .int .i64 s.gap, .int .i64 s.fold] 38)
 have hB2 : Below w.heap.size w ((w.alloc (.cells #[.slice A L.length c] 28)).alloc (.cells #[.int .i64 s.at_, .string s.zn, .int .i64 s.gap, .int .i64 s.fold] 38)) := ((Below.refl _ _).alloc (Nat.le_refl _) _).alloc (by simp) _
 rw [World.size_alloc] at b1
 clear hg hk hm
 unfold encStm at HS HRS
 show Calls Tryz.prog 80 #[.agg #[.slice A L.length c], .string vn, .agg #[.int .i64 s.at_, .string s.zn, .int .i64 s.gap, .int .i64 s.fold]] w _
 have h0 := blk_cl b0 0 _ rfl
 have hl := b0.lt
 have m0 := blk_cl b1 0 _ rfl
 have m1 := blk_cl b1 1 _ rfl
 have m2 := blk_cl b1 2 _ rfl
 have m3 := blk_cl b1 3 _ rfl
 have ml := b1.lt
 cases hv : validH L
 ·rw [show rsvF L vn s = (0, 1) from if_neg (by rw [hv]; simp)]
  rw [hv] at HV
  go_enter Tryz.func80, Tryz.ntmps80
  go_wp2_with (go_at_call 55; refine (HV.out _ hB2).mono ?_; rintro e w1 ⟨rfl, hb1⟩)
  go_ret2
  exact ⟨rfl, hB2.trans (hb1.mono hB2.size)⟩
 rw [hv] at HV
 cases hs : stmB s
 ·rw [show rsvF L vn s = (0, 1) from if_neg (by rw [hs]; simp)]
  rw [hs] at HS
  go_enter Tryz.func80, Tryz.ntmps80
  go_wp2_with fail
  generalize (w.alloc (.cells #[.slice A L.length c] 28)).alloc (.cells #[.int .i64 s.at_, .string s.zn, .int .i64 s.gap, .int .i64 s.fold] 38) = W at *
  refine (HV.out W hB2).mono ?_
  rintro e w1 ⟨rfl, hb1⟩
  clear h0 hl m0 m1 m2 m3 ml
  have c0 := b0.below hb1 b0.lt
  have c1 := b1.below hb1 b1.lt
  have h0 := blk_cl c0 0 _ rfl
  have hl := c0.lt
  have m0 := blk_cl c1 0 _ rfl
  have m1 := blk_cl c1 1 _ rfl
  have m2 := blk_cl c1 2 _ rfl
  have m3 := blk_cl c1 3 _ rfl
  have ml := c1.lt
  go_wp2_with fail
  refine (HS.out w1).mono ?_
  rintro e w2 ⟨rfl, hb2⟩
  have hbw2 : Below w.heap.size w w2 := hB2.trans ((hb1.trans (hb2.mono hb1.size)).mono hB2.size)
  go_wp2
  go_ret2
  exact ⟨rfl, hbw2⟩
 ·rw [show rsvF L vn s = rsv1 L vn s from if_pos ⟨hv, hs⟩]
  rw [hs] at HS
  generalize rsv1 L vn s = q at *
  obtain ⟨q1, q2⟩ := q
  dsimp only at HRS ⊢
  go_enter Tryz.func80, Tryz.ntmps80
  go_wp2_with fail
  generalize (w.alloc (.cells #[.slice A L.length c] 28)).alloc (.cells #[.int .i64 s.at_, .string s.zn, .int .i64 s.gap, .int .i64 s.fold] 38) = W at *
  refine (HV.out W hB2).mono ?_
  rintro e w1 ⟨rfl, hb1⟩
  clear h0 hl m0 m1 m2 m3 ml
  have c0 := b0.below hb1 b0.lt
  have c1 := b1.below hb1 b1.lt
  have h0 := blk_cl c0 0 _ rfl
  have hl := c0.lt
  have m0 := blk_cl c1 0 _ rfl
  have m1 := blk_cl c1 1 _ rfl
  have m2 := blk_cl c1 2 _ rfl
  have m3 := blk_cl c1 3 _ rfl
  have ml := c1.lt
  go_wp2_with fail
  refine (HS.out w1).mono ?_
  rintro e w2 ⟨rfl, hb2⟩
  have hb12 := hb1.trans (hb2.mono hb1.size)
  have hbw2 : Below w.heap.size w w2 := hB2.trans (hb12.mono hB2.size)
  clear h0 hl m0 m1 m2 m3 ml c0 c1
  have c0 := b0.below hb12 b0.lt
  have c1 := b1.below hb12 b1.lt
  have h0 := blk_cl c0 0 _ rfl
  have hl := c0.lt
  have m0 := blk_cl c1 0 _ rfl
  have m1 := blk_cl c1 1 _ rfl
  have m2 := blk_cl c1 2 _ rfl
  have m3 := blk_cl c1 3 _ rfl
  have ml := c1.lt
  go_wp2_with fail
  refine (HRS.out w2 hbw2).mono ?_
  rintro e w3 ⟨rfl, hb3⟩
  go_wp2
  go_ret2
  exact ⟨rfl, hbw2.trans (hb3.mono hbw2.size)⟩
end Go.Proofs.YtdpbhjaicgkblaaGreatDoor
/- Entries as data; value.Valid at texts. -/
namespace Go.Proofs.YtdpbhjaicgkblaaGreatDoor
set_option linter.unusedSimpArgs false
set_option linter.unusedVariables false
open Go.ChangeShapes Go.WideShapes Go.ChangeAt Go.RowKit Go.Sort Go.Lib
structure Ent where
 nm : ByteArray
 st : Stm
 ln : Int
instance : Inhabited Ent := ⟨⟨⟨#[]⟩, default, 0⟩⟩
def encEn (x : Ent) : List Value := [.string x.nm, .int .i64 x.st.at_, .string x.st.zn, .int .i64 x.st.gap, .int .i64 x.st.fold, .int .i64 x.ln]
theorem encEn_len (x : Ent) : (encEn x).length = 6 := rfl
theorem isAggEn (w : World) : (isAgg 40).run Tryz.prog w = .ok true w := by kernel_rfl
theorem sizeOfEn (w : World) : (Go.sizeOf 40).run Tryz.prog w = .ok 6 w := by kernel_rfl
def ctlR (r : Nat) : Bool := decide ((r : Int) < 32) || decide ((126 : Int) < (r : Int))
def ctlB (s : ByteArray) : Bool := decide (0 ≤ Lib.idxFunc ctlR true s)
def txtB (s : ByteArray) : Bool := decide ((s.size : Int) ≤ 30) && !ctlB s
theorem val1_any (w : World) : PredGrows Tryz.prog 60 #[] ctlR w := by
 intro W x hx hb
 show Calls Tryz.prog 60 #[.int .i32 x] W _
 unfold ctlR
 by_cases h1 : (x : Int) < 32
 ·have d1 := decide_eq_true h1
  go_enter Tryz.func60, Tryz.ntmps60
  go_wp2
  go_ret
  exact ⟨ret1 (vbool (by simp [h1])), Below.refl _ _⟩
 ·have d1 := decide_eq_false h1
  go_enter Tryz.func60, Tryz.ntmps60
  go_wp2
  go_ret
  exact ⟨ret1 (vbool (by simp [h1])), Below.refl _ _⟩
set_option maxRecDepth 100000 in
set_option maxHeartbeats 1500000 in
theorem text_valid (s : ByteArray) (w : World) : Calls Tryz.prog 43 #[.agg #[.int .i64 2, .int .i64 0, .string s]] w fun e w' => e = .returned (.bool (txtB s)) ∧ Below w.heap.size w w' := by
 have HC := Lib.hid (fun W => Tryz.strings_ContainsFunc_grows 60 #[] (enters_of Tryz.func60 (by kernel_rfl) rfl) ctlR s W (val1_any W))
 have hB1 : Below w.heap.size w (w.alloc (.cells #[.int .i64 2, .int .i64 0, .string s] 106)) := (Below.refl _ _).alloc (Nat.le_refl _) _
 unfold txtB ctlB
 by_cases h1 : (s.size : Int) ≤ 30
 ·have d1 := decide_eq_true h1
  rw [d1]
  generalize decide (0 ≤ Lib.idxFunc ctlR true s) = c at *
  go_enter Tryz.func43, Tryz.ntmps43
  go_wp2_with (go_at_call 59; refine (HC.out _).mono ?_; rintro e w1 ⟨rfl, hb⟩)
  go_ret
  exact ⟨ret1 (vbool (by simp)), hB1.trans (hb.mono hB1.size)⟩
 ·have d1 := decide_eq_false h1
  rw [d1]
  clear HC
  go_enter Tryz.func43, Tryz.ntmps43
  go_wp2
  go_ret
  exact ⟨ret1 (vbool (by simp)), hB1⟩
theorem enm_any (x : Ent) (w : World) : Calls Tryz.prog 44 #[.agg #[.string x.nm, .int .i64 x.st.at_, .string x.st.zn, .int .i64 x.st.gap, .int .i64 x.st.fold, .int .i64 x.ln]] w fun e w' => e = .returned (.agg #[.int .i64 2, .int .i64 0, .string x.nm]) ∧ Below w.heap.size w w' := by
 have b0 := (Blk.new w #[.string x.nm, .int .i64 x.st.at_, .string x.st.zn, .int .i64 x.st.gap, .int .i64 x.st.fold, .int .i64 x.ln] 40).alloc (.cells #[.int .i64 0, .int .i64 0, .string ⟨#[]⟩] 106)
 have v0 := blk_cl b0 0 _ rfl
 have vl := b0.lt
 go_enter Tryz.func44, Tryz.ntmps44
 go_wp2
 exact bodyPost_ret (v := .agg #[.int .i64 2, .int .i64 0, .string x.nm]) (by simp [results, Tryz.results44, go_sem]) rfl ⟨rfl, ((Below.refl _ _).alloc (Nat.le_refl _) _).alloc (by simp) _⟩
def badE (x : Ent) : Bool := emptyB x.nm || (!txtB x.nm || (!stmB x.st || (decide (x.ln < 1) || decide (31622400 < x.ln))))
set_option maxRecDepth 100000 in
set_option maxHeartbeats 1500000 in
theorem mval1_any (w : World) : PredBelow Tryz.prog 42 #[] (fun x : Ent => .agg (encEn x).toArray) badE w := by
 intro W x hb
 have HN := Lib.hid (fun W => enm_any x W)
 have HT := Lib.hid (fun W => text_valid x.nm W)
 have HS := Lib.hid (fun W => stm_valid x.st W)
 have b0 := Blk.new W #[.string x.nm, .int .i64 x.st.at_, .string x.st.zn, .int .i64 x.st.gap, .int .i64 x.st.fold, .int .i64 x.ln] 40
 have hB0 : Below w.heap.size w (W.alloc (.cells #[.string x.nm, .int .i64 x.st.at_, .string x.st.zn, .int .i64 x.st.gap, .int .i64 x.st.fold, .int .i64 x.ln] 40)) := hb.alloc hb.size _
 unfold encStm at HS
 show Calls Tryz.prog 42 #[.agg #[.string x.nm, .int .i64 x.st.at_, .string x.st.zn, .int .i64 x.st.gap, .int .i64 x.st.fold, .int .i64 x.ln]] W _
 unfold badE
 cases he : emptyB x.nm
 case true =>
  unfold emptyB at he
  have v0 := blk_cl b0 0 _ rfl
  have vl := b0.lt
  go_enter Tryz.func42, Tryz.ntmps42
  go_wp2
  go_ret
  exact ⟨rfl, hB0⟩
 unfold emptyB at he
 rw [Bool.false_or]
 generalize txtB x.nm = t1 at *
 generalize stmB x.st = t2 at *
 have v0 := blk_cl b0 0 _ rfl
 have v1 := blk_cl b0 1 _ rfl
 have v2 := blk_cl b0 2 _ rfl
 have v3 := blk_cl b0 3 _ rfl
 have v4 := blk_cl b0 4 _ rfl
 have v5 := blk_cl b0 5 _ rfl
 have vl := b0.lt
 go_enter Tryz.func42, Tryz.ntmps42
 go_wp2_with fail
 generalize W.alloc (.cells #[.string x.nm, .int .i64 x.st.at_, .string x.st.zn, .int .i64 x.st.gap, .int .i64 x.st.fold, .int .i64 x.ln] 40) = W0 at *
 refine (HN.out W0).mono ?_
 rintro e w1 ⟨rfl, hb1⟩
 have hB1 := hB0.trans (hb1.mono hB0.size)
 have b1 := b0.below hb1 b0.lt
 clear v0 v1 v2 v3 v4 v5 vl
 go_wp2_with fail
 refine (HT.out w1).mono ?_
 rintro e w2 ⟨rfl, hb2⟩
 have hB2 := hB1.trans (hb2.mono hB1.size)
 have b2 := b1.below hb2 b1.lt
 cases t1
 ·go_wp2
  go_ret
  exact ⟨rfl, hB2⟩
 have v1 := blk_cl b2 1 _ rfl
 have v2 := blk_cl b2 2 _ rfl
 have v3 := blk_cl b2 3 _ rfl
 have v4 := blk_cl b2 4 _ rfl
 have vl := b2.lt
 go_wp2_with fail
 refine (HS.out w2).mono ?_
 rintro e w3 ⟨rfl, hb3⟩
 have hB3 := hB2.trans (hb3.mono hB2.size)
 have b3 := b2.below hb3 b2.lt
 clear v1 v2 v3 v4 vl
 cases t2
 ·go_wp2
  go_ret
  exact ⟨rfl, hB3⟩
 have v5 := blk_cl b3 5 _ rfl
 have vl := b3.lt
 by_cases h1 : x.ln < 1
 ·have d1 := decide_eq_true h1
  go_wp2
  go_ret
  exact ⟨ret1 (vbool (by simp [h1])), hB3⟩
 ·have d1 := decide_eq_false h1
  go_wp2
  go_ret
  exact ⟨ret1 (vbool (by first | (simp; omega) | simp [d1])), hB3⟩
theorem none_ifE (A : Option Addr) (c : Nat) (g : Value) (w : World) : Calls Tryz.prog 36 #[.slice A 0 c, g] w fun e w' => e = .returned (.int .i64 (-1)) ∧ w = w' := by
 go_enter Tryz.func36, Tryz.ntmps36
 go_wp2
 go_loop [8] (fun i => i = .int .i64 0) (fun _ => 0)
 case atStart => rfl
 case round =>
  obtain rfl := hrel
  go_wp2
  go_ret
  exact ⟨rfl, rfl⟩
theorem none_cfE (A : Option Addr) (c : Nat) (g : Value) (w : World) : Calls Tryz.prog 12 #[.slice A 0 c, g] w fun e w' => e = .returned (.bool false) ∧ w = w' := by
 go_enter Tryz.func12, Tryz.ntmps12
 go_wp2_with (go_at_call 36; refine (none_ifE _ _ _ _).mono ?_; rintro e w' ⟨rfl, rfl⟩)
 go_ret
 exact ⟨rfl, rfl⟩
theorem cfE_any (q : Ent → Bool) (g : Nat) (lb : Array Value) (eg : ∀ args w, (callFunc g args).run Tryz.prog w = .ok (.enter g args) w) (v : Value) (l : List Ent) (w : World) (hp : PredBelow Tryz.prog g lb (fun x => .agg (encEn x).toArray) q w) (hl : l.length ≤ 1000000) (hR : Rd encEn 6 w v l) :
  Calls Tryz.prog 12 #[v, .func (.func g) #[] lb] w fun e w' => e = .returned (.bool (l.any q)) ∧ Below w.heap.size w w' := by
 rcases hR with ⟨rfl, A, c, rfl⟩ | ⟨b, off, c, rfl, hb, hc⟩
 ·exact (none_cfE A c _ w).mono fun e w' ⟨h1, h2⟩ => ⟨h1, h2 ▸ Below.refl _ _⟩
 ·have := Tryz.slices_ContainsFunc_f12 6 isAggEn sizeOfEn encEn encEn_len q g lb eg b off l.length c l w hp (Nat.le_refl _) (by omega) hb (fun j hj i v hv => hc j hj i v hv)
  rw [List.take_length] at this
  exact this
def okEs (E : List Ent) : Bool := decide (E.length ≤ 1000) && !E.any badE
theorem mvalid_any (E : List Ent) (v : Value) (w : World) (hl : E.length ≤ 1000000) (hR : Rd encEn 6 w v E) : Calls Tryz.prog 24 #[v] w fun e w' => e = .returned (.bool (okEs E)) ∧ Below w.heap.size w w' := by
 have HC := Lib.hid (cfE_any badE 42 _ (enters_of Tryz.func42 (by kernel_rfl) rfl) v E w (mval1_any w) hl hR)
 obtain ⟨A, c, rfl⟩ := rd_vf hR
 clear hR
 unfold okEs
 by_cases hs : E.length ≤ 1000
 ·have ds : decide ((E.length : Int) ≤ 1000) = true := decide_eq_true (by omega)
  rw [decide_eq_true hs]
  generalize E.any badE = t at *
  go_enter Tryz.func24, Tryz.ntmps24
  go_wp2_with (go_at_call 12; refine HC.out.mono ?_; rintro e w1 ⟨rfl, hb⟩)
  go_ret
  exact ⟨ret1 (vbool (by simp)), hb⟩
 ·have ds : decide ((E.length : Int) ≤ 1000) = false := decide_eq_false (by omega)
  rw [decide_eq_false hs]
  go_enter Tryz.func24, Tryz.ntmps24
  go_wp2
  go_ret
  exact ⟨rfl, Below.refl _ _⟩
end Go.Proofs.YtdpbhjaicgkblaaGreatDoor

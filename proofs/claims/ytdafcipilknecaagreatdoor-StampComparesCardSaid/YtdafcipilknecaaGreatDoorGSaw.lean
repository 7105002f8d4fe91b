/- Joined by merge.py: FxT, AwS. -/
import Derived.Test.YtdafcipilknecaaGreatDoorGHis
import Derived.Laws.BytesArg
import Derived.Test.YtdafcipilknecaaGreatDoorGSt1
import Derived.Test.YtdafcipilknecaaGreatDoorGStm
/- zone.Fixed("Town", 3600). -/
namespace Go.Proofs.YtdafcipilknecaaGreatDoor
set_option linter.unusedSimpArgs false
set_option linter.unusedVariables false
open Go.ChangeShapes Go.WideShapes Go.ChangeAt Go.RowKit
set_option maxRecDepth 100000 in
theorem fxt1_0 (w : World) : Calls Tryz.prog 60 #[.int .i64 0] w fun e w' => e = .returned (.string ⟨#[48, 48]⟩) ∧ Below w.heap.size w w' := by
 have hcv : (convert 107 9 (.slice (some ⟨w.heap.size, 0, none⟩) 2 2)).run Tryz.prog (w.alloc (.cells #[.int .u8 48, .int .u8 48] 5)) = .ok (.string ⟨#[48, 48]⟩) (w.alloc (.cells #[.int .u8 48, .int .u8 48] 5)) :=
  run_convert_bytes_arg _ _ 5 Tryz.underlying107 Tryz.underlying5 w.heap.size 0 2 2 [48, 48] rfl (fun i hi => by
   have hc := alloc_cells w [.int .u8 48, .int .u8 48] 5
   rcases Nat.lt_or_ge i 1 with h | h
   ·obtain rfl : i = 0 := by omega
    exact hc 0 _ rfl
   ·obtain rfl : i = 1 := by omega
    exact hc 1 _ rfl) _ Tryz.underlying9
 have hB : Below w.heap.size w (w.alloc (.cells #[.int .u8 48, .int .u8 48] 5)) := (Below.refl _ _).alloc (Nat.le_refl _) _
 go_enter Tryz.func60, Tryz.ntmps60
 go_wp2
 go_ret
 exact ⟨rfl, hB⟩
set_option maxRecDepth 100000 in
theorem fxt1_1 (w : World) : Calls Tryz.prog 60 #[.int .i64 1] w fun e w' => e = .returned (.string ⟨#[48, 49]⟩) ∧ Below w.heap.size w w' := by
 have hcv : (convert 107 9 (.slice (some ⟨w.heap.size, 0, none⟩) 2 2)).run Tryz.prog (w.alloc (.cells #[.int .u8 48, .int .u8 49] 5)) = .ok (.string ⟨#[48, 49]⟩) (w.alloc (.cells #[.int .u8 48, .int .u8 49] 5)) :=
  run_convert_bytes_arg _ _ 5 Tryz.underlying107 Tryz.underlying5 w.heap.size 0 2 2 [48, 49] rfl (fun i hi => by
   have hc := alloc_cells w [.int .u8 48, .int .u8 49] 5
   rcases Nat.lt_or_ge i 1 with h | h
   ·obtain rfl : i = 0 := by omega
    exact hc 0 _ rfl
   ·obtain rfl : i = 1 := by omega
    exact hc 1 _ rfl) _ Tryz.underlying9
 have hB : Below w.heap.size w (w.alloc (.cells #[.int .u8 48, .int .u8 49] 5)) := (Below.refl _ _).alloc (Nat.le_refl _) _
 go_enter Tryz.func60, Tryz.ntmps60
 go_wp2
 go_ret
 exact ⟨rfl, hB⟩
set_option maxRecDepth 100000 in
set_option maxHeartbeats 2000000 in
theorem fixedT (w : World) : Calls Tryz.prog 20 #[.string ⟨#[84, 111, 119, 110]⟩, .int .i64 3600] w fun e w' => e = .returned (.tuple #[.agg #[.string ⟨#[84, 111, 119, 110]⟩, .int .i64 3600, .int .i64 0, .string ⟨#[43, 48, 49, 48, 48]⟩, .slice none 0 0, .slice none 0 0, .int .i64 0, .string ⟨#[]⟩, .int .i64 0], .int .i64 0]) ∧ Below w.heap.size w w' := by
 have HN := Lib.hid (fun W => show Calls Tryz.prog 59 #[.string ⟨#[84, 111, 119, 110]⟩] W fun e w' => e = .returned (.bool true) ∧ W = w' from by
  have h := zoneName ⟨#[84, 111, 119, 110]⟩ W
  rwa [show Cv.nameZ ⟨#[84, 111, 119, 110]⟩ = true by decide +kernel] at h)
 have H0 := Lib.hid (fun W => fxt1_0 W)
 have H1 := Lib.hid (fun W => fxt1_1 W)
 go_enter Tryz.func20, Tryz.ntmps20
 have bz := Blk.new w #[.string ⟨#[]⟩, .int .i64 0, .int .i64 0, .string ⟨#[]⟩, .slice none 0 0, .slice none 0 0, .int .i64 0, .string ⟨#[]⟩, .int .i64 0] 48
 have hB : Below w.heap.size w (w.alloc (.cells #[.string ⟨#[]⟩, .int .i64 0, .int .i64 0, .string ⟨#[]⟩, .slice none 0 0, .slice none 0 0, .int .i64 0, .string ⟨#[]⟩, .int .i64 0] 48)) := (Below.refl _ _).alloc (Nat.le_refl _) _
 go_wp2_with (first
  | (go_at_call 59; refine (HN.out _).mono ?_; rintro e w1 ⟨rfl, rfl⟩; clear HN)
  | (go_at_call 60; refine (H1.out _).mono ?_; rintro e w1 ⟨rfl, hb1⟩; clear H1)
  | (go_at_call 60; refine (H0.out _).mono ?_; rintro e w2 ⟨rfl, hb2⟩; have b2 := (bz.below hb1 bz.lt).below hb2 (Nat.lt_of_lt_of_le bz.lt hb1.size); have hB2 := hB.trans ((hb1.trans (hb2.mono hb1.size)).mono hB.size); have l2 := b2.lt; have r0 := blk_cl b2 0 _ rfl; have r1 := blk_cl b2 1 _ rfl; have r2 := blk_cl b2 2 _ rfl; have r3 := blk_cl b2 3 _ rfl; have r4 := blk_cl b2 4 _ rfl; have r5 := blk_cl b2 5 _ rfl; have r6 := blk_cl b2 6 _ rfl; have r7 := blk_cl b2 7 _ rfl; have r8 := blk_cl b2 8 _ rfl; have rf := fun i => Blk.frozen b2 i; clear H0))
 have q := ((((((((b2.setAt 0 (.string ⟨#[84, 111, 119, 110]⟩)).setAt 1 (.int .i64 3600)).setAt 2 (.int .i64 0)).setAt 3 (.string (⟨#[43]⟩ ++ (⟨#[48, 49]⟩ ++ ⟨#[48, 48]⟩)))).setAt 4 (.slice none 0 0)).setAt 5 (.slice none 0 0)).setAt 6 (.int .i64 0)).setAt 7 (.string ⟨#[]⟩)).setAt 8 (.int .i64 0)
 have q0 := q.cell 0 (v := .string ⟨#[84, 111, 119, 110]⟩) rfl
 have q1 := q.cell 1 (v := .int .i64 3600) rfl
 have q2 := q.cell 2 (v := .int .i64 0) rfl
 have q3 := q.cell 3 (v := .string (⟨#[43]⟩ ++ (⟨#[48, 49]⟩ ++ ⟨#[48, 48]⟩))) rfl
 have q4 := q.cell 4 (v := .slice none 0 0) rfl
 have q5 := q.cell 5 (v := .slice none 0 0) rfl
 have q6 := q.cell 6 (v := .int .i64 0) rfl
 have q7 := q.cell 7 (v := .string ⟨#[]⟩) rfl
 have q8 := q.cell 8 (v := .int .i64 0) rfl
 have hBq := ((((((((hB2.setCell (p := ⟨w.heap.size, 0, none⟩) (Nat.le_refl _) (.string ⟨#[84, 111, 119, 110]⟩)).setCell (p := ⟨w.heap.size, 1, none⟩) (Nat.le_refl _) (.int .i64 3600)).setCell (p := ⟨w.heap.size, 2, none⟩) (Nat.le_refl _) (.int .i64 0)).setCell (p := ⟨w.heap.size, 3, none⟩) (Nat.le_refl _) (.string (⟨#[43]⟩ ++ (⟨#[48, 49]⟩ ++ ⟨#[48, 48]⟩)))).setCell (p := ⟨w.heap.size, 4, none⟩) (Nat.le_refl _) (.slice none 0 0)).setCell (p := ⟨w.heap.size, 5, none⟩) (Nat.le_refl _) (.slice none 0 0)).setCell (p := ⟨w.heap.size, 6, none⟩) (Nat.le_refl _) (.int .i64 0)).setCell (p := ⟨w.heap.size, 7, none⟩) (Nat.le_refl _) (.string ⟨#[]⟩)).setCell (p := ⟨w.heap.size, 8, none⟩) (Nat.le_refl _) (.int .i64 0)
 have hst : (⟨#[43]⟩ ++ (⟨#[48, 49]⟩ ++ ⟨#[48, 48]⟩) : ByteArray) = ⟨#[43, 48, 49, 48, 48]⟩ := by decide +kernel
 clear q b2 r0 r1 r2 r3 r4 r5 r6 r7 r8 rf
 generalize (((((((((w2.setCell ⟨w.heap.size, 0, none⟩ (.string ⟨#[84, 111, 119, 110]⟩)).setCell ⟨w.heap.size, 1, none⟩ (.int .i64 3600)).setCell ⟨w.heap.size, 2, none⟩ (.int .i64 0)).setCell ⟨w.heap.size, 3, none⟩ (.string (⟨#[43]⟩ ++ (⟨#[48, 49]⟩ ++ ⟨#[48, 48]⟩)))).setCell ⟨w.heap.size, 4, none⟩ (.slice none 0 0)).setCell ⟨w.heap.size, 5, none⟩ (.slice none 0 0)).setCell ⟨w.heap.size, 6, none⟩ (.int .i64 0)).setCell ⟨w.heap.size, 7, none⟩ (.string ⟨#[]⟩)).setCell ⟨w.heap.size, 8, none⟩ (.int .i64 0)) = w9 at *
 rw [hst] at q3
 exact bodyPost_ret (v := .tuple #[.agg #[.string ⟨#[84, 111, 119, 110]⟩, .int .i64 3600, .int .i64 0, .string ⟨#[43, 48, 49, 48, 48]⟩, .slice none 0 0, .slice none 0 0, .int .i64 0, .string ⟨#[]⟩, .int .i64 0], .int .i64 0]) (by simp [results, Tryz.results20, go_sem, q0, q1, q2, q3, q4, q5, q6, q7, q8]) rfl ⟨rfl, hBq⟩
end Go.Proofs.YtdafcipilknecaaGreatDoor
/- civiltimelaw25.awake. -/
namespace Go.Proofs.YtdafcipilknecaaGreatDoor
set_option linter.unusedSimpArgs false
set_option linter.unusedVariables false
open Go.ChangeShapes Go.WideShapes Go.ChangeAt Go.RowKit Go.Sort Go.Lib
theorem rd_blkS {α : Type} [Inhabited α] {enc : α → List Value} {k : Nat} (hk : ∀ x, (enc x).length = k) {w : World} {B : Nat} {cs : Array Value} {T : TypeId} (hb : Blk w B cs T) (l : List α) (n c : Nat) (hn : n = l.length) (hcs : cs = (l.flatMap enc).toArray) : Rd enc k w (.slice (some ⟨B, 0, none⟩) n c) l := by
 subst hn hcs
 refine .inr ⟨B, 0, c, rfl, hb.lt, fun j hj i u hu => ?_⟩
 have hi : i < k := by
  have := (List.getElem?_eq_some_iff.1 hu).1
  rwa [hk] at this
 have := flat_get (enc := enc) (k := k) hk l j i hj hi
 rw [Nat.zero_add]
 refine hb.cell _ ?_
 rw [List.getElem?_toArray, this, ← hu, List.getElem?_eq_getElem (by rw [hk]; exact hi), getElem!_pos _ i (by rw [hk]; exact hi)]
def fxT : Zn := ⟨⟨#[84, 111, 119, 110]⟩, ⟨3600, 0, ⟨#[43, 48, 49, 48, 48]⟩⟩, [], [], 0, ⟨#[]⟩, 0⟩
def fxV : ZV := ⟨fxT, .slice none 0 0, .slice none 0 0, ⟨_, _, rfl⟩, ⟨_, _, rfl⟩⟩
def fxL (n : Nat) : List VV := [⟨⟨#[118, 49]⟩, [fxV], [], .slice (some ⟨n, 0, none⟩) 1 1, .slice none 0 0, ⟨_, _, rfl⟩, ⟨_, _, rfl⟩⟩]
theorem fx_rsv (n : Nat) : rsvF (fxL n) ⟨#[118, 49]⟩ ⟨7200, ⟨#[84, 111, 119, 110]⟩, 2, 2⟩ = (3600, 0) := by kernel_rfl
theorem fx_ok (n : Nat) : OkH (fxL n) := by
 refine ⟨by show 1 ≤ 1000; omega, fun x hx => ?_⟩
 simp only [fxL, List.mem_cons, List.not_mem_nil, or_false] at hx
 subst hx
 exact ⟨by show 1 ≤ 1000; omega, by show 0 ≤ 1000; omega, fun y hy => by rw [List.mem_singleton] at hy; subst hy; exact ⟨by show 0 ≤ 12; omega, by show 0 ≤ 300; omega, by show 0 < 4294967281; omega⟩⟩
theorem sinst_any (t : Int) (w : World) : Calls Tryz.prog 22 #[.int .i64 t] w fun e w' => e = .returned (.agg #[.int .i64 t, .string ⟨#[]⟩, .int .i64 0, .int .i64 0]) ∧ Below w.heap.size w w' := by
 go_enter Tryz.func22, Tryz.ntmps22
 go_wp2
 have bt := Blk.new w #[.int .i64 t, .string ⟨#[]⟩, .int .i64 0, .int .i64 0] 28
 have s0 := blk_cl bt 0 _ rfl
 have s1 := blk_cl bt 1 _ rfl
 have s2 := blk_cl bt 2 _ rfl
 have s3 := blk_cl bt 3 _ rfl
 exact bodyPost_ret (v := .agg #[.int .i64 t, .string ⟨#[]⟩, .int .i64 0, .int .i64 0]) (by simp [results, Tryz.results22, go_sem, s0, s1, s2, s3]) rfl ⟨rfl, (Below.refl _ _).alloc (Nat.le_refl _) _⟩
set_option maxRecDepth 100000 in
set_option maxHeartbeats 2000000 in
theorem awake25_any (w : World) (hm : HasMax w) : Calls Tryz.prog 6 #[] w fun e w' => e = .returned (.bool true) ∧ Below w.heap.size w w' := by
 have HZ := Lib.hid (fun W => fixedT W)
 have HR := Lib.hid (fun n v W (hb : Below w.heap.size w W) (hg : GoodH W v (fxL n)) => show Calls Tryz.prog 12 #[.agg #[v], .string ⟨#[118, 49]⟩, .agg #[.int .i64 7200, .string ⟨#[84, 111, 119, 110]⟩, .int .i64 2, .int .i64 2]] W fun e w' => e = .returned (.tuple #[.int .i64 3600, .int .i64 0]) ∧ Below W.heap.size W w' from by
  have h := Resolve_his (fxL n) v ⟨#[118, 49]⟩ ⟨7200, ⟨#[84, 111, 119, 110]⟩, 2, 2⟩ W (hm.on hb) hg (fx_ok n)
  rwa [fx_rsv] at h)
 have HI := Lib.hid (fun W => sinst_any 3600 W)
 have HT := Lib.hid (fun W => stext_36 W)
 clear hm
 go_enter Tryz.func6, Tryz.ntmps6
 go_wp2_with fail
 refine (HZ.out w).mono ?_
 rintro e w1 ⟨rfl, hb1⟩
 have b0 := Blk.new w1 #[.string ⟨#[84, 111, 119, 110]⟩, .int .i64 3600, .int .i64 0, .string ⟨#[43, 48, 49, 48, 48]⟩, .slice none 0 0, .slice none 0 0, .int .i64 0, .string ⟨#[]⟩, .int .i64 0] 48
 have hB1 : Below w.heap.size w (w1.alloc (.cells #[.string ⟨#[84, 111, 119, 110]⟩, .int .i64 3600, .int .i64 0, .string ⟨#[43, 48, 49, 48, 48]⟩, .slice none 0 0, .slice none 0 0, .int .i64 0, .string ⟨#[]⟩, .int .i64 0] 48)) := hb1.alloc hb1.size _
 have z0 := blk_cl b0 0 _ rfl
 have z1 := blk_cl b0 1 _ rfl
 have z2 := blk_cl b0 2 _ rfl
 have z3 := blk_cl b0 3 _ rfl
 have z4 := blk_cl b0 4 _ rfl
 have z5 := blk_cl b0 5 _ rfl
 have z6 := blk_cl b0 6 _ rfl
 have z7 := blk_cl b0 7 _ rfl
 have z8 := blk_cl b0 8 _ rfl
 have zl := b0.lt
 go_wp2_with fail
 have q1 := ((Blk.new (w1.alloc (.cells #[.string ⟨#[84, 111, 119, 110]⟩, .int .i64 3600, .int .i64 0, .string ⟨#[43, 48, 49, 48, 48]⟩, .slice none 0 0, .slice none 0 0, .int .i64 0, .string ⟨#[]⟩, .int .i64 0] 48)) #[.string ⟨#[84, 111, 119, 110]⟩, .int .i64 3600, .int .i64 0, .string ⟨#[43, 48, 49, 48, 48]⟩, .slice none 0 0, .slice none 0 0, .int .i64 0, .string ⟨#[]⟩, .int .i64 0] 48).alloc (.cells #[.string ⟨#[118, 49]⟩, .slice (some ⟨w1.heap.size + 1, 0, none⟩) 1 1, .slice none 0 0] 67)).alloc (.cells #[.slice (some ⟨w1.heap.size + 1 + 1, 0, none⟩) 1 1] 24)
 have q2 := (Blk.new ((w1.alloc (.cells #[.string ⟨#[84, 111, 119, 110]⟩, .int .i64 3600, .int .i64 0, .string ⟨#[43, 48, 49, 48, 48]⟩, .slice none 0 0, .slice none 0 0, .int .i64 0, .string ⟨#[]⟩, .int .i64 0] 48)).alloc (.cells #[.string ⟨#[84, 111, 119, 110]⟩, .int .i64 3600, .int .i64 0, .string ⟨#[43, 48, 49, 48, 48]⟩, .slice none 0 0, .slice none 0 0, .int .i64 0, .string ⟨#[]⟩, .int .i64 0] 48)) #[.string ⟨#[118, 49]⟩, .slice (some ⟨w1.heap.size + 1, 0, none⟩) 1 1, .slice none 0 0] 67).alloc (.cells #[.slice (some ⟨w1.heap.size + 1 + 1, 0, none⟩) 1 1] 24)
 simp only [World.size_alloc] at q1 q2
 have hB4 : Below w.heap.size w ((((w1.alloc (.cells #[.string ⟨#[84, 111, 119, 110]⟩, .int .i64 3600, .int .i64 0, .string ⟨#[43, 48, 49, 48, 48]⟩, .slice none 0 0, .slice none 0 0, .int .i64 0, .string ⟨#[]⟩, .int .i64 0] 48)).alloc (.cells #[.string ⟨#[84, 111, 119, 110]⟩, .int .i64 3600, .int .i64 0, .string ⟨#[43, 48, 49, 48, 48]⟩, .slice none 0 0, .slice none 0 0, .int .i64 0, .string ⟨#[]⟩, .int .i64 0] 48)).alloc (.cells #[.string ⟨#[118, 49]⟩, .slice (some ⟨w1.heap.size + 1, 0, none⟩) 1 1, .slice none 0 0] 67)).alloc (.cells #[.slice (some ⟨w1.heap.size + 1 + 1, 0, none⟩) 1 1] 24)) := ((hB1.alloc hB1.size _).alloc (hB1.alloc hB1.size _).size _).alloc ((hB1.alloc hB1.size _).alloc (hB1.alloc hB1.size _).size _).size _
 have hG : GoodH ((((w1.alloc (.cells #[.string ⟨#[84, 111, 119, 110]⟩, .int .i64 3600, .int .i64 0, .string ⟨#[43, 48, 49, 48, 48]⟩, .slice none 0 0, .slice none 0 0, .int .i64 0, .string ⟨#[]⟩, .int .i64 0] 48)).alloc (.cells #[.string ⟨#[84, 111, 119, 110]⟩, .int .i64 3600, .int .i64 0, .string ⟨#[43, 48, 49, 48, 48]⟩, .slice none 0 0, .slice none 0 0, .int .i64 0, .string ⟨#[]⟩, .int .i64 0] 48)).alloc (.cells #[.string ⟨#[118, 49]⟩, .slice (some ⟨w1.heap.size + 1, 0, none⟩) 1 1, .slice none 0 0] 67)).alloc (.cells #[.slice (some ⟨w1.heap.size + 1 + 1, 0, none⟩) 1 1] 24)) (.slice (some ⟨w1.heap.size + 1 + 1, 0, none⟩) 1 1) (fxL (w1.heap.size + 1)) := by
  refine ⟨rd_blkS encVV_len q2 (fxL (w1.heap.size + 1)) 1 1 rfl rfl, fun x hx => ?_⟩
  simp only [fxL, List.mem_cons, List.not_mem_nil, or_false] at hx
  subst hx
  exact ⟨rd_blkS encZ_len q1 [fxV] 1 1 rfl rfl, fun y hy => by rw [List.mem_singleton] at hy; subst hy; exact ⟨.inl ⟨rfl, none, 0, rfl⟩, .inl ⟨rfl, none, 0, rfl⟩⟩, .inl ⟨rfl, none, 0, rfl⟩⟩
 generalize (((w1.alloc (.cells #[.string ⟨#[84, 111, 119, 110]⟩, .int .i64 3600, .int .i64 0, .string ⟨#[43, 48, 49, 48, 48]⟩, .slice none 0 0, .slice none 0 0, .int .i64 0, .string ⟨#[]⟩, .int .i64 0] 48)).alloc (.cells #[.string ⟨#[84, 111, 119, 110]⟩, .int .i64 3600, .int .i64 0, .string ⟨#[43, 48, 49, 48, 48]⟩, .slice none 0 0, .slice none 0 0, .int .i64 0, .string ⟨#[]⟩, .int .i64 0] 48)).alloc (.cells #[.string ⟨#[118, 49]⟩, .slice (some ⟨w1.heap.size + 1, 0, none⟩) 1 1, .slice none 0 0] 67)).alloc (.cells #[.slice (some ⟨w1.heap.size + 1 + 1, 0, none⟩) 1 1] 24) = w4 at *
 clear q1 q2 b0 z0 z1 z2 z3 z4 z5 z6 z7 z8 zl hB1 hb1 HZ
 refine (HR.out _ _ w4 hB4 hG).mono ?_
 rintro e w5 ⟨rfl, hb5⟩
 have hB5 := hB4.trans (hb5.mono hB4.size)
 clear hG hB4 hb5 HR
 go_wp2_with fail
 refine (HI.out _).mono ?_
 rintro e w6 ⟨rfl, hb6⟩
 have hB6 := hB5.trans (hb6.mono hB5.size)
 go_wp2_with fail
 refine (HT.out _).mono ?_
 rintro e w7 ⟨rfl, hb7⟩
 have hB7 := hB6.trans (hb7.mono hB6.size)
 go_wp2
 go_ret
 exact ⟨rfl, hB7⟩
end Go.Proofs.YtdafcipilknecaaGreatDoor

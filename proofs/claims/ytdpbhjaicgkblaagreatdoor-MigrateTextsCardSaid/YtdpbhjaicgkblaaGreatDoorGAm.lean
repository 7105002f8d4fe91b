/- Joined by merge.py: Town, EqM, AwakeM. -/
import Derived.Test.YtdpbhjaicgkblaaGreatDoorGMig
import Derived.Laws.StructEq
/- civiltimelaw53.town. -/
namespace Go.Proofs.YtdpbhjaicgkblaaGreatDoor
set_option linter.unusedSimpArgs false
set_option linter.unusedVariables false
open Go.ChangeShapes Go.WideShapes Go.ChangeAt Go.RowKit Go.Sort Go.Lib
def twZ (t : Int) : Zn := ⟨⟨#[84, 111, 119, 110]⟩, ⟨3600, 0, ⟨#[65]⟩⟩, [⟨t, ⟨7200, 3600, ⟨#[66]⟩⟩⟩], [], 0, ⟨#[]⟩, 0⟩
def twV (t : Int) (c : Nat) : ZV := ⟨twZ t, .slice (some ⟨c, 0, none⟩) 1 1, .slice none 0 0, ⟨_, _, rfl⟩, ⟨_, _, rfl⟩⟩
def townL (n : Nat) : List VV := [⟨⟨#[118, 49]⟩, [twV 1000000 (n + 3)], [], .slice (some ⟨n + 4, 0, none⟩) 1 1, .slice none 0 0, ⟨_, _, rfl⟩, ⟨_, _, rfl⟩⟩, ⟨⟨#[118, 50]⟩, [twV 1007200 (n + 5)], [], .slice (some ⟨n + 6, 0, none⟩) 1 1, .slice none 0 0, ⟨_, _, rfl⟩, ⟨_, _, rfl⟩⟩]
theorem rd_blk {α : Type} [Inhabited α] {enc : α → List Value} {k : Nat} (hk : ∀ x, (enc x).length = k) {w : World} {B : Nat} {cs : Array Value} {T : TypeId} (hb : Blk w B cs T) (l : List α) (n c : Nat) (hn : n = l.length) (hcs : cs = (l.flatMap enc).toArray) : Rd enc k w (.slice (some ⟨B, 0, none⟩) n c) l := by
 subst hn hcs
 refine .inr ⟨B, 0, c, rfl, hb.lt, fun j hj i u hu => ?_⟩
 have hi : i < k := by
  have := (List.getElem?_eq_some_iff.1 hu).1
  rwa [hk] at this
 have := flat_get (enc := enc) (k := k) hk l j i hj hi
 rw [Nat.zero_add]
 refine hb.cell _ ?_
 rw [List.getElem?_toArray, this, ← hu, List.getElem?_eq_getElem (by rw [hk]; exact hi), getElem!_pos _ i (by rw [hk]; exact hi)]
theorem town1_any (t : Int) (B1 B2 : Nat) (w : World) (h1 : Blk w B1 #[.int .i64 3600, .int .i64 0, .string ⟨#[65]⟩] 61) (h2 : Blk w B2 #[.int .i64 7200, .int .i64 3600, .string ⟨#[66]⟩] 61) :
  Calls Tryz.prog 35 #[.int .i64 t, .pointer (some ⟨B1, 0, none⟩), .pointer (some ⟨B2, 0, none⟩)] w fun e w' => e = .returned (.slice (some ⟨w.heap.size + 1, 0, none⟩) 1 1) ∧ w' = (w.alloc (.cells #[.int .i64 t, .int .i64 7200, .int .i64 3600, .string ⟨#[66]⟩] 68)).alloc (.cells #[.string ⟨#[84, 111, 119, 110]⟩, .int .i64 3600, .int .i64 0, .string ⟨#[65]⟩, .slice (some ⟨w.heap.size, 0, none⟩) 1 1, .slice none 0 0, .int .i64 0, .string ⟨#[]⟩, .int .i64 0] 65) := by
 have a0 := blk_cl h1 0 _ rfl
 have a1 := blk_cl h1 1 _ rfl
 have a2 := blk_cl h1 2 _ rfl
 have al := h1.lt
 have c0 := blk_cl h2 0 _ rfl
 have c1 := blk_cl h2 1 _ rfl
 have c2 := blk_cl h2 2 _ rfl
 have cl := h2.lt
 go_enter Tryz.func35, Tryz.ntmps35
 go_wp2
 go_ret
 exact ⟨rfl, rfl⟩
theorem bel_al3 {n : Nat} {a b : World} (h : Below n a b) (o : Obj) (hn : n ≤ b.heap.size := by first | (simp; omega) | (simp; done)) : Below n a (b.alloc o) := h.alloc hn o
def TownEnd (w : World) (e : Ending) (w' : World) : Prop := ∃ n vH, e = .returned (.agg #[vH]) ∧ GoodH w' vH (townL n) ∧ Below w.heap.size w w'
set_option maxRecDepth 100000 in
set_option maxHeartbeats 1500000 in
theorem town_any (w : World) : Calls Tryz.prog 9 #[] w (TownEnd w) := by
 unfold TownEnd
 have b1 := (Blk.new (w.alloc (.cells #[.slice none 0 0] 28)) #[.int .i64 3600, .int .i64 0, .string ⟨#[65]⟩] 61).alloc (.cells #[.int .i64 7200, .int .i64 3600, .string ⟨#[66]⟩] 61)
 have b2 := Blk.new ((w.alloc (.cells #[.slice none 0 0] 28)).alloc (.cells #[.int .i64 3600, .int .i64 0, .string ⟨#[65]⟩] 61)) #[.int .i64 7200, .int .i64 3600, .string ⟨#[66]⟩] 61
 simp only [World.size_alloc] at b1 b2
 go_enter Tryz.func9, Tryz.ntmps9
 go_wp2_with fail
 have hB3 : Below w.heap.size w (((w.alloc (.cells #[.slice none 0 0] 28)).alloc (.cells #[.int .i64 3600, .int .i64 0, .string ⟨#[65]⟩] 61)).alloc (.cells #[.int .i64 7200, .int .i64 3600, .string ⟨#[66]⟩] 61)) := (((Below.refl _ _).alloc (Nat.le_refl _) _).alloc (by simp) _).alloc (by simp; omega) _
 have b0 := ((Blk.new w #[.slice none 0 0] 28).alloc (.cells #[.int .i64 3600, .int .i64 0, .string ⟨#[65]⟩] 61)).alloc (.cells #[.int .i64 7200, .int .i64 3600, .string ⟨#[66]⟩] 61)
 have hs3 : (((w.alloc (.cells #[.slice none 0 0] 28)).alloc (.cells #[.int .i64 3600, .int .i64 0, .string ⟨#[65]⟩] 61)).alloc (.cells #[.int .i64 7200, .int .i64 3600, .string ⟨#[66]⟩] 61)).heap.size = w.heap.size + 3 := by simp
 generalize ((w.alloc (.cells #[.slice none 0 0] 28)).alloc (.cells #[.int .i64 3600, .int .i64 0, .string ⟨#[65]⟩] 61)).alloc (.cells #[.int .i64 7200, .int .i64 3600, .string ⟨#[66]⟩] 61) = W at *
 refine (town1_any 1000000 _ _ W b1 b2).mono ?_
 rintro e w1 ⟨rfl, rfl⟩
 rw [hs3]
 have b1' := (b1.alloc (.cells #[.int .i64 1000000, .int .i64 7200, .int .i64 3600, .string ⟨#[66]⟩] 68)).alloc (.cells #[.string ⟨#[84, 111, 119, 110]⟩, .int .i64 3600, .int .i64 0, .string ⟨#[65]⟩, .slice (some ⟨w.heap.size + 3, 0, none⟩) 1 1, .slice none 0 0, .int .i64 0, .string ⟨#[]⟩, .int .i64 0] 65)
 have b2' := (b2.alloc (.cells #[.int .i64 1000000, .int .i64 7200, .int .i64 3600, .string ⟨#[66]⟩] 68)).alloc (.cells #[.string ⟨#[84, 111, 119, 110]⟩, .int .i64 3600, .int .i64 0, .string ⟨#[65]⟩, .slice (some ⟨w.heap.size + 3, 0, none⟩) 1 1, .slice none 0 0, .int .i64 0, .string ⟨#[]⟩, .int .i64 0] 65)
 clear b1 b2
 go_wp2_with fail
 refine (town1_any 1007200 _ _ _ b1' b2').mono ?_
 rintro e w2 ⟨rfl, rfl⟩
 clear b1' b2'
 have z0 := blk_cl b0 0 _ rfl
 have zf := fun i => b0.frozen i
 have zl := b0.lt
 go_wp2
 have hsW : (W.setCell ⟨w.heap.size, 0, none⟩ (.slice (some ⟨w.heap.size + 3 + 1 + 1 + 1 + 1, 0, none⟩) 2 2)).heap.size = w.heap.size + 3 := by simp [hs3]
 have t1 := (((((Blk.new (W.setCell ⟨w.heap.size, 0, none⟩ (.slice (some ⟨w.heap.size + 3 + 1 + 1 + 1 + 1, 0, none⟩) 2 2)) #[.int .i64 1000000, .int .i64 7200, .int .i64 3600, .string ⟨#[66]⟩] 68).alloc (.cells #[.string ⟨#[84, 111, 119, 110]⟩, .int .i64 3600, .int .i64 0, .string ⟨#[65]⟩, .slice (some ⟨w.heap.size + 3, 0, none⟩) 1 1, .slice none 0 0, .int .i64 0, .string ⟨#[]⟩, .int .i64 0] 65)).alloc (.cells #[.int .i64 1007200, .int .i64 7200, .int .i64 3600, .string ⟨#[66]⟩] 68)).alloc (.cells #[.string ⟨#[84, 111, 119, 110]⟩, .int .i64 3600, .int .i64 0, .string ⟨#[65]⟩, .slice (some ⟨w.heap.size + 3 + 1 + 1, 0, none⟩) 1 1, .slice none 0 0, .int .i64 0, .string ⟨#[]⟩, .int .i64 0] 65)).alloc (.cells #[.string ⟨#[118, 49]⟩, .slice (some ⟨w.heap.size + 3 + 1, 0, none⟩) 1 1, .slice none 0 0, .string ⟨#[118, 50]⟩, .slice (some ⟨w.heap.size + 3 + 1 + 1 + 1, 0, none⟩) 1 1, .slice none 0 0] 54))
 have q1 := ((((Blk.new ((W.setCell ⟨w.heap.size, 0, none⟩ (.slice (some ⟨w.heap.size + 3 + 1 + 1 + 1 + 1, 0, none⟩) 2 2)).alloc (.cells #[.int .i64 1000000, .int .i64 7200, .int .i64 3600, .string ⟨#[66]⟩] 68)) #[.string ⟨#[84, 111, 119, 110]⟩, .int .i64 3600, .int .i64 0, .string ⟨#[65]⟩, .slice (some ⟨w.heap.size + 3, 0, none⟩) 1 1, .slice none 0 0, .int .i64 0, .string ⟨#[]⟩, .int .i64 0] 65).alloc (.cells #[.int .i64 1007200, .int .i64 7200, .int .i64 3600, .string ⟨#[66]⟩] 68)).alloc (.cells #[.string ⟨#[84, 111, 119, 110]⟩, .int .i64 3600, .int .i64 0, .string ⟨#[65]⟩, .slice (some ⟨w.heap.size + 3 + 1 + 1, 0, none⟩) 1 1, .slice none 0 0, .int .i64 0, .string ⟨#[]⟩, .int .i64 0] 65)).alloc (.cells #[.string ⟨#[118, 49]⟩, .slice (some ⟨w.heap.size + 3 + 1, 0, none⟩) 1 1, .slice none 0 0, .string ⟨#[118, 50]⟩, .slice (some ⟨w.heap.size + 3 + 1 + 1 + 1, 0, none⟩) 1 1, .slice none 0 0] 54))
 have t2 := (((Blk.new (((W.setCell ⟨w.heap.size, 0, none⟩ (.slice (some ⟨w.heap.size + 3 + 1 + 1 + 1 + 1, 0, none⟩) 2 2)).alloc (.cells #[.int .i64 1000000, .int .i64 7200, .int .i64 3600, .string ⟨#[66]⟩] 68)).alloc (.cells #[.string ⟨#[84, 111, 119, 110]⟩, .int .i64 3600, .int .i64 0, .string ⟨#[65]⟩, .slice (some ⟨w.heap.size + 3, 0, none⟩) 1 1, .slice none 0 0, .int .i64 0, .string ⟨#[]⟩, .int .i64 0] 65)) #[.int .i64 1007200, .int .i64 7200, .int .i64 3600, .string ⟨#[66]⟩] 68).alloc (.cells #[.string ⟨#[84, 111, 119, 110]⟩, .int .i64 3600, .int .i64 0, .string ⟨#[65]⟩, .slice (some ⟨w.heap.size + 3 + 1 + 1, 0, none⟩) 1 1, .slice none 0 0, .int .i64 0, .string ⟨#[]⟩, .int .i64 0] 65)).alloc (.cells #[.string ⟨#[118, 49]⟩, .slice (some ⟨w.heap.size + 3 + 1, 0, none⟩) 1 1, .slice none 0 0, .string ⟨#[118, 50]⟩, .slice (some ⟨w.heap.size + 3 + 1 + 1 + 1, 0, none⟩) 1 1, .slice none 0 0] 54))
 have q2 := ((Blk.new ((((W.setCell ⟨w.heap.size, 0, none⟩ (.slice (some ⟨w.heap.size + 3 + 1 + 1 + 1 + 1, 0, none⟩) 2 2)).alloc (.cells #[.int .i64 1000000, .int .i64 7200, .int .i64 3600, .string ⟨#[66]⟩] 68)).alloc (.cells #[.string ⟨#[84, 111, 119, 110]⟩, .int .i64 3600, .int .i64 0, .string ⟨#[65]⟩, .slice (some ⟨w.heap.size + 3, 0, none⟩) 1 1, .slice none 0 0, .int .i64 0, .string ⟨#[]⟩, .int .i64 0] 65)).alloc (.cells #[.int .i64 1007200, .int .i64 7200, .int .i64 3600, .string ⟨#[66]⟩] 68)) #[.string ⟨#[84, 111, 119, 110]⟩, .int .i64 3600, .int .i64 0, .string ⟨#[65]⟩, .slice (some ⟨w.heap.size + 3 + 1 + 1, 0, none⟩) 1 1, .slice none 0 0, .int .i64 0, .string ⟨#[]⟩, .int .i64 0] 65).alloc (.cells #[.string ⟨#[118, 49]⟩, .slice (some ⟨w.heap.size + 3 + 1, 0, none⟩) 1 1, .slice none 0 0, .string ⟨#[118, 50]⟩, .slice (some ⟨w.heap.size + 3 + 1 + 1 + 1, 0, none⟩) 1 1, .slice none 0 0] 54))
 have v0 := (Blk.new (((((W.setCell ⟨w.heap.size, 0, none⟩ (.slice (some ⟨w.heap.size + 3 + 1 + 1 + 1 + 1, 0, none⟩) 2 2)).alloc (.cells #[.int .i64 1000000, .int .i64 7200, .int .i64 3600, .string ⟨#[66]⟩] 68)).alloc (.cells #[.string ⟨#[84, 111, 119, 110]⟩, .int .i64 3600, .int .i64 0, .string ⟨#[65]⟩, .slice (some ⟨w.heap.size + 3, 0, none⟩) 1 1, .slice none 0 0, .int .i64 0, .string ⟨#[]⟩, .int .i64 0] 65)).alloc (.cells #[.int .i64 1007200, .int .i64 7200, .int .i64 3600, .string ⟨#[66]⟩] 68)).alloc (.cells #[.string ⟨#[84, 111, 119, 110]⟩, .int .i64 3600, .int .i64 0, .string ⟨#[65]⟩, .slice (some ⟨w.heap.size + 3 + 1 + 1, 0, none⟩) 1 1, .slice none 0 0, .int .i64 0, .string ⟨#[]⟩, .int .i64 0] 65)) #[.string ⟨#[118, 49]⟩, .slice (some ⟨w.heap.size + 3 + 1, 0, none⟩) 1 1, .slice none 0 0, .string ⟨#[118, 50]⟩, .slice (some ⟨w.heap.size + 3 + 1 + 1 + 1, 0, none⟩) 1 1, .slice none 0 0] 54)
 simp only [World.size_alloc, hsW] at t1 q1 t2 q2 v0
 have g0 := ((((((b0.setAt 0 (.slice (some ⟨w.heap.size + 3 + 1 + 1 + 1 + 1, 0, none⟩) 2 2)).alloc (.cells #[.int .i64 1000000, .int .i64 7200, .int .i64 3600, .string ⟨#[66]⟩] 68)).alloc (.cells #[.string ⟨#[84, 111, 119, 110]⟩, .int .i64 3600, .int .i64 0, .string ⟨#[65]⟩, .slice (some ⟨w.heap.size + 3, 0, none⟩) 1 1, .slice none 0 0, .int .i64 0, .string ⟨#[]⟩, .int .i64 0] 65)).alloc (.cells #[.int .i64 1007200, .int .i64 7200, .int .i64 3600, .string ⟨#[66]⟩] 68)).alloc (.cells #[.string ⟨#[84, 111, 119, 110]⟩, .int .i64 3600, .int .i64 0, .string ⟨#[65]⟩, .slice (some ⟨w.heap.size + 3 + 1 + 1, 0, none⟩) 1 1, .slice none 0 0, .int .i64 0, .string ⟨#[]⟩, .int .i64 0] 65)).alloc (.cells #[.string ⟨#[118, 49]⟩, .slice (some ⟨w.heap.size + 3 + 1, 0, none⟩) 1 1, .slice none 0 0, .string ⟨#[118, 50]⟩, .slice (some ⟨w.heap.size + 3 + 1 + 1 + 1, 0, none⟩) 1 1, .slice none 0 0] 54)).cell 0 (v := .slice (some ⟨w.heap.size + 3 + 1 + 1 + 1 + 1, 0, none⟩) 2 2) rfl
 have hB9 : Below w.heap.size w ((((((W.setCell ⟨w.heap.size, 0, none⟩ (.slice (some ⟨w.heap.size + 3 + 1 + 1 + 1 + 1, 0, none⟩) 2 2)).alloc (.cells #[.int .i64 1000000, .int .i64 7200, .int .i64 3600, .string ⟨#[66]⟩] 68)).alloc (.cells #[.string ⟨#[84, 111, 119, 110]⟩, .int .i64 3600, .int .i64 0, .string ⟨#[65]⟩, .slice (some ⟨w.heap.size + 3, 0, none⟩) 1 1, .slice none 0 0, .int .i64 0, .string ⟨#[]⟩, .int .i64 0] 65)).alloc (.cells #[.int .i64 1007200, .int .i64 7200, .int .i64 3600, .string ⟨#[66]⟩] 68)).alloc (.cells #[.string ⟨#[84, 111, 119, 110]⟩, .int .i64 3600, .int .i64 0, .string ⟨#[65]⟩, .slice (some ⟨w.heap.size + 3 + 1 + 1, 0, none⟩) 1 1, .slice none 0 0, .int .i64 0, .string ⟨#[]⟩, .int .i64 0] 65)).alloc (.cells #[.string ⟨#[118, 49]⟩, .slice (some ⟨w.heap.size + 3 + 1, 0, none⟩) 1 1, .slice none 0 0, .string ⟨#[118, 50]⟩, .slice (some ⟨w.heap.size + 3 + 1 + 1 + 1, 0, none⟩) 1 1, .slice none 0 0] 54)) := bel_al3 (bel_al3 (bel_al3 (bel_al3 (bel_al3 (hB3.setCell (p := ⟨w.heap.size, 0, none⟩) (Nat.le_refl _) _) _) _) _) _) _
 generalize ((((((W.setCell ⟨w.heap.size, 0, none⟩ (.slice (some ⟨w.heap.size + 3 + 1 + 1 + 1 + 1, 0, none⟩) 2 2)).alloc (.cells #[.int .i64 1000000, .int .i64 7200, .int .i64 3600, .string ⟨#[66]⟩] 68)).alloc (.cells #[.string ⟨#[84, 111, 119, 110]⟩, .int .i64 3600, .int .i64 0, .string ⟨#[65]⟩, .slice (some ⟨w.heap.size + 3, 0, none⟩) 1 1, .slice none 0 0, .int .i64 0, .string ⟨#[]⟩, .int .i64 0] 65)).alloc (.cells #[.int .i64 1007200, .int .i64 7200, .int .i64 3600, .string ⟨#[66]⟩] 68)).alloc (.cells #[.string ⟨#[84, 111, 119, 110]⟩, .int .i64 3600, .int .i64 0, .string ⟨#[65]⟩, .slice (some ⟨w.heap.size + 3 + 1 + 1, 0, none⟩) 1 1, .slice none 0 0, .int .i64 0, .string ⟨#[]⟩, .int .i64 0] 65)).alloc (.cells #[.string ⟨#[118, 49]⟩, .slice (some ⟨w.heap.size + 3 + 1, 0, none⟩) 1 1, .slice none 0 0, .string ⟨#[118, 50]⟩, .slice (some ⟨w.heap.size + 3 + 1 + 1 + 1, 0, none⟩) 1 1, .slice none 0 0] 54)) = w9 at *
 refine bodyPost_ret (v := .agg #[.slice (some ⟨w.heap.size + 3 + 1 + 1 + 1 + 1, 0, none⟩) 2 2]) (by simp [results, Tryz.results9, go_sem, g0]) rfl ⟨w.heap.size, _, rfl, ⟨?_, ?_⟩, hB9⟩
 ·exact rd_blk encVV_len v0 (townL w.heap.size) 2 2 rfl rfl
 ·intro x hx
  simp only [townL, List.mem_cons, List.not_mem_nil, or_false] at hx
  rcases hx with rfl | rfl
  ·exact ⟨rd_blk encZ_len q1 [twV 1000000 (w.heap.size + 3)] 1 1 rfl rfl, fun y hy => by rw [List.mem_singleton] at hy; subst hy; exact ⟨rd_blk trn_len t1 (twZ 1000000).table 1 1 rfl rfl, .inl ⟨rfl, none, 0, rfl⟩⟩, .inl ⟨rfl, none, 0, rfl⟩⟩
  ·exact ⟨rd_blk encZ_len q2 [twV 1007200 (w.heap.size + 5)] 1 1 rfl rfl, fun y hy => by rw [List.mem_singleton] at hy; subst hy; exact ⟨rd_blk trn_len t2 (twZ 1007200).table 1 1 rfl rfl, .inl ⟨rfl, none, 0, rfl⟩⟩, .inl ⟨rfl, none, 0, rfl⟩⟩
end Go.Proofs.YtdpbhjaicgkblaaGreatDoor
/- slices.Equal at migrations. -/
namespace Go.Proofs.YtdpbhjaicgkblaaGreatDoor
set_option linter.unusedSimpArgs false
set_option linter.unusedVariables false
open Go.ChangeShapes Go.WideShapes Go.ChangeAt Go.RowKit Go.Sort Go.Lib
theorem Mig.ext_iff' (a b : Mig) : a = b ↔ a.en = b.en ∧ a.kd = b.kd ∧ a.od = b.od ∧ a.nw = b.nw := by
 cases a; cases b; simp
instance : DecidableEq Mig := fun a b => decidable_of_iff _ (Mig.ext_iff' a b).symm
set_option maxRecDepth 100000 in
theorem neMg (a b : Mig) (w : World) : (binOp .neq 46 (.agg #[.int .i64 a.en, .int .i64 a.kd, .int .i64 a.od, .int .i64 a.nw]) (.agg #[.int .i64 b.en, .int .i64 b.kd, .int .i64 b.od, .int .i64 b.nw])).run Tryz.prog w = .ok (.bool (!decide (a = b))) w := by
 have u3 := Tryz.underlying3
 have hS : Tryz.prog.underlying 46 = some (.struct (Tryz.prog.fieldsOf 46)) := by kernel_rfl
 have hp : Tryz.prog.stoodInHeld 46 = false := by kernel_rfl
 have a3 : ∀ w, (isAgg 3).run Tryz.prog w = .ok false w := fun w => by kernel_rfl
 have z3 : ∀ w, (Go.sizeOf 3).run Tryz.prog w = .ok 1 w := fun w => by kernel_rfl
 rw [run_neq_struct, show (10000 : Nat) = 9999 + 1 from rfl, run_equalIn_agg w 9999 46 _ _ hS hp]
 simp only [Program.fieldsOf, Tryz.underlying46]
 go_simp
 by_cases h1 : a.en = b.en <;> by_cases h2 : a.kd = b.kd <;> by_cases h3 : a.od = b.od <;> by_cases h4 : a.nw = b.nw <;> simp [h1, h2, h3, h4, Mig.ext_iff']
theorem gdMg (op : BinOp) (x y : Operand) (xs ys : Array Value) (w : World) : (eqGuard op 46 x y (.agg xs) (.agg ys)).run Tryz.prog w = .ok () w := run_eqGuard_agg w op 46 x y xs ys (by kernel_rfl)
theorem takeM_eq {l1 l2 : List Mig} {k : Nat} (hk : k < l1.length) (hl : l1.length = l2.length) (h : l1.take k = l2.take k) (he : l1[k]! = l2[k]!) : l1.take (k + 1) = l2.take (k + 1) := by
 rw [List.take_succ_eq_append_getElem hk, List.take_succ_eq_append_getElem (show k < l2.length by omega), h, ← getElem!_pos l1 k hk, ← getElem!_pos l2 k (by omega), he]
theorem takeM_ne {l1 l2 : List Mig} {k : Nat} (he : l1[k]! ≠ l2[k]!) : decide (l1 = l2) = false := decide_eq_false fun e => he (by rw [e])
set_option maxRecDepth 100000 in
set_option maxHeartbeats 2000000 in
theorem Equal_M (v1 v2 : Value) (l1 l2 : List Mig) (w : World) (h1 : l1.length ≤ 1000000) (h2 : l2.length ≤ 1000000) (hR1 : Rd encM 4 w v1 l1) (hR2 : Rd encM 4 w v2 l2) :
  Calls Tryz.prog 10 #[v1, v2] w fun e w' => e = .returned (.bool (decide (l1 = l2))) ∧ Below w.heap.size w w' := by
 have HR1 := Lib.hid hR1
 have HR2 := Lib.hid hR2
 obtain ⟨A1, c1, rfl⟩ := rd_vf hR1
 obtain ⟨A2, c2, rfl⟩ := rd_vf hR2
 clear hR1 hR2
 have NE := fun a b w => neMg a b w
 have GD := fun op x y xs ys w => gdMg op x y xs ys w
 by_cases hl : l1.length = l2.length
 ·rw [← hl]
  have dl : ((l1.length : Int) != (l1.length : Int)) = false := by simp
  have HL := Lib.hid hl
  clear hl
  go_enter Tryz.func10, Tryz.ntmps10
  go_wp2
  go_loopw [13] (fun i wr => ∃ k : Nat, k ≤ l1.length ∧ i = .int .i64 k ∧ Below w.heap.size w wr ∧ Hid (l1.take k = l2.take k)) (fun i _ => l1.length - (intOf i).toNat)
  case atStart => exact ⟨0, Nat.zero_le _, rfl, Below.refl _ _, Lib.hid rfl⟩
  case round =>
   obtain ⟨k, hk, rfl, hbr, HT⟩ := hrel
   by_cases hlt : k < l1.length
   ·obtain ⟨g1, o1, hA1, hc1⟩ : ∃ g off, A1 = some ⟨g, off, none⟩ ∧ ∀ i u, (encM l1[k]!)[i]? = some u → wr.cell? ⟨g, off + k * 4 + i, none⟩ = some u := by
     rcases HR1.out.on hbr with ⟨e, _⟩ | ⟨g, off, c', hv, hg, hc⟩
     ·rw [e] at hlt; simp at hlt
     ·injection hv with e1 _ _
      exact ⟨g, off, e1, fun i u hu => hc k hlt i u hu⟩
    obtain ⟨g2, o2, hA2, hc2⟩ : ∃ g off, A2 = some ⟨g, off, none⟩ ∧ ∀ i u, (encM l2[k]!)[i]? = some u → wr.cell? ⟨g, off + k * 4 + i, none⟩ = some u := by
     have hlt2 : k < l2.length := by have := HL.out; omega
     rcases HR2.out.on hbr with ⟨e, _⟩ | ⟨g, off, c', hv, hg, hc⟩
     ·rw [e] at hlt2; simp at hlt2
     ·injection hv with e1 _ _
      exact ⟨g, off, e1, fun i u hu => hc k hlt2 i u hu⟩
    subst hA1 hA2
    have p0 := hc1 0 _ rfl
    have p1 := hc1 1 _ rfl
    have p2 := hc1 2 _ rfl
    have p3 := hc1 3 _ rfl
    have q0 := hc2 0 _ rfl
    have q1 := hc2 1 _ rfl
    have q2 := hc2 2 _ rfl
    have q3 := hc2 3 _ rfl
    rw [Nat.add_zero] at p0 q0
    have HEQ := Lib.hid (fun h => takeM_eq hlt HL.out HT.out h)
    have HNE := Lib.hid (fun h => takeM_ne (l1 := l1) (l2 := l2) (k := k) h)
    generalize l1[k]! = x at *
    generalize l2[k]! = y at *
    have NEk := NE x y
    clear hc1 hc2 NE
    have i1 : (0 : Int) ≤ (k : Int) := by omega
    have i2 : (k : Int) < (l1.length : Int) := by omega
    by_cases hxy : x = y
    ·have HS := Lib.hid (HEQ.out hxy)
     rw [decide_eq_true hxy] at NEk
     clear hxy HEQ HNE
     go_wp2
     go_quiet (fail)
     go_wp2
     go_roundw
     case rel => exact ⟨k + 1, by omega, by go_num, below_drewN hbr _, HS⟩
     case measure => simp [intOf]; omega
    ·have HS := Lib.hid (HNE.out hxy)
     rw [decide_eq_false hxy] at NEk
     clear hxy HEQ HNE
     go_wp2
     go_quiet (fail)
     go_wp2
     go_ret
     exact ⟨ret1 (vbool (by rw [HS.out])), below_drewN hbr _⟩
   ·have hke : k = l1.length := by omega
    subst hke
    have HX := Lib.hid (show decide (l1 = l2) = true from decide_eq_true (by have := HT.out; rw [List.take_length, List.take_of_length_le (by have := HL.out; omega)] at this; exact this))
    go_wp2
    go_ret
    exact ⟨ret1 (vbool (by rw [HX.out])), hbr⟩
 ·have dl : ((l1.length : Int) != (l2.length : Int)) = true := by rw [bne_iff_ne]; omega
  have HF := Lib.hid (show decide (l1 = l2) = false from decide_eq_false fun e => hl (by rw [e]))
  rw [HF.out]
  clear hl
  go_enter Tryz.func10, Tryz.ntmps10
  go_wp2
  go_ret
  exact ⟨rfl, Below.refl _ _⟩
end Go.Proofs.YtdpbhjaicgkblaaGreatDoor
/- civiltimelaw53.awake. -/
namespace Go.Proofs.YtdpbhjaicgkblaaGreatDoor
set_option linter.unusedSimpArgs false
set_option linter.unusedVariables false
open Go.ChangeShapes Go.WideShapes Go.ChangeAt Go.RowKit Go.Sort Go.Lib
def twE : Ent := ⟨⟨#[99, 97, 108, 108]⟩, ⟨1008000, ⟨#[84, 111, 119, 110]⟩, 1, 1⟩, 60⟩
theorem tw_giv (n : Nat) : givF (townL n) [twE] [⟨#[118, 49]⟩, ⟨#[118, 50]⟩] = 0 := by kernel_rfl
theorem tw_rep (n : Nat) : repM (mgs (townL n) ⟨#[118, 49]⟩ ⟨#[118, 50]⟩ [twE]) [twE].length = [⟨0, 1, 1000800, 1004400⟩] := by kernel_rfl
theorem tw_ok (n : Nat) : OkH (townL n) := by
 refine ⟨by show 2 ≤ 1000; omega, fun x hx => ?_⟩
 have hz : ∀ t c, OkZ (twV t c) := fun t c => ⟨by show 0 ≤ 12; omega, by show 1 ≤ 300; omega, by show 0 < 4294967281; omega⟩
 simp only [townL, List.mem_cons, List.not_mem_nil, or_false] at hx
 rcases hx with rfl | rfl
 ·exact ⟨by show 1 ≤ 1000; omega, by show 0 ≤ 1000; omega, fun y hy => by rw [List.mem_singleton] at hy; subst hy; exact hz _ _⟩
 ·exact ⟨by show 1 ≤ 1000; omega, by show 0 ≤ 1000; omega, fun y hy => by rw [List.mem_singleton] at hy; subst hy; exact hz _ _⟩
set_option maxRecDepth 100000 in
set_option maxHeartbeats 1500000 in
theorem awake53_any (w : World) (hm : HasMax w) : Calls Tryz.prog 4 #[] w fun e w' => e = .returned (.bool true) ∧ Below w.heap.size w w' := by
 have HP := Lib.hid (fun n vH vE W (hb : Below w.heap.size w W) hg hE => Report_any (townL n) vH ⟨#[118, 49]⟩ ⟨#[118, 50]⟩ [twE] vE W (hm.on hb) hg (tw_ok n) hE (by decide))
 unfold RepEnd at HP
 clear hm
 have b0 := Blk.new w #[.string ⟨#[99, 97, 108, 108]⟩, .int .i64 1008000, .string ⟨#[84, 111, 119, 110]⟩, .int .i64 1, .int .i64 1, .int .i64 60] 40
 have hB1 : Below w.heap.size w (w.alloc (.cells #[.string ⟨#[99, 97, 108, 108]⟩, .int .i64 1008000, .string ⟨#[84, 111, 119, 110]⟩, .int .i64 1, .int .i64 1, .int .i64 60] 40)) := (Below.refl _ _).alloc (Nat.le_refl _) _
 have HRE := Lib.hid (fun W hb => (rd_blk encEn_len b0 [twE] 1 1 rfl rfl).on (w' := W) hb)
 go_enter Tryz.func4, Tryz.ntmps4
 go_wp2_with fail
 generalize w.alloc (.cells #[.string ⟨#[99, 97, 108, 108]⟩, .int .i64 1008000, .string ⟨#[84, 111, 119, 110]⟩, .int .i64 1, .int .i64 1, .int .i64 60] 40) = W at *
 refine (town_any W).mono ?_
 rintro e w1 ⟨n, vH, rfl, hG, hb1⟩
 have hB2 := hB1.trans (hb1.mono hB1.size)
 have hRE := HRE.out w1 hb1
 go_wp2_with fail
 refine (HP.out n vH _ w1 hB2 hG hRE).mono ?_
 rintro e w2 ⟨hb2, h2⟩
 rcases h2 with ⟨h, _⟩ | ⟨_, u, rfl, hown⟩
 ·exact absurd (tw_giv n) h
 rw [tw_rep] at hown
 have hB3 := hB2.trans (hb2.mono hB2.size)
 have HRM := Lib.hid (rd_of_own encM_len hown rfl)
 obtain ⟨AM, cM, rfl⟩ := own_formN hown
 clear hown hG hRE hb2 HP HRE
 have b2 := Blk.new w2 #[.int .i64 0, .int .i64 1, .int .i64 1000800, .int .i64 1004400] 46
 have hb3 : Below w2.heap.size w2 (w2.alloc (.cells #[.int .i64 0, .int .i64 1, .int .i64 1000800, .int .i64 1004400] 46)) := (Below.refl _ _).alloc (Nat.le_refl _) _
 have HEQ := Lib.hid (Equal_M _ _ [⟨0, 1, 1000800, 1004400⟩] [⟨0, 1, 1000800, 1004400⟩] _ (by decide) (by decide) (HRM.out.on hb3) (rd_blk encM_len b2 [⟨0, 1, 1000800, 1004400⟩] 1 1 rfl rfl))
 have hB4 := hB3.trans (hb3.mono hB3.size)
 clear b2 hb3 HRM
 go_wp2_with fail
 refine HEQ.out.mono ?_
 rintro e w4 ⟨rfl, hb4⟩
 go_wp2
 go_ret
 exact ⟨ret1 (vbool (by decide)), hB4.trans (hb4.mono hB4.size)⟩
end Go.Proofs.YtdpbhjaicgkblaaGreatDoor

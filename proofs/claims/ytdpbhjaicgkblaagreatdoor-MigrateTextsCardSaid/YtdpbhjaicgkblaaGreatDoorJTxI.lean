/- migrate.Text's closure: the text of an instant behind a builder's. -/
import Derived.Test.YtdpbhjaicgkblaaGreatDoorBld
import Derived.Test.YtdpbhjaicgkblaaGreatDoorJTxt2
namespace Go.Proofs.YtdpbhjaicgkblaaGreatDoor
set_option linter.unusedSimpArgs false
set_option linter.unusedVariables false
open Go.ChangeShapes Go.WideShapes Go.ChangeAt Go.RowKit
theorem bf_kept {T e : TypeId} {B b : Nat} {p : Value} {bs : List Value} {w w' : World} (h : Lib.BuilderAtF T e B b p bs w) (hb : Below w.heap.size w w') : Lib.BuilderAtF T e B b p bs w' := by
 have hl := h.lt
 obtain ⟨hB, v, hk, ho, hne⟩ := h
 refine ⟨hB, v, (hb.block b hl).trans hk, ho.kept (row := none) (below_grown hb) ?_, hne⟩
 cases hv : v.ownBlock
 ·exact .inl rfl
 ·exact .inr (by simp)
theorem bd_kept {T e : TypeId} {B b : Nat} {bs : List Value} {w w' : World} (h : Lib.IsBuilderF T e B b bs w) (hb : Below w.heap.size w w') : Lib.IsBuilderF T e B b bs w' := h.elim (fun x => .inl (bf_kept x hb)) (fun x => .inr (bf_kept x hb))
theorem bf_set {T e T2 : TypeId} {B b q : Nat} {p : Value} {bs : List Value} {cs : Array Value} {w : World} (h : Lib.BuilderAtF T e B b p bs w) (hq : Blk w q cs T2) (hne2 : T2 ≠ e) (hqb : q ≠ b) (i : Nat) (u : Value) : Lib.BuilderAtF T e B b p bs (w.setCell ⟨q, i, none⟩ u) := by
 obtain ⟨hB, v, hk, ho, hne⟩ := h
 have hg : w.grownBy (w.setCell ⟨q, i, none⟩ u) (some q) := ⟨rfl, rfl, rfl, by simp [World.setCell], fun k _ hk => Below.heap_setCell _ _ _ _ (fun e => hk (by rw [e]))⟩
 refine ⟨hB, v, (hg.block b (Array.getElem?_eq_some_iff.1 hk).1 (fun e => hqb (Option.some.inj e).symm)).trans hk, ho.kept (row := some q) hg (.inr fun e2 => ?_), hne⟩
 rcases ho.2 with ⟨hv, _⟩ | ⟨g, cap, cur, fz, hv, _, hc, _⟩
 ·rw [hv] at e2; cases e2
 ·rw [hv] at e2
  have : g = q := Option.some.inj e2
  subst this
  rw [show w.heap[g]? = _ from hq] at hc
  injection hc with hc
  injection hc with _ h2 _
  exact hne2 h2
theorem bd_set {T e T2 : TypeId} {B b q : Nat} {bs : List Value} {cs : Array Value} {w : World} (h : Lib.IsBuilderF T e B b bs w) (hq : Blk w q cs T2) (hne2 : T2 ≠ e) (hqb : q ≠ b) (i : Nat) (u : Value) : Lib.IsBuilderF T e B b bs (w.setCell ⟨q, i, none⟩ u) := h.elim (fun x => .inl (bf_set x hq hne2 hqb i u)) (fun x => .inr (bf_set x hq hne2 hqb i u))
theorem bd_lt {T e : TypeId} {B b : Nat} {bs : List Value} {w : World} (h : Lib.IsBuilderF T e B b bs w) : b < w.heap.size := h.elim (fun x => x.lt) (fun x => x.lt)
theorem blk_others {e T : TypeId} {b q : Nat} {cs : Array Value} {w w' : World} (h : Blk w q cs T) (hk : Lib.OthersKept e (some b) w w') (hqb : q ≠ b) (hT : T ≠ e) : Blk w' q cs T :=
 hk q _ h (fun e => hqb (Option.some.inj e)) (fun c fz e => hT (by injection e))
theorem b1_set {W : World} {B : Nat} {T : TypeId} {a : Value} (h : Blk W B #[a] T) (x : Value) : Blk (W.setCell ⟨B, 0, none⟩ x) B #[x] T := by
 unfold Blk at *
 simp [World.setCell, Array.getElem?_modify, h]
theorem insI_any (t : Int) (w : World) : Calls Tryz.prog 27 #[.int .i64 t] w fun e w' => e = .returned (.agg #[.int .i64 t, .string ⟨#[]⟩, .int .i64 0, .int .i64 0]) ∧ Below w.heap.size w w' := by
 go_enter Tryz.func27, Tryz.ntmps27
 go_wp2
 exact bodyPost_ret (v := .agg #[.int .i64 t, .string ⟨#[]⟩, .int .i64 0, .int .i64 0]) (by simp [results, Tryz.results27, go_sem]) rfl ⟨rfl, (Below.refl _ _).alloc (Nat.le_refl _) _⟩
theorem insTxt_size {t : Int} {s : ByteArray} (h : InsTxt t s) : s.size ≤ 20 := by
 unfold InsTxt at h
 split at h
 ·obtain ⟨y, m, d, _, _, rfl⟩ := h
  have : ∀ a b c d e f, (momT a b c d e f).size = 19 := fun a b c d e f => by
   unfold momT
   simp [ByteArray.size_append, dateT_size, dig2_size]
   rfl
  rw [ByteArray.size_append, this]
  exact Nat.le_refl _
 ·subst h
  exact Nat.zero_le _
set_option maxRecDepth 100000 in
set_option maxHeartbeats 2000000 in
theorem inst_any (B q : Nat) (x : Bool) (bs : List Value) (t : Int) (w : World) (hW : Blk w q #[.bool x] 4) (hBd : Lib.IsBuilderF 82 5 B B bs w) (hlt : B < q) (hlen : bs.length ≤ 1000000) :
  Calls Tryz.prog 25 #[.int .i64 t, .pointer (some ⟨q, 0, none⟩), .pointer (some ⟨B, 0, none⟩)] w fun e w' => e = .returned (.tuple #[]) ∧ ∃ s, InsTxt t s ∧ Blk w' q #[.bool (x || emptyB s)] 4 ∧ Lib.IsBuilderF 82 5 B B (bs ++ Lib.strCells (⟨#[32]⟩ ++ s)) w' ∧ Below B w w' ∧ (∀ r cs T, Blk w r cs T → r ≠ q → r ≠ B → T ≠ 5 → Blk w' r cs T) := by
 have HI := Lib.hid (fun W => insI_any t W)
 have HT := Lib.hid (fun W => stext_g t W)
 have hql := hW.lt
 have hBl := bd_lt hBd
 suffices HPOST : ∀ Post : Ending → World → Prop, Hid (∀ s w', InsTxt t s → Blk w' q #[.bool (x || emptyB s)] 4 → Lib.BuilderAtF 82 5 B B (.pointer (some ⟨B, 0, none⟩)) (bs ++ Lib.strCells (⟨#[32]⟩ ++ s)) w' → Below B w w' → (∀ r cs T, Blk w r cs T → r ≠ q → r ≠ B → T ≠ 5 → Blk w' r cs T) → Post (.returned (.tuple #[])) w') → Calls Tryz.prog 25 #[.int .i64 t, .pointer (some ⟨q, 0, none⟩), .pointer (some ⟨B, 0, none⟩)] w Post from HPOST _ (Lib.hid fun s w' h1 h2 h3 h4 h5 => ⟨rfl, s, h1, h2, .inr h3, h4, h5⟩)
 intro Post HP
 go_enter Tryz.func25, Tryz.ntmps25
 go_wp2_with fail
 refine (HI.out _).mono ?_
 rintro e w1 ⟨rfl, hb1⟩
 go_wp2_with fail
 refine (HT.out _).mono ?_
 rintro e w2 ⟨s, rfl, hs, hb2⟩
 have hb := hb1.trans (hb2.mono hb1.size)
 have hW2 := hW.below hb hql
 have hB2 := bd_kept hBd hb
 have hsz := insTxt_size hs
 have c0 := hW2.cell 0 rfl
 have cf := fun i => hW2.frozen i
 have cl := hW2.lt
 have HP := Lib.hid (fun w' h2 h3 h4 h5 => HP.out s w' hs h2 h3 h4 h5)
 clear hs hb1 hb2 HI HT
 have h32 : (⟨#[32]⟩ : ByteArray).size = 1 := rfl
 have hsz2 : bs.length + ((⟨#[32]⟩ : ByteArray) ++ s).size ≤ 140737488355328 := by rw [ByteArray.size_append, h32]; omega
 have hqB : q ≠ B := by omega
 have hBz : ∀ u, B ≤ (w2.setCell ⟨q, 0, none⟩ u).heap.size := fun u => by
  have e : (w2.setCell ⟨q, 0, none⟩ u).heap.size = w2.heap.size := by simp [World.setCell]
  omega
 have HWR := Lib.hid (fun u => wr_k B B bs (⟨#[32]⟩ ++ s) (w2.setCell ⟨q, 0, none⟩ u) (bd_set hB2 hW2 (by decide) hqB 0 u) hsz2 (hBz u))
 obtain ⟨E, hE⟩ : ∃ E, emptyB s = E := ⟨_, rfl⟩
 rw [hE] at HP
 unfold emptyB at hE
 cases x
 ·cases E
  ·skip
   go_wp2_with fail
   refine (HWR.out _).mono ?_
   rintro e w3 ⟨rfl, h3, hb3, hk3⟩
   have hW3 := Lib.hid (blk_others (b1_set hW2 _) hk3 (by omega) (by decide))
   have hb4 := Lib.hid (((hb.mono (Nat.le_of_lt hBl)).setCell (p := ⟨q, 0, none⟩) (Nat.le_of_lt hlt) _).trans hb3)
   have h3 := Lib.hid h3
   have hR := Lib.hid (fun r cs T (hr : Blk w r cs T) (h1 : r ≠ q) (h2 : r ≠ B) (h5 : T ≠ 5) => blk_others ((hr.below hb hr.lt).other h1 _) hk3 h2 h5)
   clear hb3 hk3 hB2 hW2 c0 cf
   go_wp2
   go_end0
   exact HP.out w3 hW3.out h3.out hb4.out hR.out
  ·skip
   go_wp2_with fail
   refine (HWR.out _).mono ?_
   rintro e w3 ⟨rfl, h3, hb3, hk3⟩
   have hW3 := Lib.hid (blk_others (b1_set hW2 _) hk3 (by omega) (by decide))
   have hb4 := Lib.hid (((hb.mono (Nat.le_of_lt hBl)).setCell (p := ⟨q, 0, none⟩) (Nat.le_of_lt hlt) _).trans hb3)
   have h3 := Lib.hid h3
   have hR := Lib.hid (fun r cs T (hr : Blk w r cs T) (h1 : r ≠ q) (h2 : r ≠ B) (h5 : T ≠ 5) => blk_others ((hr.below hb hr.lt).other h1 _) hk3 h2 h5)
   clear hb3 hk3 hB2 hW2 c0 cf
   go_wp2
   go_end0
   exact HP.out w3 hW3.out h3.out hb4.out hR.out
 ·skip
  go_wp2_with fail
  refine (HWR.out _).mono ?_
  rintro e w3 ⟨rfl, h3, hb3, hk3⟩
  have hW3 := Lib.hid (blk_others (b1_set hW2 _) hk3 (by omega) (by decide))
  have hb4 := Lib.hid (((hb.mono (Nat.le_of_lt hBl)).setCell (p := ⟨q, 0, none⟩) (Nat.le_of_lt hlt) _).trans hb3)
  have h3 := Lib.hid h3
  have hR := Lib.hid (fun r cs T (hr : Blk w r cs T) (h1 : r ≠ q) (h2 : r ≠ B) (h5 : T ≠ 5) => blk_others ((hr.below hb hr.lt).other h1 _) hk3 h2 h5)
  clear hb3 hk3 hB2 hW2 c0 cf
  go_wp2
  go_end0
  exact HP.out w3 hW3.out h3.out hb4.out hR.out
end Go.Proofs.YtdpbhjaicgkblaaGreatDoor

/- Joined by merge.py: FewL, FewA, FewB. -/
import Derived.Test.YtdpbhjaicgkblaaGreatDoorGHis
import Derived.Test.YtdpbhjaicgkblaaGreatDoorGStm
/- Lists of what is good; ContainsFunc at zones and versions. -/
namespace Go.Proofs.YtdpbhjaicgkblaaGreatDoor
set_option linter.unusedSimpArgs false
set_option linter.unusedVariables false
open Go.ChangeShapes Go.WideShapes Go.ChangeAt Go.RowKit Go.Sort Go.Lib
/-! lists of what is good -/
def lift {α : Type} {p : α → Prop} (l : List α) (h : ∀ x ∈ l, p x) : List {x // p x} := l.pmap Subtype.mk h
theorem lift_len {α : Type} {p : α → Prop} (l : List α) (h : ∀ x ∈ l, p x) : (lift l h).length = l.length := List.length_pmap
theorem lift_any {α : Type} {p : α → Prop} (q : α → Bool) : ∀ (l : List α) (h : ∀ x ∈ l, p x), (lift l h).any (fun x => q x.1) = l.any q
 | [], _ => rfl
 | a :: r, h => by
  show (q a || (lift r _).any _) = (q a || r.any q)
  rw [lift_any q r]
theorem lift_rd {α : Type} [Inhabited α] {p : α → Prop} [Inhabited {x // p x}] {enc : α → List Value} {k : Nat} {w : World} {v : Value} {l : List α} (hR : Rd enc k w v l) (h : ∀ x ∈ l, p x) : Rd (fun x : {x // p x} => enc x.1) k w v (lift l h) := by
 rcases hR with ⟨rfl, A, c, rfl⟩ | ⟨b, off, c, rfl, hb, hc⟩
 ·exact .inl ⟨rfl, A, c, rfl⟩
 ·refine .inr ⟨b, off, c, by rw [lift_len], hb, fun j hj i u hu => ?_⟩
  have hj2 : j < l.length := by rwa [lift_len] at hj
  have e : ((lift l h)[j]!).1 = l[j]! := by
   rw [getElem!_pos (lift l h) j hj, getElem!_pos l j hj2]
   simp [lift]
  exact hc j hj2 i u (by rw [← e]; exact hu)
instance (w : World) : Inhabited {x : VV // GoodV w x} := ⟨⟨default, .inl ⟨rfl, none, 0, rfl⟩, (fun y hy => by cases hy), .inl ⟨rfl, none, 0, rfl⟩⟩⟩
instance (w : World) : Inhabited {x : ZV // GoodZ w x} := ⟨⟨default, .inl ⟨rfl, none, 0, rfl⟩, .inl ⟨rfl, none, 0, rfl⟩⟩⟩
theorem cfZg {α : Type} [Inhabited α] (enc : α → List Value) (hn : ∀ x, (enc x).length = 9) (q : α → Bool) (g : Nat) (lb : Array Value) (eg : ∀ args w, (callFunc g args).run Tryz.prog w = .ok (.enter g args) w) (v : Value) (l : List α) (w : World) (hp : PredBelow Tryz.prog g lb (fun x => .agg (enc x).toArray) q w) (hl : l.length ≤ 1000000) (hR : Rd enc 9 w v l) :
  Calls Tryz.prog 18 #[v, .func (.func g) #[] lb] w fun e w' => e = .returned (.bool (l.any q)) ∧ Below w.heap.size w w' := by
 rcases hR with ⟨rfl, A, c, rfl⟩ | ⟨b, off, c, rfl, hb, hc⟩
 ·exact (none_cfZ A c _ w).mono fun e w' ⟨h1, h2⟩ => ⟨h1, h2 ▸ Below.refl _ _⟩
 ·have := Tryz.slices_ContainsFunc_f18 9 isAggZ sizeOfZ enc hn q g lb eg b off l.length c l w hp (Nat.le_refl _) (by omega) hb (fun j hj i v hv => hc j hj i v hv)
  rw [List.take_length] at this
  exact this
theorem none_cfV (A : Option Addr) (c : Nat) (g : Value) (w : World) : Calls Tryz.prog 14 #[.slice A 0 c, g] w fun e w' => e = .returned (.bool false) ∧ w = w' := by
 go_enter Tryz.func14, Tryz.ntmps14
 go_wp2_with (go_at_call 37; refine (none_ifV _ _ _ _).mono ?_; rintro e w' ⟨rfl, rfl⟩)
 go_ret
 exact ⟨rfl, rfl⟩
theorem cfVg {α : Type} [Inhabited α] (enc : α → List Value) (hn : ∀ x, (enc x).length = 3) (q : α → Bool) (g : Nat) (lb : Array Value) (eg : ∀ args w, (callFunc g args).run Tryz.prog w = .ok (.enter g args) w) (v : Value) (l : List α) (w : World) (hp : PredBelow Tryz.prog g lb (fun x => .agg (enc x).toArray) q w) (hl : l.length ≤ 1000000) (hR : Rd enc 3 w v l) :
  Calls Tryz.prog 14 #[v, .func (.func g) #[] lb] w fun e w' => e = .returned (.bool (l.any q)) ∧ Below w.heap.size w w' := by
 rcases hR with ⟨rfl, A, c, rfl⟩ | ⟨b, off, c, rfl, hb, hc⟩
 ·exact (none_cfV A c _ w).mono fun e w' ⟨h1, h2⟩ => ⟨h1, h2 ▸ Below.refl _ _⟩
 ·have := Tryz.slices_ContainsFunc_f14 3 isAggV sizeOfV enc hn q g lb eg b off l.length c l w hp (Nat.le_refl _) (by omega) hb (fun j hj i v hv => hc j hj i v hv)
  rw [List.take_length] at this
  exact this
end Go.Proofs.YtdpbhjaicgkblaaGreatDoor
/- civiltimelaw53.few: its closures. -/
namespace Go.Proofs.YtdpbhjaicgkblaaGreatDoor
set_option linter.unusedSimpArgs false
set_option linter.unusedVariables false
open Go.ChangeShapes Go.WideShapes Go.ChangeAt Go.RowKit Go.Sort Go.Lib
def lngB (s : ByteArray) : Bool := decide ((60 : Int) < (s.size : Int))
def bigK (k : Lk) : Bool := lngB k.nm || lngB k.zn
def bigE (x : Ent) : Bool := lngB x.nm || lngB x.st.zn
def bigZn (z : Zn) : Bool := decide ((300 : Int) < (z.table.length : Int)) || (decide ((12 : Int) < (z.tail.length : Int)) || (lngB z.nm || (lngB z.form || (lngB z.first.nm || ((z.table.any fun t => lngB t.ty.nm) || (z.tail.any fun r => lngB r.nm || lngB r.lt))))))
def bigVV (x : VV) : Bool := decide ((5 : Int) < (x.zs.length : Int)) || (decide ((5 : Int) < (x.ls.length : Int)) || (lngB x.nm || (x.ls.any bigK || x.zs.any fun y => bigZn y.z)))
def fewB (L : List VV) (E : List Ent) : Bool := (decide ((E.length : Int) ≤ 12) && !E.any bigE) && (decide ((L.length : Int) ≤ 4) && !L.any bigVV)
theorem bigZn_parts {z : Zn} (h : bigZn z = false) : z.table.length ≤ 300 ∧ z.tail.length ≤ 12 ∧ z.form.size ≤ 60 := by
 unfold bigZn lngB at h
 simp at h
 omega
theorem few_ok {L : List VV} {E : List Ent} (h : fewB L E = true) : OkH L ∧ L.length ≤ 4 ∧ E.length ≤ 12 ∧ ∀ x ∈ L, x.zs.length ≤ 5 ∧ x.ls.length ≤ 5 := by
 unfold fewB at h
 simp only [Bool.and_eq_true, decide_eq_true_eq, Bool.not_eq_true', List.any_eq_false] at h
 obtain ⟨⟨h1, _⟩, h2, h3⟩ := h
 have hp : ∀ x ∈ L, (x.zs.length ≤ 5 ∧ x.ls.length ≤ 5) ∧ ∀ y ∈ x.zs, OkZ y := by
  intro x hx
  have h4 := h3 x hx
  unfold bigVV at h4
  simp only [Bool.not_eq_true, Bool.or_eq_false_iff, decide_eq_false_iff_not, List.any_eq_false] at h4
  refine ⟨by omega, fun y hy => ?_⟩
  have := bigZn_parts (by simpa using h4.2.2.2.2 y hy)
  exact ⟨by omega, by omega, by omega⟩
 refine ⟨⟨by omega, fun x hx => ⟨?_, ?_, (hp x hx).2⟩⟩, by omega, by omega, fun x hx => (hp x hx).1⟩
 ·have := (hp x hx).1; omega
 ·have := (hp x hx).1; omega
theorem fw1_any (s : ByteArray) (w : World) : Calls Tryz.prog 11 #[.string s] w fun e w' => e = .returned (.bool (lngB s)) ∧ w = w' := by
 unfold lngB
 go_enter Tryz.func11, Tryz.ntmps11
 go_wp2
 go_ret
 exact ⟨rfl, rfl⟩
def LongAt (w : World) (B : Nat) : Prop := B < w.heap.size ∧ w.cell? ⟨B, 0, none⟩ = some (.func (.func 11) #[] #[])
theorem LongAt.on {w W : World} {B : Nat} (h : LongAt w B) (hb : Below w.heap.size w W) : LongAt W B := ⟨Nat.lt_of_lt_of_le h.1 hb.size, (hb.cell (p := ⟨B, 0, none⟩) h.1).trans h.2⟩
theorem fw2_any (B : Nat) (w : World) (hB : LongAt w B) : PredBelow Tryz.prog 13 #[.pointer (some ⟨B, 0, none⟩)] (fun x : Ent => .agg (encEn x).toArray) bigE w := by
 intro W x hb
 obtain ⟨hBW, hc⟩ := hB.on hb
 unfold bigE
 show Calls Tryz.prog 13 #[.agg #[.string x.nm, .int .i64 x.st.at_, .string x.st.zn, .int .i64 x.st.gap, .int .i64 x.st.fold, .int .i64 x.ln], .pointer (some ⟨B, 0, none⟩)] W _
 have H1 := Lib.hid (fun W => fw1_any x.nm W)
 have H2 := Lib.hid (fun W => fw1_any x.st.zn W)
 cases h1 : lngB x.nm
 ·rw [h1] at H1
  clear h1
  go_enter Tryz.func13, Tryz.ntmps13
  go_wp2_with (first | (go_at_call 11; refine (H1.out _).mono ?_; rintro e w' ⟨rfl, rfl⟩; clear H1) | (go_at_call 11; refine (H2.out _).mono ?_; rintro e w' ⟨rfl, rfl⟩))
  go_ret
  exact ⟨ret1 (vbool (by simp)), hb.alloc hb.size _⟩
 ·rw [h1] at H1
  clear h1
  go_enter Tryz.func13, Tryz.ntmps13
  go_wp2_with (first | (go_at_call 11; refine (H1.out _).mono ?_; rintro e w' ⟨rfl, rfl⟩; clear H1))
  go_ret
  exact ⟨ret1 (vbool (by simp)), hb.alloc hb.size _⟩
theorem fw31_any (B : Nat) (w : World) (hB : LongAt w B) : PredBelow Tryz.prog 17 #[.pointer (some ⟨B, 0, none⟩)] (fun x : Lk => .agg (encK x).toArray) bigK w := by
 intro W x hb
 obtain ⟨hBW, hc⟩ := hB.on hb
 unfold bigK
 show Calls Tryz.prog 17 #[.agg #[.string x.nm, .string x.zn], .pointer (some ⟨B, 0, none⟩)] W _
 have H1 := Lib.hid (fun W => fw1_any x.nm W)
 have H2 := Lib.hid (fun W => fw1_any x.zn W)
 cases h1 : lngB x.nm
 ·rw [h1] at H1
  clear h1
  go_enter Tryz.func17, Tryz.ntmps17
  go_wp2_with (first | (go_at_call 11; refine (H1.out _).mono ?_; rintro e w' ⟨rfl, rfl⟩; clear H1) | (go_at_call 11; refine (H2.out _).mono ?_; rintro e w' ⟨rfl, rfl⟩))
  go_ret
  exact ⟨ret1 (vbool (by simp)), hb.alloc hb.size _⟩
 ·rw [h1] at H1
  clear h1
  go_enter Tryz.func17, Tryz.ntmps17
  go_wp2_with (first | (go_at_call 11; refine (H1.out _).mono ?_; rintro e w' ⟨rfl, rfl⟩; clear H1))
  go_ret
  exact ⟨ret1 (vbool (by simp)), hb.alloc hb.size _⟩
theorem fw321_any (B : Nat) (w : World) (hB : LongAt w B) : PredBelow Tryz.prog 21 #[.pointer (some ⟨B, 0, none⟩)] (fun x : Trn => .agg (Trn.cells x).toArray) (fun x => lngB x.ty.nm) w := by
 intro W x hb
 obtain ⟨hBW, hc⟩ := hB.on hb
 obtain ⟨xa, xt⟩ := x
 show Calls Tryz.prog 21 #[.agg #[.int .i64 xa, .int .i64 xt.off, .int .i64 xt.sv, .string xt.nm], .pointer (some ⟨B, 0, none⟩)] W _
 go_enter Tryz.func21, Tryz.ntmps21
 go_wp2_with (go_at_call 11; refine (fw1_any _ _).mono ?_; rintro e w' ⟨rfl, rfl⟩)
 go_ret
 exact ⟨rfl, hb.alloc hb.size _⟩
theorem fw322_any (B : Nat) (w : World) (hB : LongAt w B) : PredBelow Tryz.prog 23 #[.pointer (some ⟨B, 0, none⟩)] (fun x : Rule => .agg (Rule.cells x).toArray) (fun x => lngB x.nm || lngB x.lt) w := by
 intro W x hb
 obtain ⟨hBW, hc⟩ := hB.on hb
 show Calls Tryz.prog 23 #[.agg (Rule.cells x).toArray, .pointer (some ⟨B, 0, none⟩)] W fun e w' => e = .returned (.bool (lngB x.nm || lngB x.lt)) ∧ _
 unfold Rule.cells
 have H1 := Lib.hid (fun W => fw1_any x.nm W)
 have H2 := Lib.hid (fun W => fw1_any x.lt W)
 cases h1 : lngB x.nm
 ·rw [h1] at H1
  clear h1
  go_enter Tryz.func23, Tryz.ntmps23
  go_wp2_with (first | (go_at_call 11; refine (H1.out _).mono ?_; rintro e w' ⟨rfl, rfl⟩; clear H1) | (go_at_call 11; refine (H2.out _).mono ?_; rintro e w' ⟨rfl, rfl⟩))
  go_ret
  exact ⟨ret1 (vbool (by simp)), hb.alloc hb.size _⟩
 ·rw [h1] at H1
  clear h1
  go_enter Tryz.func23, Tryz.ntmps23
  go_wp2_with (first | (go_at_call 11; refine (H1.out _).mono ?_; rintro e w' ⟨rfl, rfl⟩; clear H1))
  go_ret
  exact ⟨ret1 (vbool (by simp)), hb.alloc hb.size _⟩
theorem none_cfK (A : Option Addr) (c : Nat) (g : Value) (w : World) : Calls Tryz.prog 16 #[.slice A 0 c, g] w fun e w' => e = .returned (.bool false) ∧ w = w' := by
 go_enter Tryz.func16, Tryz.ntmps16
 go_wp2_with (go_at_call 38; refine (none_ifK _ _ _ _).mono ?_; rintro e w' ⟨rfl, rfl⟩)
 go_ret
 exact ⟨rfl, rfl⟩
theorem cfK_any (q : Lk → Bool) (g : Nat) (lb : Array Value) (eg : ∀ args w, (callFunc g args).run Tryz.prog w = .ok (.enter g args) w) (v : Value) (l : List Lk) (w : World) (hp : PredBelow Tryz.prog g lb (fun x => .agg (encK x).toArray) q w) (hl : l.length ≤ 1000000) (hR : Rd encK 2 w v l) :
  Calls Tryz.prog 16 #[v, .func (.func g) #[] lb] w fun e w' => e = .returned (.bool (l.any q)) ∧ Below w.heap.size w w' := by
 rcases hR with ⟨rfl, A, c, rfl⟩ | ⟨b, off, c, rfl, hb, hc⟩
 ·exact (none_cfK A c _ w).mono fun e w' ⟨h1, h2⟩ => ⟨h1, h2 ▸ Below.refl _ _⟩
 ·have := Tryz.slices_ContainsFunc_f16 2 isAggK sizeOfK encK encK_len q g lb eg b off l.length c l w hp (Nat.le_refl _) (by omega) hb (fun j hj i v hv => hc j hj i v hv)
  rw [List.take_length] at this
  exact this
theorem aggT : ∀ w, (isAgg 68).run Tryz.prog w = .ok true w := fun _ => by kernel_rfl
theorem szT : ∀ w, (Go.sizeOf 68).run Tryz.prog w = .ok 4 w := fun _ => by kernel_rfl
theorem aggR : ∀ w, (isAgg 74).run Tryz.prog w = .ok true w := fun _ => by kernel_rfl
theorem szR : ∀ w, (Go.sizeOf 74).run Tryz.prog w = .ok 11 w := fun _ => by kernel_rfl
theorem noneT_if (A : Option Addr) (c : Nat) (g : Value) (w : World) : Calls Tryz.prog 40 #[.slice A 0 c, g] w fun e w' => e = .returned (.int .i64 (-1)) ∧ w = w' := by
 go_enter Tryz.func40, Tryz.ntmps40
 go_wp2
 go_loop [8] (fun i => i = .int .i64 0) (fun _ => 0)
 case atStart => rfl
 case round =>
  obtain rfl := hrel
  go_wp2
  go_ret
  exact ⟨rfl, rfl⟩
theorem noneT_cf (A : Option Addr) (c : Nat) (g : Value) (w : World) : Calls Tryz.prog 20 #[.slice A 0 c, g] w fun e w' => e = .returned (.bool false) ∧ w = w' := by
 go_enter Tryz.func20, Tryz.ntmps20
 go_wp2_with (go_at_call 40; refine (noneT_if _ _ _ _).mono ?_; rintro e w' ⟨rfl, rfl⟩)
 go_ret
 exact ⟨rfl, rfl⟩
theorem cfT_any (q : Trn → Bool) (g : Nat) (lb : Array Value) (eg : ∀ args w, (callFunc g args).run Tryz.prog w = .ok (.enter g args) w) (v : Value) (l : List Trn) (w : World) (hp : PredBelow Tryz.prog g lb (fun x => .agg (Trn.cells x).toArray) q w) (hl : l.length ≤ 1000000) (hR : Rd Trn.cells 4 w v l) :
  Calls Tryz.prog 20 #[v, .func (.func g) #[] lb] w fun e w' => e = .returned (.bool (l.any q)) ∧ Below w.heap.size w w' := by
 rcases hR with ⟨rfl, A, c, rfl⟩ | ⟨b, off, c, rfl, hb, hc⟩
 ·exact (noneT_cf A c _ w).mono fun e w' ⟨h1, h2⟩ => ⟨h1, h2 ▸ Below.refl _ _⟩
 ·have := Tryz.slices_ContainsFunc_f20 4 aggT szT Trn.cells trn_len q g lb eg b off l.length c l w hp (Nat.le_refl _) (by omega) hb (fun j hj i v hv => hc j hj i v hv)
  rw [List.take_length] at this
  exact this
theorem noneR_if (A : Option Addr) (c : Nat) (g : Value) (w : World) : Calls Tryz.prog 41 #[.slice A 0 c, g] w fun e w' => e = .returned (.int .i64 (-1)) ∧ w = w' := by
 go_enter Tryz.func41, Tryz.ntmps41
 go_wp2
 go_loop [8] (fun i => i = .int .i64 0) (fun _ => 0)
 case atStart => rfl
 case round =>
  obtain rfl := hrel
  go_wp2
  go_ret
  exact ⟨rfl, rfl⟩
theorem noneR_cf (A : Option Addr) (c : Nat) (g : Value) (w : World) : Calls Tryz.prog 22 #[.slice A 0 c, g] w fun e w' => e = .returned (.bool false) ∧ w = w' := by
 go_enter Tryz.func22, Tryz.ntmps22
 go_wp2_with (go_at_call 41; refine (noneR_if _ _ _ _).mono ?_; rintro e w' ⟨rfl, rfl⟩)
 go_ret
 exact ⟨rfl, rfl⟩
theorem cfR_any (q : Rule → Bool) (g : Nat) (lb : Array Value) (eg : ∀ args w, (callFunc g args).run Tryz.prog w = .ok (.enter g args) w) (v : Value) (l : List Rule) (w : World) (hp : PredBelow Tryz.prog g lb (fun x => .agg (Rule.cells x).toArray) q w) (hl : l.length ≤ 1000000) (hR : Rd Rule.cells 11 w v l) :
  Calls Tryz.prog 22 #[v, .func (.func g) #[] lb] w fun e w' => e = .returned (.bool (l.any q)) ∧ Below w.heap.size w w' := by
 rcases hR with ⟨rfl, A, c, rfl⟩ | ⟨b, off, c, rfl, hb, hc⟩
 ·exact (noneR_cf A c _ w).mono fun e w' ⟨h1, h2⟩ => ⟨h1, h2 ▸ Below.refl _ _⟩
 ·have := Tryz.slices_ContainsFunc_f22 11 aggR szR Rule.cells rule_len q g lb eg b off l.length c l w hp (Nat.le_refl _) (by omega) hb (fun j hj i v hv => hc j hj i v hv)
  rw [List.take_length] at this
  exact this
end Go.Proofs.YtdpbhjaicgkblaaGreatDoor
/- civiltimelaw53.few. -/
namespace Go.Proofs.YtdpbhjaicgkblaaGreatDoor
set_option linter.unusedSimpArgs false
set_option linter.unusedVariables false
open Go.ChangeShapes Go.WideShapes Go.ChangeAt Go.RowKit Go.Sort Go.Lib
set_option maxRecDepth 100000 in
set_option maxHeartbeats 3000000 in
theorem fw32_any (B : Nat) (w : World) (hB : LongAt w B) : PredBelow Tryz.prog 19 #[.pointer (some ⟨B, 0, none⟩)] (fun x : {x : ZV // GoodZ w x} => .agg (encZ x.1).toArray) (fun x => bigZn x.1.z) w := by
 intro W x hb
 obtain ⟨⟨z, vT, vR, ⟨A, c, rfl⟩, ⟨A', c', rfl⟩⟩, hgT, hgR⟩ := x
 dsimp only at hgT hgR
 have HL := Lib.hid (fun W (hb : Below w.heap.size w W) => hB.on hb)
 have HT := Lib.hid (fun (h : z.table.length ≤ 1000000) W (hb : Below w.heap.size w W) => cfT_any (fun x => lngB x.ty.nm) 21 _ (enters_of Tryz.func21 (by kernel_rfl) rfl) (.slice A z.table.length c) z.table W (fw321_any B W (hB.on hb)) h (hgT.on hb))
 have HR := Lib.hid (fun (h : z.tail.length ≤ 1000000) W (hb : Below w.heap.size w W) => cfR_any (fun x => lngB x.nm || lngB x.lt) 23 _ (enters_of Tryz.func23 (by kernel_rfl) rfl) (.slice A' z.tail.length c') z.tail W (fw322_any B W (hB.on hb)) h (hgR.on hb))
 have H1 := Lib.hid (fun W => fw1_any z.nm W)
 have H2 := Lib.hid (fun W => fw1_any z.form W)
 have H3 := Lib.hid (fun W => fw1_any z.first.nm W)
 show Calls Tryz.prog 19 #[.agg #[.string z.nm, .int .i64 z.first.off, .int .i64 z.first.sv, .string z.first.nm, .slice A z.table.length c, .slice A' z.tail.length c', .int .i64 z.off, .string z.form, .int .i64 z.year], .pointer (some ⟨B, 0, none⟩)] W fun e w' => e = .returned (.bool (bigZn z)) ∧ _
 clear hgT hgR
 have b0 := Blk.new W #[.string z.nm, .int .i64 z.first.off, .int .i64 z.first.sv, .string z.first.nm, .slice A z.table.length c, .slice A' z.tail.length c', .int .i64 z.off, .string z.form, .int .i64 z.year] 65
 have hB0 : Below w.heap.size w (W.alloc (.cells #[.string z.nm, .int .i64 z.first.off, .int .i64 z.first.sv, .string z.first.nm, .slice A z.table.length c, .slice A' z.tail.length c', .int .i64 z.off, .string z.form, .int .i64 z.year] 65)) := hb.alloc hb.size _
 unfold bigZn
 have v0 := blk_cl b0 0 _ rfl
 have v3 := blk_cl b0 3 _ rfl
 have v4 := blk_cl b0 4 _ rfl
 have v5 := blk_cl b0 5 _ rfl
 have v7 := blk_cl b0 7 _ rfl
 have vl := b0.lt
 obtain ⟨hl1, hl2⟩ := HL.out (W.alloc (.cells #[.string z.nm, .int .i64 z.first.off, .int .i64 z.first.sv, .string z.first.nm, .slice A z.table.length c, .slice A' z.tail.length c', .int .i64 z.off, .string z.form, .int .i64 z.year] 65)) hB0
 by_cases h1 : (300 : Int) < (z.table.length : Int)
 ·have d1 := decide_eq_true h1
  rw [d1]
  go_enter Tryz.func19, Tryz.ntmps19
  go_wp2
  go_ret
  exact ⟨rfl, hB0⟩
 have d1 := decide_eq_false h1
 rw [d1, Bool.false_or]
 by_cases h2 : (12 : Int) < (z.tail.length : Int)
 ·have d2 := decide_eq_true h2
  rw [d2]
  go_enter Tryz.func19, Tryz.ntmps19
  go_wp2
  go_ret
  exact ⟨rfl, hB0⟩
 have d2 := decide_eq_false h2
 rw [d2, Bool.false_or]
 have HT := Lib.hid (HT.out (by omega))
 have HR := Lib.hid (HR.out (by omega))
 generalize (z.table.any fun t => lngB t.ty.nm) = bT at *
 generalize (z.tail.any fun r => lngB r.nm || lngB r.lt) = bR at *
 generalize lngB z.nm = g1 at *
 generalize lngB z.form = g2 at *
 generalize lngB z.first.nm = g3 at *
 go_enter Tryz.func19, Tryz.ntmps19
 go_wp2_with fail
 generalize W.alloc (.cells #[.string z.nm, .int .i64 z.first.off, .int .i64 z.first.sv, .string z.first.nm, .slice A z.table.length c, .slice A' z.tail.length c', .int .i64 z.off, .string z.form, .int .i64 z.year] 65) = W0 at *
 refine (H1.out _).mono ?_
 rintro e w' ⟨rfl, rfl⟩
 cases g1
 case true =>
  go_wp2
  go_ret
  exact ⟨rfl, hB0⟩
 go_wp2_with fail
 refine (H2.out _).mono ?_
 rintro e w' ⟨rfl, rfl⟩
 cases g2
 case true =>
  go_wp2
  go_ret
  exact ⟨rfl, hB0⟩
 go_wp2_with fail
 refine (H3.out _).mono ?_
 rintro e w' ⟨rfl, rfl⟩
 cases g3
 case true =>
  go_wp2
  go_ret
  exact ⟨rfl, hB0⟩
 go_wp2_with fail
 refine (HT.out _ hB0).mono ?_
 rintro e w1 ⟨rfl, hb1⟩
 have hB1 := hB0.trans (hb1.mono hB0.size)
 have b1 := b0.below hb1 b0.lt
 clear v0 v3 v4 v5 v7 vl hl1 hl2
 cases bT
 case true =>
  go_wp2
  go_ret
  exact ⟨rfl, hB1⟩
 have v5 := blk_cl b1 5 _ rfl
 have vl := b1.lt
 obtain ⟨hl1, hl2⟩ := HL.out w1 hB1
 go_wp2_with fail
 refine (HR.out _ hB1).mono ?_
 rintro e w2 ⟨rfl, hb2⟩
 go_wp2
 go_ret
 exact ⟨ret1 (vbool (by simp)), hB1.trans (hb2.mono hB1.size)⟩
set_option maxRecDepth 100000 in
set_option maxHeartbeats 3000000 in
theorem fw3_any (B : Nat) (w : World) (hB : LongAt w B) : PredBelow Tryz.prog 15 #[.pointer (some ⟨B, 0, none⟩)] (fun x : {x : VV // GoodV w x} => .agg (encVV x.1).toArray) (fun x => bigVV x.1) w := by
 intro W x hb
 obtain ⟨⟨nm, zs, ls, vZ, vL, ⟨A, c, rfl⟩, ⟨A', c', rfl⟩⟩, hg⟩ := x
 have HL := Lib.hid (fun W (hb : Below w.heap.size w W) => hB.on hb)
 have HK := Lib.hid (fun (h : ls.length ≤ 1000000) W (hb : Below w.heap.size w W) => cfK_any bigK 17 _ (enters_of Tryz.func17 (by kernel_rfl) rfl) (.slice A' ls.length c') ls W (fw31_any B W (hB.on hb)) h (hg.l.on hb))
 have HZ := Lib.hid (fun (h : zs.length ≤ 1000000) W (hb : Below w.heap.size w W) => show Calls Tryz.prog 18 #[.slice A zs.length c, .func (.func 19) #[] #[.pointer (some ⟨B, 0, none⟩)]] W fun e w' => e = .returned (.bool (zs.any fun y => bigZn y.z)) ∧ Below W.heap.size W w' from by
  have hgz : ∀ y ∈ zs, GoodZ W y := fun y hy => (hg.g y hy).on hb
  have := cfZg (fun x : {x : ZV // GoodZ W x} => encZ x.1) (fun x => encZ_len x.1) (fun x => bigZn x.1.z) 19 #[.pointer (some ⟨B, 0, none⟩)] (enters_of Tryz.func19 (by kernel_rfl) rfl) (.slice A zs.length c) (lift zs hgz) W (fw32_any B W (hB.on hb)) (by rw [lift_len]; exact h) (lift_rd (hg.z.on hb) hgz)
  rwa [lift_any (fun y : ZV => bigZn y.z) zs hgz] at this)
 show Calls Tryz.prog 15 #[.agg #[.string nm, .slice A zs.length c, .slice A' ls.length c'], .pointer (some ⟨B, 0, none⟩)] W fun e w' => e = .returned (.bool (bigVV ⟨nm, zs, ls, .slice A zs.length c, .slice A' ls.length c', ⟨A, c, rfl⟩, ⟨A', c', rfl⟩⟩)) ∧ _
 clear hg
 have H1 := Lib.hid (fun W => fw1_any nm W)
 have b0 := Blk.new W #[.string nm, .slice A zs.length c, .slice A' ls.length c'] 54
 have hB0 : Below w.heap.size w (W.alloc (.cells #[.string nm, .slice A zs.length c, .slice A' ls.length c'] 54)) := hb.alloc hb.size _
 unfold bigVV
 dsimp only
 have v0 := blk_cl b0 0 _ rfl
 have v1 := blk_cl b0 1 _ rfl
 have v2 := blk_cl b0 2 _ rfl
 have vl := b0.lt
 obtain ⟨hl1, hl2⟩ := HL.out (W.alloc (.cells #[.string nm, .slice A zs.length c, .slice A' ls.length c'] 54)) hB0
 by_cases h1 : (5 : Int) < (zs.length : Int)
 ·have d1 := decide_eq_true h1
  rw [d1]
  go_enter Tryz.func15, Tryz.ntmps15
  go_wp2
  go_ret
  exact ⟨rfl, hB0⟩
 have d1 := decide_eq_false h1
 rw [d1, Bool.false_or]
 by_cases h2 : (5 : Int) < (ls.length : Int)
 ·have d2 := decide_eq_true h2
  rw [d2]
  go_enter Tryz.func15, Tryz.ntmps15
  go_wp2
  go_ret
  exact ⟨rfl, hB0⟩
 have d2 := decide_eq_false h2
 rw [d2, Bool.false_or]
 have HK := Lib.hid (HK.out (by omega))
 have HZ := Lib.hid (HZ.out (by omega))
 generalize ls.any bigK = bK at *
 generalize (zs.any fun y => bigZn y.z) = bZ at *
 generalize lngB nm = g1 at *
 go_enter Tryz.func15, Tryz.ntmps15
 go_wp2_with fail
 generalize W.alloc (.cells #[.string nm, .slice A zs.length c, .slice A' ls.length c'] 54) = W0 at *
 refine (H1.out _).mono ?_
 rintro e w' ⟨rfl, rfl⟩
 cases g1
 case true =>
  go_wp2
  go_ret
  exact ⟨rfl, hB0⟩
 go_wp2_with fail
 refine (HK.out _ hB0).mono ?_
 rintro e w1 ⟨rfl, hb1⟩
 have hB1 := hB0.trans (hb1.mono hB0.size)
 have b1 := b0.below hb1 b0.lt
 clear v0 v1 v2 vl hl1 hl2
 cases bK
 case true =>
  go_wp2
  go_ret
  exact ⟨rfl, hB1⟩
 have v1 := blk_cl b1 1 _ rfl
 have vl := b1.lt
 obtain ⟨hl1, hl2⟩ := HL.out w1 hB1
 go_wp2_with fail
 refine (HZ.out _ hB1).mono ?_
 rintro e w2 ⟨rfl, hb2⟩
 go_wp2
 go_ret
 exact ⟨ret1 (vbool (by simp)), hB1.trans (hb2.mono hB1.size)⟩
set_option maxRecDepth 100000 in
set_option maxHeartbeats 3000000 in
theorem few53_any (L : List VV) (E : List Ent) (vH vE : Value) (w : World) (hg : GoodH w vH L) (hE : Rd encEn 6 w vE E) : Calls Tryz.prog 5 #[.agg #[vH], vE] w fun e w' => e = .returned (.bool (fewB L E)) ∧ Below w.heap.size w w' := by
 have HE := Lib.hid (fun (h : E.length ≤ 1000000) B W (hl : LongAt W B) (hb : Below w.heap.size w W) => cfE_any bigE 13 _ (enters_of Tryz.func13 (by kernel_rfl) rfl) vE E W (fw2_any B W hl) h (hE.on hb))
 have HV := Lib.hid (fun (h : L.length ≤ 1000000) B W (hl : LongAt W B) (hb : Below w.heap.size w W) => show Calls Tryz.prog 14 #[vH, .func (.func 15) #[] #[.pointer (some ⟨B, 0, none⟩)]] W fun e w' => e = .returned (.bool (L.any bigVV)) ∧ Below W.heap.size W w' from by
  have hgv : ∀ y ∈ L, GoodV W y := fun y hy => (hg.g y hy).on hb
  have := cfVg (fun x : {x : VV // GoodV W x} => encVV x.1) (fun x => encVV_len x.1) (fun x => bigVV x.1) 15 #[.pointer (some ⟨B, 0, none⟩)] (enters_of Tryz.func15 (by kernel_rfl) rfl) vH (lift L hgv) W (fw3_any B W hl) (by rw [lift_len]; exact h) (lift_rd (hg.r.on hb) hgv)
  rwa [lift_any bigVV L hgv] at this)
 obtain ⟨A, c, rfl⟩ := rd_vf hg.r
 obtain ⟨A', c', rfl⟩ := rd_vf hE
 clear hg hE
 unfold fewB
 have b0 := (Blk.new w #[.slice A L.length c] 28).alloc (.cells #[.func (.func 11) #[] #[]] 47)
 have b1 := Blk.new (w.alloc (.cells #[.slice A L.length c] 28)) #[.func (.func 11) #[] #[]] 47
 rw [World.size_alloc] at b1
 have hB0 : Below w.heap.size w ((w.alloc (.cells #[.slice A L.length c] 28)).alloc (.cells #[.func (.func 11) #[] #[]] 47)) := ((Below.refl _ _).alloc (Nat.le_refl _) _).alloc (by simp) _
 have HLA := Lib.hid (fun W (hb : Blk W (w.heap.size + 1) #[.func (.func 11) #[] #[]] 47) => show LongAt W (w.heap.size + 1) from ⟨hb.lt, hb.cell 0 rfl⟩)
 by_cases h1 : (E.length : Int) ≤ 12
 case neg =>
  have d1 : decide ((12 : Int) < (E.length : Int)) = true := decide_eq_true (by omega)
  rw [decide_eq_false h1]
  go_enter Tryz.func5, Tryz.ntmps5
  go_wp2
  go_ret
  exact ⟨rfl, hB0⟩
 have d1 : decide ((12 : Int) < (E.length : Int)) = false := decide_eq_false (by omega)
 rw [decide_eq_true h1, Bool.true_and]
 have HE := Lib.hid (HE.out (by omega))
 by_cases h2 : (L.length : Int) ≤ 4
 case neg =>
  have d2 : decide ((L.length : Int) ≤ 4) = false := decide_eq_false h2
  rw [d2]
  generalize E.any bigE = bE at *
  go_enter Tryz.func5, Tryz.ntmps5
  go_wp2_with fail
  generalize (w.alloc (.cells #[.slice A L.length c] 28)).alloc (.cells #[.func (.func 11) #[] #[]] 47) = W at *
  refine (HE.out _ W (HLA.out W b1) hB0).mono ?_
  rintro e w1 ⟨rfl, hb1⟩
  have hB1 := hB0.trans (hb1.mono hB0.size)
  have k0 := b0.below hb1 b0.lt
  clear b0 b1
  have v0 := blk_cl k0 0 _ rfl
  have vl := k0.lt
  cases bE
  ·go_wp2
   go_ret
   exact ⟨ret1 (vbool (by simp)), hB1⟩
  ·go_wp2
   go_ret
   exact ⟨ret1 (vbool (by simp)), hB1⟩
 have d2 : decide ((L.length : Int) ≤ 4) = true := decide_eq_true h2
 rw [d2, Bool.true_and]
 have HV := Lib.hid (HV.out (by omega))
 generalize E.any bigE = bE at *
 generalize L.any bigVV = bV at *
 go_enter Tryz.func5, Tryz.ntmps5
 go_wp2_with fail
 generalize (w.alloc (.cells #[.slice A L.length c] 28)).alloc (.cells #[.func (.func 11) #[] #[]] 47) = W at *
 refine (HE.out _ W (HLA.out W b1) hB0).mono ?_
 rintro e w1 ⟨rfl, hb1⟩
 have hB1 := hB0.trans (hb1.mono hB0.size)
 have k0 := b0.below hb1 b0.lt
 have k1 := b1.below hb1 b1.lt
 clear b0 b1
 cases bE
 case true =>
  go_wp2
  go_ret
  exact ⟨ret1 (vbool (by simp)), hB1⟩
 have v0 := blk_cl k0 0 _ rfl
 have vl := k0.lt
 go_wp2_with fail
 refine (HV.out _ w1 (HLA.out w1 k1) hB1).mono ?_
 rintro e w2 ⟨rfl, hb2⟩
 go_wp2
 go_ret
 exact ⟨ret1 (vbool (by simp)), hB1.trans (hb2.mono hB1.size)⟩
end Go.Proofs.YtdpbhjaicgkblaaGreatDoor

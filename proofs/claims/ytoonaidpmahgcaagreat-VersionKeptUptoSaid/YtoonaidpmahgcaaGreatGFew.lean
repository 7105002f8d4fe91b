/- Joined by merge.py: FewL, FewA, FewB. -/
import Derived.Test.YtoonaidpmahgcaaGreatGHis
import Derived.Test.YtoonaidpmahgcaaGreatGStm
/- Lists of what is good; ContainsFunc at zones and versions. -/
namespace Go.Proofs.YtoonaidpmahgcaaGreat
set_option linter.unusedSimpArgs false
set_option linter.unusedVariables false
open Go.ChangeShapes Go.WideShapes Go.ChangeAt Go.RowKit Go.Sort Go.Lib

/-! lists of what is good -/
def lift {α : Type} {p : α → Prop} (l : List α) (h : ∀ x ∈ l, p x) : List {x // p x} := l.pmap Subtype.mk h
theorem lift_len {α : Type} {p : α → Prop} (l : List α) (h : ∀ x ∈ l, p x) : (lift l h).length = l.length := List.length_pmap
theorem lift_any {α : Type} {p : α → Prop} (q : α → Bool) : ∀ (l : List α) (h : ∀ x ∈ l, p x), (lift l h).any (fun x => q x.1) = l.any q
  | [], _ => rfl
  | a :: r, h => by
    show (q a || (lift r _).any _) = (q a || r.any q)
    rw [lift_any q r]
theorem lift_rd {α : Type} [Inhabited α] {p : α → Prop} [Inhabited {x // p x}] {enc : α → List Value} {k : Nat} {w : World} {v : Value} {l : List α} (hR : Rd enc k w v l) (h : ∀ x ∈ l, p x) : Rd (fun x : {x // p x} => enc x.1) k w v (lift l h) := by
  rcases hR with ⟨rfl, A, c, rfl⟩ | ⟨b, off, c, rfl, hb, hc⟩
  · exact .inl ⟨rfl, A, c, rfl⟩
  · refine .inr ⟨b, off, c, by rw [lift_len], hb, fun j hj i u hu => ?_⟩
    have hj2 : j < l.length := by rwa [lift_len] at hj
    have e : ((lift l h)[j]!).1 = l[j]! := by
      rw [getElem!_pos (lift l h) j hj, getElem!_pos l j hj2]
      simp [lift]
    exact hc j hj2 i u (by rw [← e]; exact hu)
instance (w : World) : Inhabited {x : VV // GoodV w x} := ⟨⟨default, .inl ⟨rfl, none, 0, rfl⟩, (fun y hy => by cases hy), .inl ⟨rfl, none, 0, rfl⟩⟩⟩
instance (w : World) : Inhabited {x : ZV // GoodZ w x} := ⟨⟨default, .inl ⟨rfl, none, 0, rfl⟩, .inl ⟨rfl, none, 0, rfl⟩⟩⟩
theorem none_cfV (A : Option Addr) (c : Nat) (g : Value) (w : World) : Calls Tryz.prog 88 #[.slice A 0 c, g] w fun e w' => e = .returned (.bool false) ∧ w = w' := by
  go_enter Tryz.func88, Tryz.ntmps88
  go_wp2_with (go_at_call 159; refine (none_ifV _ _ _ _).mono ?_; rintro e w' ⟨rfl, rfl⟩)
  go_ret
  exact ⟨rfl, rfl⟩
theorem cfVg {α : Type} [Inhabited α] (enc : α → List Value) (hn : ∀ x, (enc x).length = 3) (q : α → Bool) (g : Nat) (lb : Array Value) (eg : ∀ args w, (callFunc g args).run Tryz.prog w = .ok (.enter g args) w) (v : Value) (l : List α) (w : World) (hp : PredBelow Tryz.prog g lb (fun x => .agg (enc x).toArray) q w) (hl : l.length ≤ 1000000) (hR : Rd enc 3 w v l) :
    Calls Tryz.prog 88 #[v, .func (.func g) #[] lb] w fun e w' => e = .returned (.bool (l.any q)) ∧ Below w.heap.size w w' := by
  rcases hR with ⟨rfl, A, c, rfl⟩ | ⟨b, off, c, rfl, hb, hc⟩
  · exact (none_cfV A c _ w).mono fun e w' ⟨h1, h2⟩ => ⟨h1, h2 ▸ Below.refl _ _⟩
  · have := Tryz.slices_ContainsFunc_f88 3 isAggV sizeOfV enc hn q g lb eg b off l.length c l w hp (Nat.le_refl _) (by omega) hb (fun j hj i v hv => hc j hj i v hv)
    rw [List.take_length] at this
    exact this

end Go.Proofs.YtoonaidpmahgcaaGreat

/- civiltimelaw53.few: its closures. -/
namespace Go.Proofs.YtoonaidpmahgcaaGreat
set_option linter.unusedSimpArgs false
set_option linter.unusedVariables false
open Go.ChangeShapes Go.WideShapes Go.ChangeAt Go.RowKit Go.Sort Go.Lib

/-- the box of long -/
def LongAt (w : World) (B : Nat) : Prop := B < w.heap.size ∧ w.cell? ⟨B, 0, none⟩ = some (.func (.func 85) #[] #[])
theorem LongAt.on {w W : World} {B : Nat} (h : LongAt w B) (hb : Below w.heap.size w W) : LongAt W B := ⟨Nat.lt_of_lt_of_le h.1 hb.size, (hb.cell (p := ⟨B, 0, none⟩) h.1).trans h.2⟩
end Go.Proofs.YtoonaidpmahgcaaGreat

/- civiltimelaw53.few. -/
namespace Go.Proofs.YtoonaidpmahgcaaGreat
set_option linter.unusedSimpArgs false
set_option linter.unusedVariables false
open Go.ChangeShapes Go.WideShapes Go.ChangeAt Go.RowKit Go.Sort Go.Lib

end Go.Proofs.YtoonaidpmahgcaaGreat

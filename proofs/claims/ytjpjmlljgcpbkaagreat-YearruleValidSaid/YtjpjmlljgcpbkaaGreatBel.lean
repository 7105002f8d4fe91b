/- A region that draws its order, whose operations only read, and whose callees make memory and turn nothing that was there. -/
import Derived.Test.YtjpjmlljgcpbkaaGreatCivil
namespace Go.Proofs.YtjpjmlljgcpbkaaGreat
set_option linter.unusedSimpArgs false
set_option linter.unusedVariables false
open Go.RowKit

/-- a world in which nothing below a block has turned -/
structure Bel (B : Nat) (w : World) where
  w1 : World
  h : Below B w w1
instance (B : Nat) (w : World) : Inhabited (Bel B w) := ⟨⟨w, Below.refl B w⟩⟩
theorem wp_region_bel {P : Program} {id : Nat} {Q : Exit → Act → World → Prop} {a : Act} {w : World} {l : List Oper} (hm : P.follows .mixedOrders = true) (hB : Region.lexB .any l.toArray = true)
    (h : wpQuiet P l.toArray (fun w' => ∃ p : Bel w.heap.size w, w' = p.w1) (fun a' => ∀ w', (∃ p : Bel w.heap.size w, w' = p.w1) → Q .normal a' w') l a) : (Code.region id l.toArray true).wp P Q a w :=
  wp_region_quiet (C := fun w' => ∃ p : Bel w.heap.size w, w' = p.w1) hm hB ⟨⟨w.drewN 1, below_drewN (Below.refl _ _) 1⟩, rfl⟩ (by simpa using h)
theorem bel_of {P : Program} {f : FuncId} {args : Array Value} {B : Nat} {w : World} {p : Bel B w} {v : Value} (hB : B ≤ w.heap.size)
    (h : Calls P f args p.w1 fun e w' => e = .returned v ∧ Below p.w1.heap.size p.w1 w') : Calls P f args p.w1 fun e w'' => e = .returned v ∧ ∃ q : Bel B w, w'' = q.w1 :=
  h.mono fun _ w'' ⟨he, hb⟩ => ⟨he, ⟨w'', p.h.trans (hb.mono (Nat.le_trans hB p.h.size))⟩, rfl⟩
theorem bel_cell {B : Nat} {w : World} (p : Bel B w) : ∀ b o, b < B → p.w1.cell? ⟨b, o, none⟩ = w.cell? ⟨b, o, none⟩ := (bcell p.h).1

end Go.Proofs.YtjpjmlljgcpbkaaGreat

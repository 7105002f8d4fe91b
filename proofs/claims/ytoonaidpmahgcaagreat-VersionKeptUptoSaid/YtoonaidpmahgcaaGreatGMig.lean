/- Joined by merge.py: MigL, MigW2, MigW3, MigW3b, MigW4. -/
import Derived.Test.YtoonaidpmahgcaaGreatGStm
import Derived.Test.YtoonaidpmahgcaaGreatGHis
import Derived.Deep.DeepCutAuto
import Derived.Deep.CutRange
/- What migrate.Report makes of entries, in plain words. -/
namespace Go.Proofs.YtoonaidpmahgcaaGreat
set_option linter.unusedSimpArgs false
set_option linter.unusedVariables false
open Go.ChangeShapes Go.WideShapes Go.ChangeAt Go.RowKit Go.Sort Go.Lib

/-- a migration -/
structure Mig where
  en : Int
  kd : Int
  od : Int
  nw : Int
instance : Inhabited Mig := ⟨⟨0, 0, 0, 0⟩⟩
def encNm (s : ByteArray) : List Value := [.string s]
theorem encNm_len (s : ByteArray) : (encNm s).length = 1 := rfl
theorem encNm_one (s : ByteArray) : ∀ u ∈ encNm s, u.oneCell' = true := by
  intro v hv
  obtain rfl := List.mem_singleton.1 hv
  rfl
end Go.Proofs.YtoonaidpmahgcaaGreat

/- version.Names; slices.Contains at strings; migrate.given. -/
namespace Go.Proofs.YtoonaidpmahgcaaGreat
set_option linter.unusedSimpArgs false
set_option linter.unusedVariables false
open Go.ChangeShapes Go.WideShapes Go.ChangeAt Go.RowKit Go.Sort Go.Lib

theorem infoStr : (Tryz.prog.info? 9).map (fun i => (i.zero, i.size, i.bytes)) = some (some (.string ⟨#[]⟩), 1, 16) := by kernel_rfl
theorem has_str (v : Value) (ns : List ByteArray) (x : ByteArray) (w : World) (hl : ns.length ≤ 1000000) (hR : Rd encNm 1 w v ns) :
    Calls Tryz.prog 38 #[v, .string x] w fun e w' => e = .returned (.bool (memB x ns)) ∧ w' = w := by
  rcases hR with ⟨rfl, A, c, rfl⟩ | ⟨b, off, c, rfl, hb, hc⟩
  · refine (Tryz.slices_Contains_string_empty _ _ _ _).mono ?_
    rintro e w' ⟨rfl, rfl⟩
    exact ⟨rfl, rfl⟩
  · have h := Tryz.slices_Contains_string b off ns.length c ns x w (Nat.le_refl _) (by omega) (fun j hj => by
      have := hc j hj 0 (.string ns[j]!) rfl
      simpa [getElem!_pos ns j hj, hj] using this)
    rw [List.take_length] at h
    refine h.mono ?_
    rintro e w' ⟨rfl, rfl⟩
    refine ⟨ret1 (vbool ?_), rfl⟩
    rw [Bool.eq_iff_iff, Lib.containsS_iff, memB_iff]
end Go.Proofs.YtoonaidpmahgcaaGreat

/- migrate.start. -/
namespace Go.Proofs.YtoonaidpmahgcaaGreat
set_option linter.unusedSimpArgs false
set_option linter.unusedVariables false
open Go.ChangeShapes Go.WideShapes Go.ChangeAt Go.RowKit Go.Sort Go.Lib

end Go.Proofs.YtoonaidpmahgcaaGreat

/- migrate.change. -/
namespace Go.Proofs.YtoonaidpmahgcaaGreat
set_option linter.unusedSimpArgs false
set_option linter.unusedVariables false
open Go.ChangeShapes Go.WideShapes Go.ChangeAt Go.RowKit Go.Sort Go.Lib

theorem blk_n0 (W : World) (cs : Array Value) (T : TypeId) : Blk (W.alloc (.cells cs T)).drew W.heap.size cs T := Blk.new W cs T
end Go.Proofs.YtoonaidpmahgcaaGreat

/- migrate.Report. -/
namespace Go.Proofs.YtoonaidpmahgcaaGreat
set_option linter.unusedSimpArgs false
set_option linter.unusedVariables false
open Go.ChangeShapes Go.WideShapes Go.ChangeAt Go.RowKit Go.Sort Go.Lib

end Go.Proofs.YtoonaidpmahgcaaGreat

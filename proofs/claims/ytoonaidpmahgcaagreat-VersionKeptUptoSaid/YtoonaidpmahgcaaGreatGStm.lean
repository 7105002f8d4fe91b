/- Joined by merge.py: StmW, StmR, MigP. -/
import Derived.Test.YtoonaidpmahgcaaGreatGHis
import Derived.Test.YtoonaidpmahgcaaGreatJLocW10
/- stamp.Valid, stamp.resolve, stamp.Resolve. -/
namespace Go.Proofs.YtoonaidpmahgcaaGreat
set_option linter.unusedSimpArgs false
set_option linter.unusedVariables false
open Go.ChangeShapes Go.WideShapes Go.ChangeAt Go.RowKit Go.Sort Go.Lib

/-- a stamp -/
structure Stm where
  at_ : Int
  zn : ByteArray
  gap : Int
  fold : Int
instance : Inhabited Stm := ⟨⟨0, ⟨#[]⟩, 0, 0⟩⟩
end Go.Proofs.YtoonaidpmahgcaaGreat

/- stamp.resolve, stamp.Resolve. -/
namespace Go.Proofs.YtoonaidpmahgcaaGreat
set_option linter.unusedSimpArgs false
set_option linter.unusedVariables false
open Go.ChangeShapes Go.WideShapes Go.ChangeAt Go.RowKit Go.Sort Go.Lib

end Go.Proofs.YtoonaidpmahgcaaGreat

/- Entries as data; value.Valid at texts. -/
namespace Go.Proofs.YtoonaidpmahgcaaGreat
set_option linter.unusedSimpArgs false
set_option linter.unusedVariables false
open Go.ChangeShapes Go.WideShapes Go.ChangeAt Go.RowKit Go.Sort Go.Lib

/-- an entry -/
structure Ent where
  nm : ByteArray
  st : Stm
  ln : Int
instance : Inhabited Ent := ⟨⟨⟨#[]⟩, default, 0⟩⟩
end Go.Proofs.YtoonaidpmahgcaaGreat

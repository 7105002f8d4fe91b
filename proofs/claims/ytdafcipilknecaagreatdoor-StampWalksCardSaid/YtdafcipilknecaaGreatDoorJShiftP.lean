/- A gap that is alone: where the policies lead. No program in sight. -/
import Derived.Test.YtdafcipilknecaaGreatDoorGLa
namespace Go.Proofs.YtdafcipilknecaaGreatDoor
set_option linter.unusedSimpArgs false
set_option linter.unusedVariables false
open Go.Sort
structure Alone (z : Zn) (x : Trn) : Prop where
 v : z.valid = true
 lo : -62135596800 + 374400 ≤ x.at_
 hi : x.at_ ≤ 253402300800 - 374400
 one : z.betF (x.at_ - 187200) (x.at_ + 187200) = [x]
structure GapHere (z : Zn) (x : Trn) (l o : Int) : Prop where
 a : Alone z x
 oe : o = z.offF (x.at_ - 1)
 l0 : x.at_ + o ≤ l
 l1 : l < x.at_ + x.ty.off
def Zn.ofV (z : Zn) (t : Int) : Int × Int := if z.valid = false then (0, 1) else if inTB t = false then (0, 2) else if inTB (t + z.offF t) = false then (0, 2) else (t + z.offF t, 0)
end Go.Proofs.YtdafcipilknecaaGreatDoor

/- How lists of small numbers lie in cells. -/
import Derived.Test.YtoonaidpmahgcaaGreatGBase
namespace Go.Proofs.YtoonaidpmahgcaaGreat
set_option linter.unusedSimpArgs false
set_option linter.unusedVariables false
def encU (x : Int) : List Value := [.int .u32 x]
def encJ (x : Int) : List Value := [.int .i32 x]
end Go.Proofs.YtoonaidpmahgcaaGreat

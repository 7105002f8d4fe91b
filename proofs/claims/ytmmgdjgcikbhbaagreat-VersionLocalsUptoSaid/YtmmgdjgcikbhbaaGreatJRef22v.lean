/- The reference's validity of a zone is the zone's validity. -/
import Derived.Test.YtmmgdjgcikbhbaaGreatGRp
namespace Go.Proofs.YtmmgdjgcikbhbaaGreat
set_option linter.unusedSimpArgs false
set_option linter.unusedVariables false
open Go.ChangeShapes Go.WideShapes Go.ChangeAt Go.RowKit
theorem Zz55 (z:Zn) (vT vR:Value) (w:World) (hT:Rd Trn.cells 4 w vT z.table) (hR:Rd Rule.cells 11 w vR z.tail) (hfs:z.form.size≤2000000) (hll:z.tail.length≤12) :
  Calls Tryz.prog 63 #[z.v vT vR] w fun e w'=>e=.returned (.bool z.valid)∧Below w.heap.size w w':=by
 cases h:z.valid
 ·refine (r22_Valid z vT vR w hT hR hfs (.inl hll)).mono ?_
  rintro e w' ⟨b,h1,h3,h2⟩
  cases b
  ·exact ⟨h1,h2⟩
  rw [h3 rfl] at h;cases h
 exact r22_ValidP z vT vR w hT hR hfs hll h
end Go.Proofs.YtmmgdjgcikbhbaaGreat

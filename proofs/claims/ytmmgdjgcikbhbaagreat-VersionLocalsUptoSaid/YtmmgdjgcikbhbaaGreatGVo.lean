/- Joined by merge.py: EncU, OpenUs. -/
import Derived.Test.YtmmgdjgcikbhbaaGreatGOpen
/- How lists of small numbers lie in cells. -/
namespace Go.Proofs.YtmmgdjgcikbhbaaGreat
set_option linter.unusedSimpArgs false
set_option linter.unusedVariables false
/- Lists of small numbers that come in, opened to plain data. -/
open Go.ChangeShapes Go.WideShapes Go.ChangeAt Go.RowKit Go.Deep
theorem cellsSpan:Tryz.prog.cellsOf 29=2:=by kernel_rfl
set_option maxRecDepth 100000 in
theorem tr_span {w:World} {cs:List Value} (h:Tr Tryz.prog w 29 cs):∃ a b:Int,cs=[.int .i64 a,.int .i64 b]:=by
 obtain ⟨hl,hf⟩:=h.struct Tryz.underlying29
 rw [cellsSpan] at hl
 match cs,hl with
 | [c0,c1],_ =>
  have f0:Tr Tryz.prog w 3 (([c0,c1].drop 0).take (Tryz.prog.cellsOf 3)):=hf 0 _ rfl
  rw [cellsInt] at f0
  have f1:Tr Tryz.prog w 3 (([c0,c1].drop 1).take (Tryz.prog.cellsOf 3)):=hf 1 _ rfl
  rw [cellsInt] at f1
  obtain ⟨a,e0,_⟩:=f0.int Tryz.underlying3
  obtain ⟨b,e1,_⟩:=f1.int Tryz.underlying3
  simp at e0 e1
  exact ⟨a,b,by rw [e0,e1]⟩
end Go.Proofs.YtmmgdjgcikbhbaaGreat

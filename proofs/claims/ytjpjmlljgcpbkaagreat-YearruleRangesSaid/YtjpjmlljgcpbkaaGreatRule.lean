/- Rules as plain data: which are valid, and their events. No program in sight. -/
import Derived.Test.YtjpjmlljgcpbkaaGreatPlain
namespace Go.Proofs.YtjpjmlljgcpbkaaGreat
set_option linter.unusedSimpArgs false
set_option linter.unusedVariables false

structure Rule where
  nm : ByteArray
  fr : Int
  to : Int
  mo : Int
  k : Int
  wk : Int
  d : Int
  at_ : Int
  cl : Int
  sv : Int
  lt : ByteArray
instance : Inhabited Rule := ⟨⟨⟨#[]⟩, 0, 0, 0, 0, 0, 0, 0, 0, 0, ⟨#[]⟩⟩⟩

/-- a rule as it lies in memory -/
def Rule.cells (r : Rule) : List Value := [.string r.nm, .int .i64 r.fr, .int .i64 r.to, .int .i64 r.mo, .int .i64 r.k, .int .i64 r.wk, .int .i64 r.d, .int .i64 r.at_, .int .i64 r.cl, .int .i64 r.sv, .string r.lt]
def Rule.v (r : Rule) : Value := .agg r.cells.toArray
theorem Rule.len (r : Rule) : r.cells.length = 11 := rfl

/-- the conditions on a rule beyond its texts -/
def Rule.ok (r : Rule) : Bool :=
  decide (1 ≤ r.fr) && (decide (r.fr ≤ r.to) && (decide (r.to ≤ 9999) && (Cv.fitsB r.mo r.k r.wk r.d && (decide (0 ≤ r.at_) && (decide (r.at_ ≤ 93600) && (decide (1 ≤ r.cl) && (decide (r.cl ≤ 3) && (r.sv.tmod 60 == 0 && (decide (-10800 ≤ r.sv) && decide (r.sv ≤ 10800))))))))))
/-- whether a rule is valid -/
def Rule.valid (r : Rule) : Bool := Cv.nameZ r.nm && (decide (r.lt.size ≤ 8) && (Cv.lettersB [] r.lt.data.toList && r.ok))

structure Rule.Ok (r : Rule) : Prop where
  fr : 1 ≤ r.fr
  to : r.fr ≤ r.to
  max : r.to ≤ 9999
  fits : Cv.fitsB r.mo r.k r.wk r.d = true
  at0 : 0 ≤ r.at_
  at1 : r.at_ ≤ 93600
  cl0 : 1 ≤ r.cl
  cl1 : r.cl ≤ 3
  sv : r.sv.tmod 60 = 0
  sv0 : -10800 ≤ r.sv
  sv1 : r.sv ≤ 10800
theorem Rule.ok_iff (r : Rule) : r.ok = true ↔ r.Ok := by
  unfold Rule.ok
  simp only [Bool.and_eq_true, decide_eq_true_eq, beq_iff_eq]
  exact ⟨fun ⟨a, b, c, d, e, f, g, h, i, j, k⟩ => ⟨a, b, c, d, e, f, g, h, i, j, k⟩, fun ⟨a, b, c, d, e, f, g, h, i, j, k⟩ => ⟨a, b, c, d, e, f, g, h, i, j, k⟩⟩
theorem Rule.valid_ok {r : Rule} (h : r.valid = true) : r.Ok := by
  unfold Rule.valid at h
  simp only [Bool.and_eq_true] at h
  exact r.ok_iff.1 h.2.2.2

/-- the day of the rule's On in a year, and its error -/
def Rule.day (r : Rule) (y : Int) : Int × Int := Cv.dayF y r.mo r.k r.wk r.d
/-- whether a valid rule has an event in a year -/
def Rule.has (r : Rule) (y : Int) : Bool := decide (r.fr ≤ y ∧ y ≤ r.to) && (r.day y).2 == 0
/-- the nominal local time of the event -/
def Rule.loc (r : Rule) (y : Int) : Int := (r.day y).1 * 86400 + r.at_
/-- At: the nominal local time, and the error -/
def Rule.at (r : Rule) (y : Int) : Int × Int := if r.valid = false then (0, 1) else if r.has y = false then (0, 7) else (r.loc y, 0)
/-- Active -/
def Rule.active (r : Rule) (y : Int) : Bool := r.valid && r.has y

end Go.Proofs.YtjpjmlljgcpbkaaGreat

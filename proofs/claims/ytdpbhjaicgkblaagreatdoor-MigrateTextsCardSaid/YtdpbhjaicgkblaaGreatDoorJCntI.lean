/- Plain: a date has one number. -/
import Derived.Test.YtdpbhjaicgkblaaGreatDoorGIq
namespace Go.Proofs.YtdpbhjaicgkblaaGreatDoor
set_option linter.unusedSimpArgs false
set_option linter.unusedVariables false
theorem count_inj {y m d y' m' d' : Int} (h : Cv.validB y m d = true) (h' : Cv.validB y' m' d' = true) (he : Cv.count y m d = Cv.count y' m' d') : y = y' ∧ m = m' ∧ d = d' := by
 obtain ⟨a1, a2, a3, a4, a5, a6⟩ := Cv.validB_iff.1 h
 obtain ⟨b1, b2, b3, b4, b5, b6⟩ := Cv.validB_iff.1 h'
 obtain ⟨g1, g2, _⟩ := day_year h
 obtain ⟨k1, k2, _⟩ := day_year h'
 obtain rfl : y = y' := by
  rcases Int.lt_trichotomy y y' with q | q | q
  ·have := first_many (y := y + 1) (by omega) (y' - (y + 1)).toNat (by omega)
   rw [show y + 1 + ((y' - (y + 1)).toNat : Int) = y' by omega] at this
   omega
  ·exact q
  ·have := first_many (y := y' + 1) (by omega) (y - (y' + 1)).toNat (by omega)
   rw [show y' + 1 + ((y - (y' + 1)).toNat : Int) = y by omega] at this
   omega
 have e1 := Cv.first_ahead ⟨a1, a2⟩ a3 a4 d
 have e2 := Cv.first_ahead ⟨a1, a2⟩ b3 b4 d'
 have l1 := Cv.lenF_in (y := y) (m := m) ⟨a1, a2, a3, a4⟩
 have l2 := Cv.lenF_in (y := y) (m := m') ⟨a1, a2, b3, b4⟩
 have s1 := ahead_succ y a3
 have s2 := ahead_succ y b3
 obtain rfl : m = m' := by
  rcases Int.lt_trichotomy m m' with q | q | q
  ·have := ahead_mono y (show m.toNat ≤ (m' - 1).toNat by omega)
   omega
  ·exact q
  ·have := ahead_mono y (show m'.toNat ≤ (m - 1).toNat by omega)
   omega
 exact ⟨rfl, rfl, by omega⟩
end Go.Proofs.YtdpbhjaicgkblaaGreatDoor

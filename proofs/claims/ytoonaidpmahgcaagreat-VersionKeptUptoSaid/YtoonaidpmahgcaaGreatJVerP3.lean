/- Resolutions are bounded. No program in sight. -/
import Derived.Test.YtoonaidpmahgcaaGreatJVerP2
namespace Go.Proofs.YtoonaidpmahgcaaGreat
set_option linter.unusedSimpArgs false
set_option linter.unusedVariables false

theorem inst_bd {z : Zn} (hv : z.valid = true) {l : Int} {i : Nat} (hi : i < (z.insts l).length) : -62135596800 ≤ (z.insts l)[i]! ∧ (z.insts l)[i]! < 253402300800 := by
  have h := ((mem_insts hv).1 (List.getElem_mem hi)).1
  rw [getElem!_pos _ i hi]
  exact h
theorem res_bd (z : Zn) (l g f : Int) : -253402300800 ≤ (z.resV l g f).1 ∧ (z.resV l g f).1 ≤ 253402300800 := by
  unfold Zn.resV
  split
  · dsimp only; omega
  · rename_i h
    have hv : z.valid = true := by
      cases hz : z.valid
      · exact absurd (.inl hz) h
      · rfl
    split
    · dsimp only; omega
    · unfold Zn.resF
      split
      · rename_i h1
        have := inst_bd hv (l := l) (i := 0) (by omega)
        dsimp only; omega
      · split
        · rename_i h2
          have a0 := inst_bd hv (l := l) (i := 0) (by omega)
          have a1 := inst_bd hv (l := l) (i := (z.insts l).length - 1) (by omega)
          split
          · dsimp only; omega
          · split
            · dsimp only; omega
            · dsimp only; omega
        · split
          · dsimp only; omega
          · split
            · dsimp only; omega
            · split
              · rename_i h5
                unfold inTB at h5
                simp only [decide_eq_true_eq] at h5
                dsimp only; omega
              · dsimp only; omega

end Go.Proofs.YtoonaidpmahgcaaGreat

/- awake, spring. -/
import Derived.Test.YtjpjmlljgcpbkaaGreatSpaced
import Derived.Test.YtjpjmlljgcpbkaaGreatFormat
namespace Go.Proofs.YtjpjmlljgcpbkaaGreat
set_option linter.unusedSimpArgs false
set_option linter.unusedVariables false
open Go.ChangeShapes Go.WideShapes Go.ChangeAt Go.RowKit

def springR : Rule := ⟨⟨#[69, 85]⟩, 2000, 9999, 3, 2, 7, 0, 7200, 1, 3600, ⟨#[83]⟩⟩
theorem spring_at : springR.at 2026 = (1774749600, 0) := by decide +kernel
theorem spring_day : Cv.dayF 2026 3 3 6 29 = (20547, 0) := by decide +kernel
theorem spring_format : formatF ⟨#[67, 37, 115, 84]⟩ ⟨#[83]⟩ 3600 = (⟨#[67, 83, 84]⟩, 0) := by decide +kernel
theorem yearF_one (r : Rule) (y : Int) : yearF [r] y = ev1 y 0 r := by
  unfold yearF evs evs
  rw [List.append_nil]
  unfold ev1
  split
  · exact List.mergeSort_singleton _
  · exact List.mergeSort_nil
def crowd1 (y : Int) : Bool := closeF (ev1 (y - 1) 0 springR ++ ev1 y 0 springR ++ ev1 (y + 1) 0 springR)
theorem crowd1_eq (y : Int) : crowdF [springR] y = crowd1 y := by
  unfold crowdF crowd1
  rw [yearF_one, yearF_one, yearF_one]
theorem spring_cuts : cutsF [springR] = [2000, 10000] := by
  unfold cutsF
  rw [show cutsL [springR] = [2000, 10000] from rfl, List.mergeSort_of_pairwise (by decide)]
  decide +kernel
theorem spring_valid : allV [springR] = true := by decide +kernel
theorem spring_last0 : crowd1 9999 = false := by decide +kernel
theorem spring_busy : ((List.range 402).any fun k => crowd1 (2000 + k)) = false := by decide +kernel
theorem spring_spaced : spacedF [springR] = true := by
  rw [spacedF_ok spring_valid, spring_cuts]
  have hb : ∀ n, busyF [springR] 2000 n = (List.range n).any fun k => crowd1 (2000 + k) := fun n => by unfold busyF; congr 1; funext k; exact crowd1_eq _
  have e0 : spanF [2000, 10000] 0 = 402 := by decide
  have e1 : spanF [2000, 10000] 1 = 0 := by decide
  have e2 : toF [2000, 10000] 0 = 10000 := by decide
  have e3 : toF [2000, 10000] 1 = 10000 := by decide
  have b0 : badF [springR] [2000, 10000] 0 = false := by
    refine badF_no ?_ ?_
    · rw [e0]; exact (hb 402).trans spring_busy
    · rw [e2, crowd1_eq]; exact spring_last0
  have b1 : badF [springR] [2000, 10000] 1 = false := by
    refine badF_no ?_ ?_
    · rw [e1]; rfl
    · rw [e3, crowd1_eq]; exact spring_last0
  show (!badsF [springR] [2000, 10000] 2) = true
  rw [badsF_succ, badsF_succ, badsF_zero, b0, b1]
  rfl
theorem spring_any (w : World) : Calls Tryz.prog 30 #[] w fun e w' => e = .returned springR.v ∧ Below w.heap.size w w' := by
  go_enter Tryz.func30, Tryz.ntmps30
  go_wp2
  exact bodyPost_ret (v := springR.v) (by simp [results, Tryz.results30, go_sem, springR, Rule.v, Rule.cells]) rfl ⟨rfl, (Below.refl _ _).alloc (Nat.le_refl _) _⟩
theorem rule_row (w : World) (r : Rule) (B : Nat) (h : B = w.heap.size) (t : TypeId) : Rd Rule.cells 11 (w.alloc (.cells r.cells.toArray t)) (.slice (some ⟨B, 0, none⟩) 1 1) [r] := by
  subst h
  refine .inr ⟨w.heap.size, 0, 1, rfl, by simp, fun j hj i u hu => ?_⟩
  have : j = 0 := by simpa using hj
  subst this
  simp only [World.cell?, heap_alloc_new]
  simpa using hu
set_option maxRecDepth 100000 in
set_option maxHeartbeats 2000000 in
theorem awake_any (w : World) (hm : HasMax w) : Calls Tryz.prog 9 #[] w fun e w' => e = .returned (.bool true) ∧ Below w.heap.size w w' := by
  have hA := fun W => At_any springR 2026 W
  have hD := fun W => Day_any 2026 3 3 6 29 W
  have hF := fun W hm => Format_any ⟨#[67, 37, 115, 84]⟩ ⟨#[83]⟩ 3600 W hm (by decide)
  have hS := fun v W h => Spaced_any [springR] v W (by simp) h
  rw [spring_at] at hA
  rw [spring_day] at hD
  rw [spring_format] at hF
  rw [spring_spaced] at hS
  have HA := Lib.hid hA
  have HD := Lib.hid hD
  have HF := Lib.hid hF
  have HS := Lib.hid hS
  clear hA hD hF hS
  go_enter Tryz.func9, Tryz.ntmps9
  go_wp2_with fail
  refine (spring_any _).mono ?_
  rintro e w1 ⟨rfl, b1⟩
  go_wp2_with fail
  refine (HA.out _).mono ?_
  rintro e w2 ⟨rfl, b2⟩
  go_wp2_with fail
  refine (HD.out _).mono ?_
  rintro e w3 ⟨rfl, b3⟩
  have b13 := (b1.trans (b2.mono b1.size)).trans (b3.mono (b1.trans (b2.mono b1.size)).size)
  go_wp2_with fail
  refine (HF.out _ (hm.on b13)).mono ?_
  rintro e w4 ⟨rfl, b4⟩
  have b14 := b13.trans (b4.mono b13.size)
  go_wp2_with fail
  refine (spring_any _).mono ?_
  rintro e w5 ⟨rfl, b5⟩
  have b15 := b14.trans (b5.mono b14.size)
  have HR := Lib.hid (rule_row w5 springR _ rfl 25)
  rw [show springR.v = .agg #[.string ⟨#[69, 85]⟩, .int .i64 2000, .int .i64 9999, .int .i64 3, .int .i64 2, .int .i64 7, .int .i64 0, .int .i64 7200, .int .i64 1, .int .i64 3600, .string ⟨#[83]⟩] from rfl]
  go_wp2_with fail
  refine (HS.out _ _ HR.out).mono ?_
  rintro e w6 ⟨rfl, b6⟩
  go_wp2_with fail
  go_ret
  exact ⟨rfl, (b15.alloc b15.size _).trans (b6.mono (by have := b15.size; simp; omega))⟩

end Go.Proofs.YtjpjmlljgcpbkaaGreat

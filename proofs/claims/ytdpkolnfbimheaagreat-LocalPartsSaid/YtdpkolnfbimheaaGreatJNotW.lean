/- runs.Not. -/
import Derived.Test.YtdpkolnfbimheaaGreatJCombMinus
namespace Go.Proofs.YtdpkolnfbimheaaGreat
set_option linter.unusedSimpArgs false
set_option linter.unusedVariables false
open Go.ChangeShapes Go.WideShapes Go.ChangeAt Go.RowKit

theorem valid_one {s : Spn} (h : s.ok = true) : validR [s] = true := by
  unfold validR runsB
  simp [h]
set_option maxHeartbeats 4000000 in
theorem Not_runs (a : List Spn) (s : Spn) (va : Value) (w : World) (hva : validR a = true) (hs : s.ok = true) (hR : Rd encN 2 w va a) : Calls Tryz.prog 37 #[va, .agg #[.int .i64 s.fr, .int .i64 s.to]] w (CombEnd (fun u v => u && !v) [s] a w) := by
  have HI := Lib.hid (fun W => iv_any s.fr s.to W)
  rw [iv_ok s, hs] at HI
  have HM := Lib.hid (fun v1 W (hb : Below w.heap.size w W) (h1 : Rd encN 2 W v1 [s]) => Minus_runs [s] a v1 va W (valid_one hs) hva h1 (hR.on hb))
  unfold CombEnd at HM ⊢
  obtain ⟨Aa, ca, rfl⟩ := rd_vf hR
  have b0 := Blk.new w #[.int .i64 s.fr, .int .i64 s.to] 34
  have hB1 : Below w.heap.size w (w.alloc (.cells #[.int .i64 s.fr, .int .i64 s.to] 34)) := (Below.refl _ _).alloc (Nat.le_refl _) _
  clear hR hva hs
  go_enter Tryz.func37, Tryz.ntmps37
  go_wp2_with fail
  generalize w.alloc (.cells #[.int .i64 s.fr, .int .i64 s.to] 34) = W at *
  refine (HI.out _).mono ?_
  rintro e w1 ⟨rfl, hb1⟩
  have b1 := b0.below hb1 b0.lt
  have s0 := b1.cl 0 _ rfl
  have s1 := b1.cl 1 _ rfl
  have hB2 := hB1.trans (hb1.mono hB1.size)
  have hR1 : Rd encN 2 (w1.alloc (.cells #[.int .i64 s.fr, .int .i64 s.to] 34)) (.slice (some ⟨w1.heap.size, 0, none⟩) 1 1) [s] := rd_of_own encN_len (World.ownsRow_lit (base := w1.heap.size) w1 #[.int .i64 s.fr, .int .i64 s.to] 1 (Nat.le_refl _) (by decide) rfl) rfl
  have hB3 := hB2.alloc hB2.size (.cells #[.int .i64 s.fr, .int .i64 s.to] 34)
  have HR1 := Lib.hid hR1
  clear hR1 HI
  go_wp2_with fail
  refine (HM.out _ _ hB3 HR1.out).mono ?_
  rintro e w5 ⟨out, u, h1, h2, ⟨h3, rfl, h4⟩ | ⟨h3, rfl⟩⟩
  · go_wp2
    go_ret2
    exact ⟨out, u, h1, hB3.trans (h2.mono hB3.size), .inl ⟨h3, rfl, own_lower h4 hB3.size⟩⟩
  · go_wp2
    go_ret2
    exact ⟨out, u, h1, hB3.trans (h2.mono hB3.size), .inr ⟨h3, rfl⟩⟩

end Go.Proofs.YtdpkolnfbimheaaGreat

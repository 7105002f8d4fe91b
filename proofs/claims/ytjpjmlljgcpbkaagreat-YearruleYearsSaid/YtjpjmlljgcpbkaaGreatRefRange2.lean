/- The reference of layer 20: Range. -/
import Derived.Test.YtjpjmlljgcpbkaaGreatRefRange
namespace Go.Proofs.YtjpjmlljgcpbkaaGreat
set_option linter.unusedSimpArgs false
set_option linter.unusedVariables false
open Go.ChangeShapes Go.WideShapes Go.ChangeAt Go.RowKit

set_option maxRecDepth 100000 in
set_option maxHeartbeats 600000 in
/-- the inner loop's step, and the outer one: Range where all rules are valid and the years are -/
theorem r20_Range_ok (rs : List Rule) (a b : Int) (v : Value) (w : World) (hl : rs.length ≤ 1000) (h : Rd Rule.cells 11 w v rs) (hv : allV rs = true) (ha : 1 ≤ a) (hab : a ≤ b) (hb : b ≤ 9999) (hf : rs.length * (b - a + 1).toNat ≤ 1000) :
    Calls Tryz.prog 24 #[v, .int .i64 a, .int .i64 b] w fun e w' => ∃ v, e = .returned (.tuple #[v, .int .i64 0]) ∧ Rd encE 2 w' v (srt (evY rs a (b - a + 1).toNat)) ∧ Below w.heap.size w w' := by
  have HA := Lib.hid (fun W h => r20_All rs v W (by omega) h)
  rw [hv] at HA
  have HY := Lib.hid (fun y W h => r20_Year rs y v W (by omega) h)
  have HR := Lib.hid h
  have HLen : Hid (∀ n : Nat, n ≤ (b - a + 1).toNat → (evY rs a n).length ≤ 1000) := fun n hn => by
    have h1 := evY_len rs a n
    have h2 := Nat.mul_le_mul_right rs.length hn
    rw [Nat.mul_comm] at hf
    omega
  clear h hv hf
  go_enter Tryz.func24, Tryz.ntmps24
  go_wp2_with (go_at_call 47; refine (HA.out _ HR.out).mono ?_; rintro e w1 ⟨rfl, hb1⟩)
  go_loopw [8, 9] (fun v8 y wr => ∃ n : Nat, n ≤ (b - a + 1).toNat ∧ y = .int .i64 (a + n) ∧ Hid (Ins wr v8 (srt (evY rs a n))) ∧ Below w.heap.size w wr) (fun _ y _ => (b + 1 - intOf y).toNat)
  case atStart => exact ⟨0, Nat.zero_le _, by simp, .inl ⟨rfl, srt_nil⟩, hb1⟩
  case round =>
    obtain ⟨n, hn, rfl, HI, hbw⟩ := hrel
    by_cases hlt : a + (n : Int) ≤ b
    · have hl0 := HLen.out n hn
      have hl1 := HLen.out (n + 1) (by omega)
      rw [evY, List.length_append] at hl1
      have HE := Lib.hid (show evY rs a (n + 1) = evY rs a n ++ yearF rs (a + n) from rfl)
      generalize hP : evY rs a n = P at *
      generalize hQ : yearF rs (a + n) = Q at *
      have HYn := Lib.hid (fun W h => HY.out (a + n) W h)
      rw [hQ] at HYn
      go_wp2_with (go_at_call 22; refine (HYn.out _ (HR.out.on hbw)).mono ?_; rintro e w2 ⟨v7, rfl, hi7, hb2⟩)
      have hB2 := hbw.trans (hb2.mono hbw.size)
      have HI7 := Lib.hid hi7
      obtain ⟨A7, c7, rfl⟩ : ∃ A c, v7 = .slice A Q.length c := by
        rcases hi7.rd with ⟨rfl, A, c, rfl⟩ | ⟨g, off, c, rfl, _⟩
        · exact ⟨A, c, rfl⟩
        · exact ⟨_, c, rfl⟩
      clear hi7
      go_loopw [8, 11] (fun v8 i wr => ∃ k : Nat, k ≤ Q.length ∧ i = .int .i64 k ∧ Hid (Ins wr v8 (srt (P ++ Q.take k))) ∧ Below w2.heap.size w2 wr) (fun _ i _ => Q.length - (intOf i).toNat)
      case atStart => exact ⟨0, Nat.zero_le _, rfl, by rw [List.take_zero, List.append_nil]; exact HI.out.on hb2, Below.refl _ _⟩
      case round =>
        obtain ⟨k, hk, rfl, HK, hbk⟩ := hrel
        by_cases hki : k < Q.length
        · obtain ⟨g7, o7, hA7, hg7, hc7⟩ : ∃ g off, A7 = some ⟨g, off, none⟩ ∧ g < w2.heap.size ∧ ∀ j, j < Q.length → ∀ i u, (encE Q[j]!)[i]? = some u → w2.cell? ⟨g, off + j * 2 + i, none⟩ = some u := by
            rcases HI7.out.rd with ⟨h0, _⟩ | ⟨g, off, c', hv', hg, hc⟩
            · rw [h0] at hki; simp at hki
            · cases hv'; exact ⟨g, off, rfl, hg, hc⟩
          subst hA7
          have c0 : wr.cell? ⟨g7, o7 + k * 2, none⟩ = some (.int .i64 (Q[k]!).1) := (hbk.cell (p := ⟨g7, o7 + k * 2, none⟩) hg7).trans (hc7 k hki 0 _ rfl)
          have c1 : wr.cell? ⟨g7, o7 + k * 2 + 1, none⟩ = some (.int .i64 (Q[k]!).2) := (hbk.cell (p := ⟨g7, o7 + k * 2 + 1, none⟩) hg7).trans (hc7 k hki 1 _ rfl)
          have HT : Hid (srt (srt (P ++ Q.take k) ++ [Q[k]!]) = srt (P ++ Q.take (k + 1))) := by
            show _ = _
            rw [srt_srt, List.append_assoc, List.take_succ_eq_append_getElem hki, getElem!_pos Q k hki]
          have hlk : (srt (P ++ Q.take k)).length ≤ 1000000 := by rw [srt_len, List.length_append, List.length_take]; omega
          have HIn := Lib.hid (fun W v h => r20_insert (srt (P ++ Q.take k)) Q[k]! v W (srt_sorted _) hlk h)
          rw [HT.out] at HIn
          clear hc7 hlk HT
          generalize hq : Q[k]! = q at *
          obtain ⟨q1, q2⟩ := q
          dsimp only at c0 c1 HIn
          generalize srt (P ++ Q.take k) = S at *
          generalize hS2 : srt (P ++ Q.take (k + 1)) = S2 at *
          go_wp2_with (go_at_call 53; refine (HIn.out _ _ HK.out).mono ?_; rintro e w3 ⟨v3, rfl, hi3, hb3⟩; have HI3 := Lib.hid hi3; clear hi3)
          go_roundw
          case rel => exact ⟨k + 1, by omega, by go_num, by rw [hS2]; exact HI3.out, hbk.trans (hb3.mono hbk.size)⟩
          case measure => simp [intOf]; omega
        · have hk' : k = Q.length := by omega
          subst hk'
          rw [List.take_length] at HK
          have hB4 := hB2.trans (hbk.mono hB2.size)
          obtain ⟨A9, c9, hv9⟩ : ∃ A c, u8 = .slice A (P ++ Q).length c := by
            rcases HK.out.rd with ⟨h0, A, c, h1⟩ | ⟨g, off, c, h1, _⟩
            · rw [h1, ← srt_len (P ++ Q), h0]; exact ⟨A, c, rfl⟩
            · rw [h1, srt_len]; exact ⟨_, c, rfl⟩
          subst hv9
          have hlpq : (P ++ Q).length ≤ 1000 := by rw [List.length_append]; omega
          have z1 : decide (1000 < ((P ++ Q).length : Int)) = false := decide_eq_false (by omega)
          generalize (P ++ Q).length = L at z1 hlpq HK ⊢
          go_wp2
          go_roundw
          case rel => exact ⟨n + 1, by omega, by go_num, by rw [HE.out]; exact HK.out, hB4⟩
          case measure => simp [intOf]; omega
    · have hnN : n = (b - a + 1).toNat := by omega
      have hlt' : b < a + (n : Int) := by omega
      have HI' := Lib.hid HI.out.rd
      rw [hnN] at HI'
      go_wp2
      go_ret2
      exact ⟨_, rfl, HI'.out, hbw⟩

end Go.Proofs.YtjpjmlljgcpbkaaGreat

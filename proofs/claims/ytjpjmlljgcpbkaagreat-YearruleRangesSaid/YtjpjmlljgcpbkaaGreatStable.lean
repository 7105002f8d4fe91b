/- slices.SortStableFunc at events: its callees' walks. -/
import Derived.Test.YtjpjmlljgcpbkaaGreatCivil
import Derived.Test.YtjpjmlljgcpbkaaGreatStableP
import Derived.Shelf.SlSortCmp.PdqK
import Derived.Deep.LoopGhost
namespace Go.Proofs.YtjpjmlljgcpbkaaGreat
set_option linter.unusedSimpArgs false
set_option linter.unusedVariables false
open Go.Shelf Go.RowKit Go.Lib Go.Sort St

theorem aggE (w : World) : (isAgg 44).run Tryz.prog w = .ok true w := by kernel_rfl
theorem sizE (w : World) : (Go.sizeOf 44).run Tryz.prog w = .ok 2 w := by kernel_rfl
section
variable {α : Type} [Inhabited α] {k : Nat} {enc : α → List Value} {blk off cap : Nat} {d0 : Array α} {w0 : World} {g : Nat} {cb : Array Value}
set_option maxHeartbeats 4000000 in
set_option maxRecDepth 1000000 in
theorem swapRange_w (zE : ∀ w, (Go.sizeOf 44).run Tryz.prog w = .ok k w) (a b n : Nat) (d : Array α) (w : World) (R : RowK enc k w0 blk off d0) (hs : d0.size = d.size) (S : SWK enc k w0 blk off d w) (hab : a + n ≤ b) (hb : b + n ≤ d.size) (hsz : d.size < 4611686018427387904) :
    Calls Tryz.prog 135 #[.slice (some ⟨blk, off, none⟩) d.size cap, .int .i64 a, .int .i64 b, .int .i64 n, .func (.func g) #[] cb] w fun e w' => e = .returned (.tuple #[]) ∧ SWK enc k w0 blk off (swpR a b n d) w' := by
  have aE := aggE
  have mixed : Tryz.prog.follows .mixedOrders = true := by kernel_rfl
  have S0 : Aside (SWK enc k w0 blk off d w) := S
  clear S
  go_enter Tryz.func135, Tryz.ntmps135
  go_wp2
  go_loopg [10] n (fun kx s10 wr => ∃ (i : Nat), s10 = .int .i64 i ∧ i ≤ n ∧ n - i ≤ kx ∧ Aside (SWK enc k w0 blk off (swpR a b i d) wr))
  case atStart => exact ⟨0, rfl, by omega, by omega, S0⟩
  case round =>
    clear S0
    obtain ⟨i, rfl, hin, hkx, S1⟩ := hrel
    by_cases hlt : i < n
    · have hz : (i : Int) < (n : Int) := by omega
      go_wp2_with fail
      have ea : ((a : Int) + (i : Int)).toNat = a + i := by omega
      have pa : (0 : Int) ≤ (a : Int) + (i : Int) := by omega
      have ba : (a : Int) + (i : Int) < (d.size : Int) := by omega
      have ra : IntKind.i64.wrap ((a : Int) + (i : Int)) = (a : Int) + (i : Int) := by rw [IntKind.wrap_i64]; omega
      have eb : ((b : Int) + (i : Int)).toNat = b + i := by omega
      have pb : (0 : Int) ≤ (b : Int) + (i : Int) := by omega
      have bb : (b : Int) + (i : Int) < (d.size : Int) := by omega
      have rb : IntKind.i64.wrap ((b : Int) + (i : Int)) = (b : Int) + (i : Int) := by rw [IntKind.wrap_i64]; omega
      have sz := swpR_size a b d i
      have S2 : Aside (SWK enc k w0 blk off (swpR a b (i + 1) d) ((wr.drew.setCells blk (off + (a + i) * k) (enc (swpR a b i d)[b + i]!)).setCells blk (off + (b + i) * k) (enc (swpR a b i d)[a + i]!))) := S1.out.swapped R (a + i) (b + i) (by omega) (by omega)
      have la := S1.out.ld1 R (by omega) Tryz.prog (a + i) (by omega)
      have lb := S1.out.ld1 R (by omega) Tryz.prog (b + i) (by omega)
      have sa := S1.out.st1 R (by omega) Tryz.prog (a + i) (by omega) (swpR a b i d)[b + i]!
      have sb := S1.out.st2 R (by omega) Tryz.prog (a + i) (b + i) (by omega) (by omega) (swpR a b i d)[b + i]! (swpR a b i d)[a + i]!
      have na : (enc (swpR a b i d)[a + i]!).length = k := R.hk _
      have nb : (enc (swpR a b i d)[b + i]!).length = k := R.hk _
      generalize enc (swpR a b i d)[a + i]! = cI at S2 la sb na
      generalize enc (swpR a b i d)[b + i]! = cJ at S2 lb sa sb nb
      clear S1 sz
      go_big_region_o
      clear la lb sa sb
      generalize (wr.drew.setCells blk (off + (a + i) * k) cJ).setCells blk (off + (b + i) * k) cI = w2 at S2 ⊢
      go_wp2
      go_roundg (n - (i + 1))
      case measure => omega
      case rel => exact ⟨i + 1, by go_num, by omega, by omega, S2⟩
    · have hz : ¬ (i : Int) < (n : Int) := by omega
      obtain rfl : i = n := by omega
      go_wp2
      go_end0
      exact ⟨rfl, S1.out⟩

theorem swapRange_i (zE : ∀ w, (Go.sizeOf 44).run Tryz.prog w = .ok k w) (a b n : Nat) (d : Array α) (w : World) (R : RowK enc k w0 blk off d0) (hs : d0.size = d.size) (S : SWK enc k w0 blk off d w) (hab : a + n ≤ b) (hb : b + n ≤ d.size) (hsz : d.size < 4611686018427387904)
    (A B N : Int) (hA : A = a) (hB : B = b) (hN : N = n) :
    Calls Tryz.prog 135 #[.slice (some ⟨blk, off, none⟩) d.size cap, .int .i64 A, .int .i64 B, .int .i64 N, .func (.func g) #[] cb] w fun e w' => e = .returned (.tuple #[]) ∧ Aside (SWK enc k w0 blk off (swpR a b n d) w') := by
  subst hA hB hN
  exact swapRange_w zE a b n d w R hs S hab hb hsz

/-- the row turned round a place -/
def RotOut (enc : α → List Value) (k : Nat) (w0 : World) (blk off : Nat) (a m b : Nat) (d : Array α) (w' : World) : Prop := ∃ d', Rot a m b d d' ∧ SWK enc k w0 blk off d' w'
set_option maxHeartbeats 4000000 in
set_option maxRecDepth 1000000 in
theorem rotate_w (zE : ∀ w, (Go.sizeOf 44).run Tryz.prog w = .ok k w) (a m b : Nat) (d : Array α) (w : World) (R : RowK enc k w0 blk off d0) (hs : d0.size = d.size) (S : SWK enc k w0 blk off d w) (h1 : a < m) (h2 : m < b) (hb : b ≤ d.size) (hsz : d.size < 4611686018427387904) :
    Calls Tryz.prog 131 #[.slice (some ⟨blk, off, none⟩) d.size cap, .int .i64 a, .int .i64 m, .int .i64 b, .func (.func g) #[] cb] w fun e w' => e = .returned (.tuple #[]) ∧ RotOut enc k w0 blk off a m b d w' := by
  have S0 : Aside (SWK enc k w0 blk off d w) := S
  clear S
  have HR := Lib.hid R
  have HE := Lib.hid zE
  clear R zE
  go_enter Tryz.func131, Tryz.ntmps131
  go_wp2
  go_loopg [10, 11] (m - a + (b - m)) (fun kx s10 s11 wr => ∃ (i j : Nat) (dk : Array α), s10 = .int .i64 i ∧ s11 = .int .i64 j ∧ 1 ≤ i ∧ 1 ≤ j ∧ i ≤ m ∧ m + j ≤ d.size ∧ i + j ≤ kx ∧ dk.size = d.size ∧ Aside (SWK enc k w0 blk off dk wr) ∧ Hid (∀ d', Rot (m - i) m (m + j) dk d' → Rot a m b d d'))
  case atStart => exact ⟨m - a, b - m, d, by congr 1; omega, by congr 1; omega, by omega, by omega, by omega, by omega, by omega, rfl, S0, fun d' h => by rw [show m - (m - a) = a by omega, show m + (b - m) = b by omega] at h; exact h⟩
  case round =>
    clear S0
    obtain ⟨i, j, dk, rfl, rfl, hi, hj, him, hjm, hkx, hds, S1, HT⟩ := hrel
    by_cases hne : i = j
    · have hz : ((i : Int) != (j : Int)) = false := by simp [hne]
      have hzz : (i : Int) = (j : Int) := by omega
      have HJ := Lib.hid hne
      have hmi : m + i ≤ d.size := by omega
      clear hne hzz
      have S2 := fun W h => swapRange_i (cap := cap) (g := g) (cb := cb) HE.out (m - i) m i dk W HR.out (by omega) h (by omega) (by omega) (by omega)
      rw [hds] at S2
      have HS2 := Lib.hid S2
      clear S2
      go_wp2_with (go_at_call 135; refine (HS2.out _ S1.out _ _ _ (by omega) (by omega) (by omega)).mono ?_; rintro e w1 ⟨rfl, S3⟩)
      go_end0
      exact ⟨rfl, _, HT.out _ (by rw [← HJ.out]; exact rot_end (by omega) (by omega)), S3.out⟩
    · have hz : ((i : Int) != (j : Int)) = true := by simp; omega
      by_cases hgt : j < i
      · have hgz : (j : Int) < (i : Int) := by omega
        have S2 := fun W h => swapRange_i (cap := cap) (g := g) (cb := cb) HE.out (m - i) m j dk W HR.out (by omega) h (by omega) (by omega) (by omega)
        rw [hds] at S2
        have HS2 := Lib.hid S2
        clear S2 hne
        go_wp2_with (go_at_call 135; refine (HS2.out _ S1.out _ _ _ (by omega) (by omega) (by omega)).mono ?_; rintro e w1 ⟨rfl, S3⟩)
        go_roundg (i - j + j)
        case measure => omega
        case rel => exact ⟨i - j, j, _, by congr 1; omega, rfl, by omega, hj, by omega, hjm, by omega, by rw [swpR_size]; exact hds, S3, fun d' h => HT.out d' (rot_more him hgt (by omega) (by rw [show m - i + j = m - (i - j) by omega]; exact h))⟩
      · have hgz : ¬ (j : Int) < (i : Int) := by omega
        have S2 := fun W h => swapRange_i (cap := cap) (g := g) (cb := cb) HE.out (m - i) (m + j - i) i dk W HR.out (by omega) h (by omega) (by omega) (by omega)
        rw [hds] at S2
        have HS2 := Lib.hid S2
        have hlt : i < j := by omega
        clear S2 hne hgt
        go_wp2_with (go_at_call 135; refine (HS2.out _ S1.out _ _ _ (by omega) (by omega) (by omega)).mono ?_; rintro e w1 ⟨rfl, S3⟩)
        go_roundg (i + (j - i))
        case measure => omega
        case rel => exact ⟨i, j - i, _, rfl, by congr 1; omega, hi, by omega, him, by omega, by omega, by rw [swpR_size]; exact hds, S3, fun d' h => HT.out d' (rot_less him hlt (by omega) h)⟩
end

end Go.Proofs.YtjpjmlljgcpbkaaGreat

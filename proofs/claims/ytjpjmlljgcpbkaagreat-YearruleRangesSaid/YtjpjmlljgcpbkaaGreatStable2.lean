/- slices.symMergeCmpFunc at events: its walk. -/
import Derived.Test.YtjpjmlljgcpbkaaGreatStable
namespace Go.Proofs.YtjpjmlljgcpbkaaGreat
set_option linter.unusedSimpArgs false
set_option linter.unusedVariables false
open Go.Shelf Go.RowKit Go.Lib Go.Sort St

section
variable {α : Type} [Inhabited α] {k : Nat} {enc : α → List Value} {blk off cap : Nat} {d0 : Array α} {w0 : World} {g : Nat} {cb : Array Value} {cf : α → α → Int}
/-- the row merged -/
def MerOut (enc : α → List Value) (k : Nat) (w0 : World) (blk off : Nat) (lt : α → α → Bool) (a b : Nat) (d : Array α) (w' : World) : Prop := ∃ d', PermIn a b d d' ∧ SortedIn lt a b d' ∧ SWK enc k w0 blk off d' w'
set_option maxHeartbeats 4000000 in
set_option maxRecDepth 1000000 in
theorem symMerge_one (zE : ∀ w, (Go.sizeOf 44).run Tryz.prog w = .ok k w) (eg : ∀ args w, (callFunc g args).run Tryz.prog w = .ok (.enter g args) w) (hcmp : CmpLays Tryz.prog g cb enc k cf blk off d0.size w0) (hO : SWO (ltOf cf))
    (a b : Nat) (d : Array α) (w : World) (R : RowK enc k w0 blk off d0) (hs : d0.size = d.size) (S : SWK enc k w0 blk off d w) (hab : a + 1 < b) (hsort : SortedIn (ltOf cf) (a + 1) b d) (hb : b ≤ d.size) (hsz : d.size < 4611686018427387904) :
    Calls Tryz.prog 115 #[.slice (some ⟨blk, off, none⟩) d.size cap, .int .i64 a, .int .i64 ((a : Int) + 1), .int .i64 b, .func (.func g) #[] cb] w fun e w' => e = .returned (.tuple #[]) ∧ MerOut enc k w0 blk off (ltOf cf) a b d w' := by
  have aE := aggE
  have mixed : Tryz.prog.follows .mixedOrders = true := by kernel_rfl
  have HC : Aside _ := hcmp
  have S0 : Aside (SWK enc k w0 blk off d w) := S
  have HO : Aside _ := hO
  clear S hcmp hO
  have HSO : Aside _ := hsort
  clear hsort
  have h1 : ((a : Int) + 1 - (a : Int) == 1) = true := by simp; omega
  go_enter Tryz.func115, Tryz.ntmps115
  go_wp2
  go_loopg [10, 11] (b - a) (fun kx s10 s11 wr => ∃ (i j : Nat), s10 = .int .i64 i ∧ s11 = .int .i64 j ∧ a + 1 ≤ i ∧ i ≤ j ∧ j ≤ b ∧ j - i ≤ kx ∧ Aside (SWK enc k w0 blk off d wr) ∧ Hid (j = b ∨ ltOf cf d[j]! d[a]! = false) ∧ Hid (i = a + 1 ∨ ltOf cf d[i - 1]! d[a]! = true))
  case atStart => exact ⟨a + 1, b, by go_num, rfl, by omega, by omega, by omega, by omega, S0, .inl rfl, .inl rfl⟩
  case round =>
    clear S0
    obtain ⟨i, j, rfl, rfl, hai, hij, hjb, hkx, S1, F1, F2⟩ := hrel
    by_cases hlt : i < j
    · have hz : (i : Int) < (j : Int) := by omega
      go_wp2_with fail
      obtain ⟨h, hh⟩ : ∃ h : Nat, ((i : Int) + (j : Int)) / 2 = (h : Int) := ⟨(i + j) / 2, by omega⟩
      have hih : i ≤ h := by omega
      have hhj : h < j := by omega
      rw [hh]
      clear hh
      cases hlv : ltOf cf d[h]! d[a]!
      · have F1' : Hid (h = b ∨ ltOf cf d[h]! d[a]! = false) := .inr hlv
        clear F1
        have ea1 : ((h : Int)).toNat = h := by omega
        have pa1 : (0 : Int) ≤ (h : Int) := by omega
        have ba1 : (h : Int) < (d.size : Int) := by omega
        have ra1 : IntKind.i64.wrap ((h : Int)) = (h : Int) := by rw [IntKind.wrap_i64]; omega
        have ec1 : ((a : Int)).toNat = a := by omega
        have pc1 : (0 : Int) ≤ (a : Int) := by omega
        have bc1 : (a : Int) < (d.size : Int) := by omega
        have rc1 : IntKind.i64.wrap ((a : Int)) = (a : Int) := by rw [IntKind.wrap_i64]; omega
        obtain ⟨x1, hx1⟩ : ∃ x, x = d[h]! := ⟨_, rfl⟩
        obtain ⟨y1, hy1⟩ : ∃ x, x = d[a]! := ⟨_, rfl⟩
        have la1 := S1.out.ld R (by omega) Tryz.prog (h) (by omega)
        have lb1 := S1.out.ld R (by omega) Tryz.prog (a) (by omega)
        rw [← hx1] at la1
        rw [← hy1] at lb1
        have hc1 := S1.out.cmp HC.out (by omega) x1 y1
        have hv1 : ¬ cf x1 y1 < 0 := by rw [hx1, hy1]; exact of_decide_eq_false hlv
        have hd1 : decide (cf x1 y1 < 0) = false := decide_eq_false hv1
        have HLV := Lib.hid hlv
        clear hx1 hy1 hlv
        go_wp2_with fail
        go_quiet_grown (first | (go_at_fn g; refine Calls.grown_of (hc1 _ _)))
        have S1' : Aside (SWK enc k w0 blk off d (grow (wr.drewN nq) osq)) := S1.out.grown nq osq
        clear la1 lb1 hc1 S1
        generalize grow (wr.drewN nq) osq = wu at S1' ⊢
        clear nq osq
        go_wp2
        go_roundg (h - i)
        case measure => omega
        case rel => exact ⟨i, h, rfl, rfl, hai, hih, by omega, Nat.le_refl _, S1', F1', F2⟩
      · have F2' : Hid (h + 1 = a + 1 ∨ ltOf cf d[h + 1 - 1]! d[a]! = true) := .inr hlv
        clear F2
        have ea1 : ((h : Int)).toNat = h := by omega
        have pa1 : (0 : Int) ≤ (h : Int) := by omega
        have ba1 : (h : Int) < (d.size : Int) := by omega
        have ra1 : IntKind.i64.wrap ((h : Int)) = (h : Int) := by rw [IntKind.wrap_i64]; omega
        have ec1 : ((a : Int)).toNat = a := by omega
        have pc1 : (0 : Int) ≤ (a : Int) := by omega
        have bc1 : (a : Int) < (d.size : Int) := by omega
        have rc1 : IntKind.i64.wrap ((a : Int)) = (a : Int) := by rw [IntKind.wrap_i64]; omega
        obtain ⟨x1, hx1⟩ : ∃ x, x = d[h]! := ⟨_, rfl⟩
        obtain ⟨y1, hy1⟩ : ∃ x, x = d[a]! := ⟨_, rfl⟩
        have la1 := S1.out.ld R (by omega) Tryz.prog (h) (by omega)
        have lb1 := S1.out.ld R (by omega) Tryz.prog (a) (by omega)
        rw [← hx1] at la1
        rw [← hy1] at lb1
        have hc1 := S1.out.cmp HC.out (by omega) x1 y1
        have hv1 : cf x1 y1 < 0 := by rw [hx1, hy1]; exact of_decide_eq_true hlv
        have hd1 : decide (cf x1 y1 < 0) = true := decide_eq_true hv1
        have HLV := Lib.hid hlv
        clear hx1 hy1 hlv
        go_wp2_with fail
        go_quiet_grown (first | (go_at_fn g; refine Calls.grown_of (hc1 _ _)))
        have S1' : Aside (SWK enc k w0 blk off d (grow (wr.drewN nq) osq)) := S1.out.grown nq osq
        clear la1 lb1 hc1 S1
        generalize grow (wr.drewN nq) osq = wu at S1' ⊢
        clear nq osq
        go_wp2
        go_roundg (j - (h + 1))
        case measure => omega
        case rel => exact ⟨h + 1, j, by go_num, rfl, by omega, by omega, hjb, Nat.le_refl _, S1', F1, F2'⟩
    · have hz : ¬ (i : Int) < (j : Int) := by omega
      obtain rfl : i = j := by omega
      clear hlt hij hkx
      go_wp2_with fail
      go_loopg [13] (i - a) (fun kx s13 wr => ∃ (q : Nat) (dk : Array α), s13 = .int .i64 q ∧ a ≤ q ∧ q ≤ i - 1 ∧ i - 1 - q ≤ kx ∧ dk.size = d.size ∧ Aside (SWK enc k w0 blk off dk wr) ∧ Hid (Rot a (a + 1) (q + 1) d dk))
      case atStart => exact ⟨a, d, rfl, by omega, by omega, by omega, rfl, S1, Rot.self _ _ _⟩
      case round =>
        clear S1
        obtain ⟨q, dk, rfl, haq, hqi, hkx, hds, S1, HT⟩ := hrel
        by_cases hlt : q < i - 1
        · have hz : (q : Int) < (i : Int) - 1 := by omega
          have ea2 : ((q : Int)).toNat = q := by omega
          have pa2 : (0 : Int) ≤ (q : Int) := by omega
          have ba2 : (q : Int) < (d.size : Int) := by omega
          have ra2 : IntKind.i64.wrap ((q : Int)) = (q : Int) := by rw [IntKind.wrap_i64]; omega
          have ec2 : ((q : Int) + 1).toNat = q + 1 := by omega
          have pc2 : (0 : Int) ≤ (q : Int) + 1 := by omega
          have bc2 : (q : Int) + 1 < (d.size : Int) := by omega
          have rc2 : IntKind.i64.wrap ((q : Int) + 1) = (q : Int) + 1 := by rw [IntKind.wrap_i64]; omega
          have S1' : Aside (SWK enc k w0 blk off (swp dk (q) (q + 1)) ((wr.drew.setCells blk (off + (q) * k) (enc dk[q + 1]!)).setCells blk (off + (q + 1) * k) (enc dk[q]!))) := S1.out.swapped R (q) (q + 1) (by omega) (by omega)
          have la2 := S1.out.ld1 R (by omega) Tryz.prog (q) (by omega)
          have lb2 := S1.out.ld1 R (by omega) Tryz.prog (q + 1) (by omega)
          have sa2 := S1.out.st1 R (by omega) Tryz.prog (q) (by omega) dk[q + 1]!
          have sb2 := S1.out.st2 R (by omega) Tryz.prog (q) (q + 1) (by omega) (by omega) dk[q + 1]! dk[q]!
          have na2 : (enc dk[q]!).length = k := R.hk _
          have nb2 : (enc dk[q + 1]!).length = k := R.hk _
          generalize enc dk[q]! = cI2 at S1' la2 sb2 na2
          generalize enc dk[q + 1]! = cJ2 at S1' lb2 sa2 sb2 nb2
          clear S1
          go_wp2_with fail
          go_big_region_o
          clear la2 lb2 sa2 sb2
          generalize (wr.drew.setCells blk (off + (q) * k) cJ2).setCells blk (off + (q + 1) * k) cI2 = wu at S1' ⊢
          go_wp2
          go_roundg (i - 1 - (q + 1))
          case measure => omega
          case rel => exact ⟨q + 1, _, by go_num, by omega, by omega, Nat.le_refl _, by rw [size_swp]; exact hds, S1', rot_up HT.out haq (by omega)⟩
        · have hz : ¬ (q : Int) < (i : Int) - 1 := by omega
          go_wp2
          refine bodyPost_ret (results_none (by rfl) _ _ _) rfl ?_
          have HT2 := HT.out
          rw [show q + 1 = i by omega] at HT2
          exact ⟨rfl, _, permIn_mono _ _ _ _ _ _ (Nat.le_refl _) hjb hb (rot_perm HT2 (by omega) (by omega) (by omega)), merge1 HO.out HSO.out hai hjb F1.out F2.out HT2, S1.out⟩

set_option maxHeartbeats 4000000 in
set_option maxRecDepth 1000000 in
theorem symMerge_two (zE : ∀ w, (Go.sizeOf 44).run Tryz.prog w = .ok k w) (eg : ∀ args w, (callFunc g args).run Tryz.prog w = .ok (.enter g args) w) (hcmp : CmpLays Tryz.prog g cb enc k cf blk off d0.size w0) (hO : SWO (ltOf cf))
    (a m b : Nat) (d : Array α) (w : World) (R : RowK enc k w0 blk off d0) (hs : d0.size = d.size) (S : SWK enc k w0 blk off d w) (hbm : b = m + 1) (ham : a + 1 < m) (hsort : SortedIn (ltOf cf) a m d) (hb : b ≤ d.size) (hsz : d.size < 4611686018427387904) :
    Calls Tryz.prog 115 #[.slice (some ⟨blk, off, none⟩) d.size cap, .int .i64 a, .int .i64 m, .int .i64 b, .func (.func g) #[] cb] w fun e w' => e = .returned (.tuple #[]) ∧ MerOut enc k w0 blk off (ltOf cf) a b d w' := by
  have aE := aggE
  have mixed : Tryz.prog.follows .mixedOrders = true := by kernel_rfl
  have HC : Aside _ := hcmp
  have S0 : Aside (SWK enc k w0 blk off d w) := S
  have HO : Aside _ := hO
  clear S hcmp hO
  subst hbm
  have HSO : Aside _ := hsort
  clear hsort
  have h1 : ((m : Int) - (a : Int) == 1) = false := by simp; omega
  have h2 : ((m : Int) + 1 - (m : Int) == 1) = true := by simp; omega
  go_enter Tryz.func115, Tryz.ntmps115
  go_wp2
  go_loopg [14, 15] (m - a) (fun kx s10 s11 wr => ∃ (i j : Nat), s10 = .int .i64 i ∧ s11 = .int .i64 j ∧ a ≤ i ∧ i ≤ j ∧ j ≤ m ∧ j - i ≤ kx ∧ Aside (SWK enc k w0 blk off d wr) ∧ Hid (j = m ∨ ltOf cf d[m]! d[j]! = true) ∧ Hid (i = a ∨ ltOf cf d[m]! d[i - 1]! = false))
  case atStart => exact ⟨a, m, rfl, rfl, by omega, by omega, by omega, by omega, S0, .inl rfl, .inl rfl⟩
  case round =>
    clear S0
    obtain ⟨i, j, rfl, rfl, hai, hij, hjb, hkx, S1, F1, F2⟩ := hrel
    by_cases hlt : i < j
    · have hz : (i : Int) < (j : Int) := by omega
      go_wp2_with fail
      obtain ⟨h, hh⟩ : ∃ h : Nat, ((i : Int) + (j : Int)) / 2 = (h : Int) := ⟨(i + j) / 2, by omega⟩
      have hih : i ≤ h := by omega
      have hhj : h < j := by omega
      rw [hh]
      clear hh
      cases hlv : ltOf cf d[m]! d[h]!
      · have F2' : Hid (h + 1 = a ∨ ltOf cf d[m]! d[h + 1 - 1]! = false) := .inr hlv
        clear F2
        have ea1 : ((m : Int)).toNat = m := by omega
        have pa1 : (0 : Int) ≤ (m : Int) := by omega
        have ba1 : (m : Int) < (d.size : Int) := by omega
        have ra1 : IntKind.i64.wrap ((m : Int)) = (m : Int) := by rw [IntKind.wrap_i64]; omega
        have ec1 : ((h : Int)).toNat = h := by omega
        have pc1 : (0 : Int) ≤ (h : Int) := by omega
        have bc1 : (h : Int) < (d.size : Int) := by omega
        have rc1 : IntKind.i64.wrap ((h : Int)) = (h : Int) := by rw [IntKind.wrap_i64]; omega
        obtain ⟨x1, hx1⟩ : ∃ x, x = d[m]! := ⟨_, rfl⟩
        obtain ⟨y1, hy1⟩ : ∃ x, x = d[h]! := ⟨_, rfl⟩
        have la1 := S1.out.ld R (by omega) Tryz.prog (m) (by omega)
        have lb1 := S1.out.ld R (by omega) Tryz.prog (h) (by omega)
        rw [← hx1] at la1
        rw [← hy1] at lb1
        have hc1 := S1.out.cmp HC.out (by omega) x1 y1
        have hv1 : ¬ cf x1 y1 < 0 := by rw [hx1, hy1]; exact of_decide_eq_false hlv
        have hd1 : decide (cf x1 y1 < 0) = false := decide_eq_false hv1
        have HLV := Lib.hid hlv
        clear hx1 hy1 hlv
        go_wp2_with fail
        go_quiet_grown (first | (go_at_fn g; refine Calls.grown_of (hc1 _ _)))
        have S1' : Aside (SWK enc k w0 blk off d (grow (wr.drewN nq) osq)) := S1.out.grown nq osq
        clear la1 lb1 hc1 S1
        generalize grow (wr.drewN nq) osq = wu at S1' ⊢
        clear nq osq
        go_wp2
        go_roundg (j - (h + 1))
        case measure => omega
        case rel => exact ⟨h + 1, j, by go_num, rfl, by omega, by omega, hjb, Nat.le_refl _, S1', F1, F2'⟩
      · have F1' : Hid (h = m ∨ ltOf cf d[m]! d[h]! = true) := .inr hlv
        clear F1
        have ea1 : ((m : Int)).toNat = m := by omega
        have pa1 : (0 : Int) ≤ (m : Int) := by omega
        have ba1 : (m : Int) < (d.size : Int) := by omega
        have ra1 : IntKind.i64.wrap ((m : Int)) = (m : Int) := by rw [IntKind.wrap_i64]; omega
        have ec1 : ((h : Int)).toNat = h := by omega
        have pc1 : (0 : Int) ≤ (h : Int) := by omega
        have bc1 : (h : Int) < (d.size : Int) := by omega
        have rc1 : IntKind.i64.wrap ((h : Int)) = (h : Int) := by rw [IntKind.wrap_i64]; omega
        obtain ⟨x1, hx1⟩ : ∃ x, x = d[m]! := ⟨_, rfl⟩
        obtain ⟨y1, hy1⟩ : ∃ x, x = d[h]! := ⟨_, rfl⟩
        have la1 := S1.out.ld R (by omega) Tryz.prog (m) (by omega)
        have lb1 := S1.out.ld R (by omega) Tryz.prog (h) (by omega)
        rw [← hx1] at la1
        rw [← hy1] at lb1
        have hc1 := S1.out.cmp HC.out (by omega) x1 y1
        have hv1 : cf x1 y1 < 0 := by rw [hx1, hy1]; exact of_decide_eq_true hlv
        have hd1 : decide (cf x1 y1 < 0) = true := decide_eq_true hv1
        have HLV := Lib.hid hlv
        clear hx1 hy1 hlv
        go_wp2_with fail
        go_quiet_grown (first | (go_at_fn g; refine Calls.grown_of (hc1 _ _)))
        have S1' : Aside (SWK enc k w0 blk off d (grow (wr.drewN nq) osq)) := S1.out.grown nq osq
        clear la1 lb1 hc1 S1
        generalize grow (wr.drewN nq) osq = wu at S1' ⊢
        clear nq osq
        go_wp2
        go_roundg (h - i)
        case measure => omega
        case rel => exact ⟨i, h, rfl, rfl, hai, hih, by omega, Nat.le_refl _, S1', F1', F2⟩
    · have hz : ¬ (i : Int) < (j : Int) := by omega
      obtain rfl : i = j := by omega
      clear hlt hij hkx
      go_wp2_with fail
      go_loopg [17] (m - a) (fun kx s13 wr => ∃ (q : Nat) (dk : Array α), s13 = .int .i64 q ∧ i ≤ q ∧ q ≤ m ∧ q - i ≤ kx ∧ dk.size = d.size ∧ Aside (SWK enc k w0 blk off dk wr) ∧ Hid (Rot q m (m + 1) d dk))
      case atStart => exact ⟨m, d, rfl, by omega, by omega, by omega, rfl, S1, Rot.self' _ _ _⟩
      case round =>
        clear S1
        obtain ⟨q, dk, rfl, haq, hqi, hkx, hds, S1, HT⟩ := hrel
        by_cases hlt : i < q
        · obtain ⟨q, rfl⟩ : ∃ x, q = x + 1 := ⟨q - 1, by omega⟩
          have hz : (i : Int) < ((q + 1 : Nat) : Int) := by omega
          have hz2 : (i : Int) < (q : Int) + 1 := by omega
          have ea2 : ((q : Int) + 1).toNat = q + 1 := by omega
          have pa2 : (0 : Int) ≤ (q : Int) + 1 := by omega
          have ba2 : (q : Int) + 1 < (d.size : Int) := by omega
          have ra2 : IntKind.i64.wrap ((q : Int) + 1) = (q : Int) + 1 := by rw [IntKind.wrap_i64]; omega
          have ec2 : ((q : Int)).toNat = q := by omega
          have pc2 : (0 : Int) ≤ (q : Int) := by omega
          have bc2 : (q : Int) < (d.size : Int) := by omega
          have rc2 : IntKind.i64.wrap ((q : Int)) = (q : Int) := by rw [IntKind.wrap_i64]; omega
          have S1' : Aside (SWK enc k w0 blk off (swp dk (q + 1) (q)) ((wr.drew.setCells blk (off + (q + 1) * k) (enc dk[q]!)).setCells blk (off + (q) * k) (enc dk[q + 1]!))) := S1.out.swapped R (q + 1) (q) (by omega) (by omega)
          have la2 := S1.out.ld1 R (by omega) Tryz.prog (q + 1) (by omega)
          have lb2 := S1.out.ld1 R (by omega) Tryz.prog (q) (by omega)
          have sa2 := S1.out.st1 R (by omega) Tryz.prog (q + 1) (by omega) dk[q]!
          have sb2 := S1.out.st2 R (by omega) Tryz.prog (q + 1) (q) (by omega) (by omega) dk[q]! dk[q + 1]!
          have na2 : (enc dk[q + 1]!).length = k := R.hk _
          have nb2 : (enc dk[q]!).length = k := R.hk _
          generalize enc dk[q + 1]! = cI2 at S1' la2 sb2 na2
          generalize enc dk[q]! = cJ2 at S1' lb2 sa2 sb2 nb2
          clear S1
          go_wp2_with fail
          go_big_region_o
          clear la2 lb2 sa2 sb2
          generalize (wr.drew.setCells blk (off + (q + 1) * k) cJ2).setCells blk (off + (q) * k) cI2 = wu at S1' ⊢
          go_wp2
          go_roundg (q - i)
          case measure => omega
          case rel => exact ⟨q, _, by go_num, by omega, by omega, Nat.le_refl _, by rw [size_swp]; exact hds, S1', rot_down HT.out (by omega) (by omega)⟩
        · have hz : ¬ (i : Int) < (q : Int) := by omega
          obtain rfl : i = q := by omega
          go_wp2
          refine bodyPost_ret (results_none (by rfl) _ _ _) rfl ?_
          exact ⟨rfl, _, permIn_mono _ _ _ _ _ _ hai (Nat.le_refl _) hb (rot_perm HT.out (by omega) (by omega) (by omega)), merge2 HO.out HSO.out hai hjb F1.out F2.out HT.out, S1.out⟩
end

end Go.Proofs.YtjpjmlljgcpbkaaGreat

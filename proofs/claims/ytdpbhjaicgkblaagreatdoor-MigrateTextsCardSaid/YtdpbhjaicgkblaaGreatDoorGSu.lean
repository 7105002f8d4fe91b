/- Joined by merge.py: StableQ, Stable4. -/
import Derived.Test.YtdpbhjaicgkblaaGreatDoorGSt
import Derived.Test.YtdpbhjaicgkblaaGreatDoorGS3
import Derived.Test.YtdpbhjaicgkblaaGreatDoorGShelf
/- The stable sort's blocks. No program in sight. -/
namespace Go.Proofs.YtdpbhjaicgkblaaGreatDoor.St
set_option linter.unusedSimpArgs false
set_option linter.unusedVariables false
open Go.Sort
variable {α : Type} [Inhabited α] {lt : α → α → Bool} {n : Nat}
def BS (lt : α → α → Bool) (n c : Nat) (d : Array α) : Prop := ∀ p, SortedIn lt (p * c) (min (p * c + c) n) d
def DoneB (lt : α → α → Bool) (n c A : Nat) (d : Array α) : Prop := ∀ p, p * c < A → SortedIn lt (p * c) (min (p * c + c) n) d
def TodoB (lt : α → α → Bool) (n c A : Nat) (d : Array α) : Prop := ∀ p, A ≤ p * c → SortedIn lt (p * c) (min (p * c + c) n) d
theorem sorted_mono {a b a' b' : Nat} {d : Array α} (h : SortedIn lt a b d) (h1 : a ≤ a') (h2 : b' ≤ b) : SortedIn lt a' b' d := fun i j hi hij hj => h i j (by omega) hij (by omega)
theorem mul_next {c p q : Nat} (h : p * c < q * c) : p * c + c ≤ q * c := by
 have : p < q := Nat.lt_of_mul_lt_mul_right h
 have := Nat.mul_le_mul_right c (show p + 1 ≤ q from this)
 rwa [Nat.add_mul, Nat.one_mul] at this
theorem DoneB.zero (c : Nat) (d : Array α) : DoneB lt n c 0 d := fun p h => absurd h (Nat.not_lt_zero _)
theorem DoneB.step {c q B : Nat} {d e : Array α} (h : DoneB lt n c (q * c) d) (hp : PermIn (q * c) B d e) (hs : SortedIn lt (q * c) B e) (hB : min (q * c + c) n ≤ B) (hB2 : B ≤ q * c + c) : DoneB lt n c (q * c + c) e := fun p hlt => by
 rcases Nat.lt_or_ge (p * c) (q * c) with h1 | h1
 ·have h2 := mul_next h1
  exact sorted_perm_out (h p h1) hp (.inl (by omega))
 ·have h2 : p * c = q * c := by
   rcases Nat.lt_or_eq_of_le h1 with h3 | h3
   ·have := mul_next h3; omega
   ·exact h3.symm
  rw [h2]
  exact sorted_mono hs (Nat.le_refl _) hB
theorem DoneB.all {c A : Nat} {d : Array α} (h : DoneB lt n c A d) (hA : n ≤ A) : BS lt n c d := fun p => by
 rcases Nat.lt_or_ge (p * c) A with h1 | h1
 ·exact h p h1
 ·exact fun i j hi hij hj => by omega
theorem TodoB.of {c : Nat} {d : Array α} (h : BS lt n c d) : TodoB lt n c 0 d := fun p _ => h p
theorem TodoB.step {c A B : Nat} {d e : Array α} (h : TodoB lt n c A d) (hp : PermIn A B d e) (hB : A ≤ B) : TodoB lt n c B e := fun p hlt => sorted_perm_out (h p (by omega)) hp (.inr hlt)
theorem dbl (q c : Nat) : (2 * q) * c = q * (2 * c) ∧ (2 * q + 1) * c = q * (2 * c) + c := by
 constructor
 ·rw [Nat.mul_comm 2 q, Nat.mul_assoc]
 ·rw [Nat.add_mul, Nat.one_mul, Nat.mul_comm 2 q, Nat.mul_assoc]
theorem TodoB.two {c q : Nat} {d : Array α} (h : TodoB lt n c (q * (2 * c)) d) : SortedIn lt (q * (2 * c)) (min (q * (2 * c) + c) n) d ∧ SortedIn lt (q * (2 * c) + c) (min (q * (2 * c) + 2 * c) n) d := by
 have e := dbl q c
 have h1 := h (2 * q) (by omega)
 have h2 := h (2 * q + 1) (by omega)
 rw [e.1] at h1
 rw [e.2] at h2
 exact ⟨h1, sorted_mono h2 (Nat.le_refl _) (by omega)⟩
theorem next_q (q c : Nat) : (q + 1) * c = q * c + c := by rw [Nat.add_mul, Nat.one_mul]
theorem DoneB.rest {c q : Nat} {d : Array α} (h : DoneB lt n (2 * c) (q * (2 * c)) d) (ht : TodoB lt n c (q * (2 * c)) d) (hn : n < q * (2 * c) + 2 * c) (hc : n ≤ q * (2 * c) + c) : BS lt n (2 * c) d := by
 have h2 := ht.two.1
 refine (DoneB.step h (permIn_refl d _ (min (q * (2 * c) + 2 * c) n)) ?_ (Nat.le_refl _) (by omega)).all (by omega)
 exact sorted_mono h2 (Nat.le_refl _) (by omega)
theorem BS.whole {c : Nat} {d : Array α} (h : BS lt n c d) (hc : n ≤ c) : SortedIn lt 0 n d := by
 have := h 0
 rw [Nat.zero_mul] at this
 exact sorted_mono this (Nat.le_refl _) (by omega)
end Go.Proofs.YtdpbhjaicgkblaaGreatDoor.St
/- slices.stableCmpFunc at events: its walk. -/
namespace Go.Proofs.YtdpbhjaicgkblaaGreatDoor
set_option linter.unusedSimpArgs false
set_option linter.unusedVariables false
open Go.Shelf Go.RowKit Go.Lib Go.Sort St
section
variable {α : Type} [Inhabited α] {k : Nat} {enc : α → List Value} {blk off cap : Nat} {d0 : Array α} {w0 : World} {g : Nat} {cb : Array Value} {cf : α → α → Int}
theorem ins_i (zE : ∀ w, (Go.sizeOf 206).run Tryz.prog w = .ok k w) (eg : ∀ args w, (callFunc g args).run Tryz.prog w = .ok (.enter g args) w) (hcmp : CmpLays Tryz.prog g cb enc k cf blk off d0.size w0) (hO : SWO (ltOf cf)) (R : RowK enc k w0 blk off d0)
  (a b : Nat) (d : Array α) (w : World) (hs : d0.size = d.size) (S : SWK enc k w0 blk off d w) (hab : a ≤ b) (hb : b ≤ d.size) (hsz : d.size < 4611686018427387904) (A B : Int) (hA : A = a) (hB : B = b) :
  Calls Tryz.prog 191 #[.slice (some ⟨blk, off, none⟩) d.size cap, .int .i64 A, .int .i64 B, .func (.func g) #[] cb] w fun e w' => e = .returned (.tuple #[]) ∧ MerOut enc k w0 blk off (ltOf cf) a b d w' := by
 subst hA hB
 refine (Tryz.insertionSortCmpFunc_w k aggE zE enc cf g cb blk off cap a b d0 d w0 w eg hcmp R hs S hO hab hb hsz).mono ?_
 rintro e w' ⟨rfl, hS⟩
 have h := insertionSort_holds hO d a b hab hb
 exact ⟨rfl, _, h.1, h.2, hS⟩
set_option maxHeartbeats 4000000 in
set_option maxRecDepth 1000000 in
theorem stable_w (zE : ∀ w, (Go.sizeOf 206).run Tryz.prog w = .ok k w) (eg : ∀ args w, (callFunc g args).run Tryz.prog w = .ok (.enter g args) w) (hcmp : CmpLays Tryz.prog g cb enc k cf blk off d0.size w0) (hO : SWO (ltOf cf)) (R : RowK enc k w0 blk off d0)
  (n : Nat) (d : Array α) (w : World) (hn : n = d.size) (hs : d0.size = d.size) (S : SWK enc k w0 blk off d w) (hsz : d.size < 1000000000) :
  Calls Tryz.prog 173 #[.slice (some ⟨blk, off, none⟩) d.size cap, .int .i64 n, .func (.func g) #[] cb] w fun e w' => e = .returned (.tuple #[]) ∧ MerOut enc k w0 blk off (ltOf cf) 0 n d w' := by
 have HC : Aside _ := hcmp
 have S0 : Aside (SWK enc k w0 blk off d w) := S
 have HO : Aside _ := hO
 have HN := Lib.hid hn
 have hn1 : n ≤ d.size := by omega
 clear S hcmp hO hn
 go_enter Tryz.func173, Tryz.ntmps173
 go_wp2
 go_loopg [7, 8] (n + 1) (fun kx s7 s8 wr => ∃ (q A : Nat) (dk : Array α), s7 = .int .i64 A ∧ s8 = .int .i64 ((A : Int) + 20) ∧ A ≤ n ∧ n + 1 - A ≤ kx ∧ dk.size = d.size ∧ Hid (A = q * 20) ∧ Aside (SWK enc k w0 blk off dk wr) ∧ Hid (PermIn 0 n d dk) ∧ Hid (DoneB (ltOf cf) n 20 (q * 20) dk))
 case atStart => exact ⟨0, 0, d, rfl, rfl, by omega, by omega, rfl, by show 0 = 0 * 20; omega, S0, permIn_refl _ _ _, by rw [Nat.zero_mul]; exact DoneB.zero _ _⟩
 case round =>
  clear S0
  obtain ⟨q, A, dk, rfl, rfl, hAn, hkx, hds, HA, S1, HP, HD⟩ := hrel
  by_cases hlt : A + 20 ≤ n
  ·have hz : (A : Int) + 20 ≤ (n : Int) := by omega
   have hc := fun W h => ins_i (cap := cap) zE eg HC.out HO.out R A (A + 20) dk W (by omega) h (by omega) (by omega) (by omega) (A : Int) ((A : Int) + 20) rfl (by omega)
   rw [hds] at hc
   have HCC := Lib.hid hc
   clear hc
   go_wp2_with fail
   refine (HCC.out _ S1.out).mono ?_
   rintro e w1 ⟨rfl, hmo⟩
   obtain ⟨dj, p1, t1, s1⟩ := hmo
   have P1 := Lib.hid p1
   have T1 := Lib.hid t1
   have S2 : Aside (SWK enc k w0 blk off dj w1) := s1
   have hdj : dj.size = d.size := p1.1.trans hds
   clear p1 t1 s1 S1 HCC
   go_wp2
   go_roundg (n + 1 - (A + 20))
   case measure => omega
   case rel => exact ⟨q + 1, A + 20, dj, by go_num, by go_num, by omega, Nat.le_refl _, hdj, by show A + 20 = (q + 1) * 20; have := HA.out; omega, S2, permIn_trans _ _ _ _ _ HP.out (permIn_mono _ _ _ _ _ _ (Nat.zero_le _) hlt (by omega) P1.out), by
    rw [next_q]
    have e := HA.out
    rw [e] at P1 T1
    exact HD.out.step P1.out T1.out (by omega) (Nat.le_refl _)⟩
  ·have hz : ¬ (A : Int) + 20 ≤ (n : Int) := by omega
   have hc := fun W h => ins_i (cap := cap) zE eg HC.out HO.out R A n dk W (by omega) h (by omega) (by omega) (by omega) (A : Int) (n : Int) rfl rfl
   rw [hds] at hc
   have HCC := Lib.hid hc
   clear hc
   go_wp2_with fail
   refine (HCC.out _ S1.out).mono ?_
   rintro e w1 ⟨rfl, hmo⟩
   obtain ⟨dj, p1, t1, s1⟩ := hmo
   have P1 := Lib.hid (permIn_trans _ _ _ _ _ HP.out (permIn_mono _ _ _ _ _ _ (Nat.zero_le _) (Nat.le_refl _) (by omega) p1))
   have T1 : Hid (BS (ltOf cf) n 20 dj) := by
    have e := HA.out
    rw [e] at p1 t1
    exact (HD.out.step p1 t1 (by omega) (by omega)).all (by omega)
   have S2 : Aside (SWK enc k w0 blk off dj w1) := s1
   have hdj : dj.size = d.size := p1.1.trans hds
   clear p1 t1 s1 S1 HCC HP HD HA
   go_wp2_with fail
   clear hz hlt hkx hAn
   go_loopg [6] n (fun kx s6 wr => ∃ (c : Nat) (dk : Array α), s6 = .int .i64 c ∧ 1 ≤ c ∧ c ≤ 2 * n + 20 ∧ n - c ≤ kx ∧ dk.size = d.size ∧ Aside (SWK enc k w0 blk off dk wr) ∧ Hid (PermIn 0 n d dk) ∧ Hid (BS (ltOf cf) n c dk))
   case atStart => exact ⟨20, dj, rfl, by omega, by omega, by omega, hdj, S2, P1, T1⟩
   case round =>
    clear S2 P1 T1 hdj
    obtain ⟨c, dk, rfl, hc1, hc2, hkx, hds, S1, HP, HB⟩ := hrel
    by_cases hlt : c < n
    ·have hz : (c : Int) < (n : Int) := by omega
     go_wp2_with fail
     go_loopg [7, 8] (n + 1) (fun kx s7 s8 wr => ∃ (q A : Nat) (dk : Array α), s7 = .int .i64 A ∧ s8 = .int .i64 ((A : Int) + 2 * (c : Int)) ∧ A ≤ n ∧ n + 1 - A ≤ kx ∧ dk.size = d.size ∧ Hid (A = q * (2 * c)) ∧ Aside (SWK enc k w0 blk off dk wr) ∧ Hid (PermIn 0 n d dk) ∧ Hid (DoneB (ltOf cf) n (2 * c) (q * (2 * c)) dk) ∧ Hid (TodoB (ltOf cf) n c (q * (2 * c)) dk))
     case atStart => exact ⟨0, 0, dk, rfl, vint (by omega), by omega, by omega, hds, by show 0 = 0 * (2 * c); rw [Nat.zero_mul], S1, HP, by rw [Nat.zero_mul]; exact DoneB.zero _ _, by rw [Nat.zero_mul]; exact TodoB.of HB.out⟩
     case round =>
      clear S1 HP HB hds
      obtain ⟨q, A, dk, rfl, rfl, hAn, hkx2, hds, HA, S1, HP, HD, HT⟩ := hrel
      by_cases hle : A + 2 * c ≤ n
      ·have hz2 : (A : Int) + 2 * (c : Int) ≤ (n : Int) := by omega
       have h2 : SortedIn (ltOf cf) A (A + c) dk ∧ SortedIn (ltOf cf) (A + c) (A + 2 * c) dk := by
        have h := HT.out.two
        rw [← HA.out] at h
        exact ⟨sorted_mono h.1 (Nat.le_refl _) (by omega), sorted_mono h.2 (Nat.le_refl _) (by omega)⟩
       have hc := fun W h => symMerge_all (cap := cap) zE eg HC.out HO.out R (n + 1) A (A + c) (A + 2 * c) dk W (by omega) (by omega) h (by omega) (by omega) (by omega) (by omega) h2.1 h2.2 ((A : Int) + (c : Int)) ((A : Int) + 2 * (c : Int)) (by omega) (by omega)
       rw [hds] at hc
       have HCC := Lib.hid hc
       clear hc h2
       go_wp2_with fail
       refine (HCC.out _ S1.out).mono ?_
       rintro e w1 ⟨rfl, hmo⟩
       obtain ⟨dj, p1, t1, s1⟩ := hmo
       have P1 := Lib.hid p1
       have T1 := Lib.hid t1
       have S2 : Aside (SWK enc k w0 blk off dj w1) := s1
       have hdj : dj.size = d.size := p1.1.trans hds
       clear p1 t1 s1 S1 HCC
       go_wp2
       go_roundg (n + 1 - (A + 2 * c))
       case measure => omega
       case rel => exact ⟨q + 1, A + 2 * c, dj, vint (by omega), vint (by omega), by omega, Nat.le_refl _, hdj, by show A + 2 * c = (q + 1) * (2 * c); rw [next_q q (2 * c), ← HA.out], S2, permIn_trans _ _ _ _ _ HP.out (permIn_mono _ _ _ _ _ _ (Nat.zero_le _) hle (by omega) P1.out), by
        rw [next_q q (2 * c)]
        have e := HA.out
        rw [e] at P1 T1
        exact HD.out.step P1.out T1.out (by omega) (Nat.le_refl _), by
        rw [next_q q (2 * c)]
        have e := HA.out
        rw [e] at P1
        exact HT.out.step P1.out (by omega)⟩
      ·have hz2 : ¬ (A : Int) + 2 * (c : Int) ≤ (n : Int) := by omega
       by_cases hm : A + c < n
       ·have hz3 : (A : Int) + (c : Int) < (n : Int) := by omega
        have h2 : SortedIn (ltOf cf) A (A + c) dk ∧ SortedIn (ltOf cf) (A + c) n dk := by
         have h := HT.out.two
         rw [← HA.out] at h
         exact ⟨sorted_mono h.1 (Nat.le_refl _) (by omega), sorted_mono h.2 (Nat.le_refl _) (by omega)⟩
        have hc := fun W h => symMerge_all (cap := cap) zE eg HC.out HO.out R (n + 1) A (A + c) n dk W (by omega) (by omega) h (by omega) (by omega) (by omega) (by omega) h2.1 h2.2 ((A : Int) + (c : Int)) (n : Int) (by omega) rfl
        rw [hds] at hc
        have HCC := Lib.hid hc
        clear hc h2
        go_wp2_with fail
        refine (HCC.out _ S1.out).mono ?_
        rintro e w1 ⟨rfl, hmo⟩
        obtain ⟨dj, p1, t1, s1⟩ := hmo
        have P1 := Lib.hid (permIn_trans _ _ _ _ _ HP.out (permIn_mono _ _ _ _ _ _ (Nat.zero_le _) (Nat.le_refl _) (by omega) p1))
        have T1 : Hid (BS (ltOf cf) n (2 * c) dj) := by
         have e := HA.out
         rw [e] at p1 t1
         exact (HD.out.step p1 t1 (by omega) (by omega)).all (by omega)
        have S2 : Aside (SWK enc k w0 blk off dj w1) := s1
        have hdj : dj.size = d.size := p1.1.trans hds
        clear p1 t1 s1 S1 HCC HP HD HT HA
        go_wp2
        go_roundg (n - 2 * c)
        case measure => omega
        case rel => exact ⟨2 * c, dj, vint (by omega), by omega, by omega, Nat.le_refl _, hdj, S2, P1, T1⟩
       ·have hz3 : ¬ (A : Int) + (c : Int) < (n : Int) := by omega
        have T1 : Hid (BS (ltOf cf) n (2 * c) dk) := by
         have e := HA.out
         exact HD.out.rest HT.out (by omega) (by omega)
        clear HD HT HA
        go_wp2
        go_roundg (n - 2 * c)
        case measure => omega
        case rel => exact ⟨2 * c, dk, vint (by omega), by omega, by omega, Nat.le_refl _, hds, S1, HP, T1⟩
    ·have hz : ¬ (c : Int) < (n : Int) := by omega
     go_wp2
     go_end0
     exact ⟨rfl, dk, HP.out, HB.out.whole (by omega), S1.out⟩
theorem stableFunc_w (zE : ∀ w, (Go.sizeOf 206).run Tryz.prog w = .ok k w) (eg : ∀ args w, (callFunc g args).run Tryz.prog w = .ok (.enter g args) w) (hcmp : CmpLays Tryz.prog g cb enc k cf blk off d0.size w0) (hO : SWO (ltOf cf)) (R : RowK enc k w0 blk off d0)
  (d : Array α) (w : World) (hs : d0.size = d.size) (S : SWK enc k w0 blk off d w) (hsz : d.size < 1000000000) :
  Calls Tryz.prog 152 #[.slice (some ⟨blk, off, none⟩) d.size cap, .func (.func g) #[] cb] w fun e w' => e = .returned (.tuple #[]) ∧ MerOut enc k w0 blk off (ltOf cf) 0 d.size d w' := by
 have H := Lib.hid (fun W h => stable_w (cap := cap) zE eg hcmp hO R d.size d W rfl hs h hsz)
 have S0 : Aside (SWK enc k w0 blk off d w) := S
 clear S hcmp hO
 go_enter Tryz.func152, Tryz.ntmps152
 go_wp2_with fail
 refine (H.out _ S0.out).mono ?_
 rintro e w1 ⟨rfl, hmo⟩
 have HM := Lib.hid hmo
 clear hmo
 go_wp2
 go_end0
 exact ⟨rfl, HM.out⟩
end
end Go.Proofs.YtdpbhjaicgkblaaGreatDoor

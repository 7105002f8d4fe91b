/- Joined by merge.py: Stable3. -/
import Derived.Test.YtdpbhjaicgkblaaGreatDoorGSt
/- slices.symMergeCmpFunc at events: the way through all. -/
namespace Go.Proofs.YtdpbhjaicgkblaaGreatDoor
set_option linter.unusedSimpArgs false
set_option linter.unusedVariables false
open Go.Shelf Go.RowKit Go.Lib Go.Sort St
section
variable {α : Type} [Inhabited α] {k : Nat} {enc : α → List Value} {blk off cap : Nat} {d0 : Array α} {w0 : World} {g : Nat} {cb : Array Value} {cf : α → α → Int}
theorem half_done {lt : α → α → Bool} {a s mid : Nat} {e : Array α} (h1 : SortedIn lt a s e) (h2 : SortedIn lt s mid e) (h3 : a ≤ s) (h4 : s ≤ mid) (h5 : ¬ (a < s ∧ s < mid)) : SortedIn lt a mid e := by
 rcases Nat.lt_or_eq_of_le h3 with h | h
 ·rcases Nat.lt_or_eq_of_le h4 with h' | h'
  ·exact absurd ⟨h, h'⟩ h5
  ·subst h'; exact h1
 ·subst h; exact h2
theorem mer_fin {lt : α → α → Bool} {a mid b : Nat} {d d1 d2 d3 : Array α} {w' : World} (e1 : a ≤ mid) (e2 : mid ≤ b) (e3 : b ≤ d1.size) (PR : PermIn a b d d1) (GC : ∀ x y, a ≤ x → x < mid → mid ≤ y → y < b → lt d1[y]! d1[x]! = false) (P1 : PermIn a mid d1 d2) (T1 : SortedIn lt a mid d2) (P2 : PermIn mid b d2 d3) (T2 : SortedIn lt mid b d3) (S9 : SWK enc k w0 blk off d3 w') : MerOut enc k w0 blk off lt a b d w' :=
 ⟨_, permIn_trans _ _ _ _ _ PR (permIn_trans _ _ _ _ _ (permIn_mono _ _ _ _ _ _ (Nat.le_refl _) e2 e3 P1) (permIn_mono _ _ _ _ _ _ e1 (Nat.le_refl _) (by rw [P1.1]; exact e3) P2)), joined (mid := mid) e1 e2 e3 GC P1 T1 P2 T2, S9⟩
theorem rotate_i (zE : ∀ w, (Go.sizeOf 206).run Tryz.prog w = .ok k w) (a m b : Nat) (d : Array α) (w : World) (R : RowK enc k w0 blk off d0) (hs : d0.size = d.size) (S : SWK enc k w0 blk off d w) (h1 : a < m) (h2 : m < b) (hb : b ≤ d.size) (hsz : d.size < 4611686018427387904) (B : Int) (hB : B = b) :
  Calls Tryz.prog 207 #[.slice (some ⟨blk, off, none⟩) d.size cap, .int .i64 a, .int .i64 m, .int .i64 B, .func (.func g) #[] cb] w fun e w' => e = .returned (.tuple #[]) ∧ RotOut enc k w0 blk off a m b d w' := by
 subst hB
 exact rotate_w zE a m b d w R hs S h1 h2 hb hsz
set_option maxHeartbeats 16000000 in
set_option maxRecDepth 1000000 in
theorem symMerge_all (zE : ∀ w, (Go.sizeOf 206).run Tryz.prog w = .ok k w) (eg : ∀ args w, (callFunc g args).run Tryz.prog w = .ok (.enter g args) w) (hcmp : CmpLays Tryz.prog g cb enc k cf blk off d0.size w0) (hO : SWO (ltOf cf)) (R : RowK enc k w0 blk off d0) :
  ∀ (N a m b : Nat) (d : Array α) (w : World), b - a < N → d0.size = d.size → SWK enc k w0 blk off d w → a < m → m < b → b ≤ d.size → d.size < 4611686018427387904 → SortedIn (ltOf cf) a m d → SortedIn (ltOf cf) m b d →
  ∀ (B C : Int), B = m → C = b → Calls Tryz.prog 192 #[.slice (some ⟨blk, off, none⟩) d.size cap, .int .i64 a, .int .i64 B, .int .i64 C, .func (.func g) #[] cb] w fun e w' => e = .returned (.tuple #[]) ∧ MerOut enc k w0 blk off (ltOf cf) a b d w' := by
 intro N
 induction N with
 | zero => intro a m b d w h; exact absurd h (Nat.not_lt_zero _)
 | succ N ih =>
  intro a m b d w hN hs S hab hmb hb hsz s1 s2 B C hB hC
  subst hB hC
  by_cases c1 : m = a + 1
  ·subst c1
   have h := symMerge_one (cap := cap) zE eg hcmp hO a b d w R hs S hmb s2 hb hsz
   rw [show ((a : Int) + 1) = ((a + 1 : Nat) : Int) by omega] at h
   exact h
  ·by_cases c2 : b = m + 1
   ·exact symMerge_two zE eg hcmp hO a m b d w R hs S c2 (by omega) s1 hb hsz
   ·have aE := aggE
    have mixed : Tryz.prog.follows .mixedOrders = true := by kernel_rfl
    have HC : Aside _ := hcmp
    have S0 : Aside (SWK enc k w0 blk off d w) := S
    have HO : Aside _ := hO
    have HS1 : Aside _ := s1
    have HS2 : Aside _ := s2
    have IH : Aside _ := ih
    clear S hcmp hO ih s1 s2
    have h1 : ((m : Int) - (a : Int) == 1) = false := by simp; omega
    have h2 : ((b : Int) - (m : Int) == 1) = false := by simp; omega
    obtain ⟨mid, hmid⟩ : ∃ mid : Nat, ((a : Int) + (b : Int)) / 2 = (mid : Int) := ⟨(a + b) / 2, by omega⟩
    have m1 : 2 * mid ≤ a + b := by omega
    have m2 : a + b ≤ 2 * mid + 1 := by omega
    have HMID := Lib.hid hmid
    by_cases c3 : mid < m
    all_goals
     obtain ⟨lo, r0, hlo⟩ : ∃ lo r0 : Nat, (mid < m ∧ lo + b = mid + m ∧ r0 = mid) ∨ (m ≤ mid ∧ lo = a ∧ r0 = m) := by
      first
      | exact ⟨mid + m - b, mid, .inl ⟨by omega, by omega, rfl⟩⟩
      | exact ⟨a, m, .inr ⟨by omega, rfl, rfl⟩⟩
     first
     | have hm : ((a : Int) + (b : Int)) / 2 < (m : Int) := by omega
     | have hm : ¬ ((a : Int) + (b : Int)) / 2 < (m : Int) := by omega
     clear hmid
     go_enter Tryz.func192, Tryz.ntmps192
     have HLO := Lib.hid hlo
     have b1 : a ≤ lo := by omega
     have b2 : lo ≤ r0 := by omega
     have b3 : r0 ≤ mid := by omega
     have b4 : r0 ≤ m := by omega
     have b5 : mid + m ≤ lo + b := by omega
     clear hlo
     go_wp2_with fail
     rw [HMID.out]
     obtain ⟨p, hp⟩ : ∃ p : Nat, (mid : Int) + (m : Int) - 1 = (p : Int) := ⟨mid + m - 1, by omega⟩
     have hp2 : p + 1 = mid + m := by omega
     rw [hp]
     have HPP := Lib.hid hp2
     have p1 : p + 1 ≤ mid + m := by omega
     have p2 : mid + m ≤ p + 1 := by omega
     clear hp hp2 hm
     go_loopg [20, 21] (r0 - lo) (fun kx s20 s21 wr => ∃ (s r : Nat), s20 = .int .i64 s ∧ s21 = .int .i64 r ∧ lo ≤ s ∧ s ≤ r ∧ r ≤ r0 ∧ r - s ≤ kx ∧ Aside (SWK enc k w0 blk off d wr) ∧ Hid (r = r0 ∨ ltOf cf d[p - r]! d[r]! = true) ∧ Hid (s = lo ∨ ltOf cf d[p + 1 - s]! d[s - 1]! = false))
     case atStart => exact ⟨lo, r0, by congr 1; have := HLO.out; omega, by congr 1; have := HLO.out; omega, Nat.le_refl _, b2, Nat.le_refl _, Nat.le_refl _, S0, .inl rfl, .inl rfl⟩
     case round =>
      clear S0
      obtain ⟨s, r, rfl, rfl, hls, hsr, hrr, hkx, S1, F1, F2⟩ := hrel
      by_cases hlt : s < r
      ·have hz : (s : Int) < (r : Int) := by omega
       go_wp2_with fail
       obtain ⟨h, hh⟩ : ∃ h : Nat, ((s : Int) + (r : Int)) / 2 = (h : Int) := ⟨(s + r) / 2, by omega⟩
       have hih : s ≤ h := by omega
       have hhj : h < r := by omega
       have hhp : (h : Int) ≤ (p : Int) := by omega
       rw [hh]
       clear hh
       cases hlv : ltOf cf d[p - h]! d[h]!
       all_goals
        have ea1 : ((p : Int) - (h : Int)).toNat = p - h := by omega
        have pa1 : (0 : Int) ≤ (p : Int) - (h : Int) := by omega
        have ba1 : (p : Int) - (h : Int) < (d.size : Int) := by omega
        have ra1 : IntKind.i64.wrap ((p : Int) - (h : Int)) = (p : Int) - (h : Int) := by rw [IntKind.wrap_i64]; omega
        have ec1 : ((h : Int)).toNat = h := by omega
        have pc1 : (0 : Int) ≤ (h : Int) := by omega
        have bc1 : (h : Int) < (d.size : Int) := by omega
        have rc1 : IntKind.i64.wrap ((h : Int)) = (h : Int) := by rw [IntKind.wrap_i64]; omega
        obtain ⟨x1, hx1⟩ : ∃ x, x = d[p - h]! := ⟨_, rfl⟩
        obtain ⟨y1, hy1⟩ : ∃ x, x = d[h]! := ⟨_, rfl⟩
        have la1 := S1.out.ld R (by omega) Tryz.prog (p - h) (by omega)
        have lb1 := S1.out.ld R (by omega) Tryz.prog (h) (by omega)
        rw [← hx1] at la1
        rw [← hy1] at lb1
        have hc1 := S1.out.cmp HC.out (by omega) x1 y1
        first
        | have F2' : Hid (h + 1 = lo ∨ ltOf cf d[p + 1 - (h + 1)]! d[h + 1 - 1]! = false) := .inr (by rw [show p + 1 - (h + 1) = p - h by omega, Nat.add_sub_cancel]; exact hlv)
        | have F1' : Hid (h = r0 ∨ ltOf cf d[p - h]! d[h]! = true) := .inr hlv
        first
        | have hd1 : decide (cf x1 y1 < 0) = false := by rw [hx1, hy1]; exact hlv
        | have hd1 : decide (cf x1 y1 < 0) = true := by rw [hx1, hy1]; exact hlv
        have HLV := Lib.hid hlv
        clear hx1 hy1 hlv
        go_wp2_with fail
        go_quiet_grown (first | (go_at_fn g; refine Calls.grown_of (hc1 _ _)))
        have S1' : Aside (SWK enc k w0 blk off d (grow (wr.drewN nq) osq)) := S1.out.grown nq osq
        clear la1 lb1 hc1 S1
        generalize grow (wr.drewN nq) osq = wu at S1' ⊢
        clear nq osq
        go_wp2
       ·clear F2
        go_roundg (r - (h + 1))
        case measure => omega
        case rel => exact ⟨h + 1, r, by go_num, rfl, by omega, by omega, hrr, Nat.le_refl _, S1', F1, F2'⟩
       ·clear F1
        go_roundg (h - s)
        case measure => omega
        case rel => exact ⟨s, h, rfl, rfl, hls, hih, by omega, Nat.le_refl _, S1', F1', F2⟩
      ·have hz : ¬ (s : Int) < (r : Int) := by omega
       obtain rfl : s = r := by omega
       clear hlt hsr hkx
       obtain ⟨t, ht⟩ : ∃ t : Nat, mid + m = s + t := ⟨mid + m - s, by omega⟩
       have HT := Lib.hid ht
       have t1 : m ≤ t := by omega
       have t2 : t ≤ b := by omega
       have t4 : mid + m ≤ s + t := by omega
       have t5 : s + t ≤ mid + m := by omega
       have t6 : s ≤ mid := by omega
       have t3 : (mid : Int) + (m : Int) - (s : Int) = (t : Int) := by omega
       have HT3 := Lib.hid t3
       have hhalf := fun (e : Array α) (hr : Rot s m t d e) => halves HO.out (b := b) (mid := mid) (show a ≤ s by omega) (show s ≤ m by omega) t1 t2 ht HS1.out HS2.out
        (by
          rcases F2.out with F | F
          ·have := HLO.out; omega
          ·right; right; rw [show p + 1 - s = t by omega] at F; exact F)
        (by
          rcases F1.out with F | F
          ·have := HLO.out; omega
          ·right; right; rw [show p - s = t - 1 by omega] at F; exact F) hr
       have HH : Aside _ := hhalf
       clear ht t3 hhalf F1 F2
       by_cases e1 : s < m
       by_cases e2 : m < t
       all_goals
        first
        |
         have z5 : (s : Int) < (m : Int) := by omega
         have z6 : (m : Int) < (mid : Int) + (m : Int) - (s : Int) := by omega
         have HRO := Lib.hid (fun W h => rotate_i (cap := cap) (g := g) (cb := cb) zE s m t d W R hs h e1 e2 (by omega) hsz _ HT3.out)
         clear e1 e2
         go_wp2_with fail
         refine (HRO.out _ S1.out).mono ?_
         rintro e w7 ⟨rfl, hmo⟩
         obtain ⟨d1, r1', s7⟩ := hmo
         have RO := Lib.hid r1'
         have S7 := Lib.hid s7
         clear r1' s7 HRO S1
        |
         have z5 : (s : Int) < (m : Int) := by omega
         have z6 : ¬ (m : Int) < (mid : Int) + (m : Int) - (s : Int) := by omega
         obtain ⟨d1, e3⟩ : ∃ x, x = d := ⟨_, rfl⟩
         have RO : Hid (Rot s m t d d1) := by rw [e3, show t = m by omega]; exact Rot.self s m d
         have S7 : Hid (SWK enc k w0 blk off d1 wr) := by rw [e3]; exact S1.out
         clear S1 e1 e2 e3
         rename World => w7
        |
         have z5 : ¬ (s : Int) < (m : Int) := by omega
         obtain ⟨d1, e3⟩ : ∃ x, x = d := ⟨_, rfl⟩
         have RO : Hid (Rot s m t d d1) := by rw [e3, show s = m by omega]; exact Rot.self' m t d
         have S7 : Hid (SWK enc k w0 blk off d1 wr) := by rw [e3]; exact S1.out
         clear S1 e1 e3
         rename World => w7
        have hgg := HH.out d1 RO.out
        have hd1 : d1.size = d.size := RO.out.1
        have PR := permIn_mono _ _ _ _ _ _ (show a ≤ s by omega) t2 hb (rot_perm RO.out (by omega) t1 (by omega))
        have GL := Lib.hid (And.intro hgg.1.1 hgg.1.2.1)
        have GU := Lib.hid (And.intro hgg.1.2.2.1 hgg.1.2.2.2)
        have GC := Lib.hid hgg.2
        clear hgg
        by_cases f1 : a < s
        by_cases f2 : s < mid
        all_goals
         first
         |
          have z1 : (a : Int) < (s : Int) := by omega
          have z2 : (s : Int) < (mid : Int) := by omega
          have hc := IH.out a s mid d1 w7 (by omega) (by omega) S7.out f1 f2 (by omega) (by omega) GL.out.1 GL.out.2 _ _ rfl rfl
          rw [hd1] at hc
          have HCC := Lib.hid hc
          have HD1 := Lib.hid hd1
          clear hc f1 f2 hd1
          go_wp2_with fail
          refine HCC.out.mono ?_
          rintro e w8 ⟨rfl, hmo⟩
          obtain ⟨d2, p1', t1', s8⟩ := hmo
          have hd2 : d2.size = d.size := p1'.1.trans HD1.out
          have hd1 : d1.size = d.size := HD1.out
          have P1 := Lib.hid p1'
          have T1 := Lib.hid t1'
          have S8 := Lib.hid s8
          clear p1' t1' s8 HCC HD1
         |
          first
          | have z2 : ¬ (s : Int) < (mid : Int) := by omega
          | have z1 : ¬ (a : Int) < (s : Int) := by omega
          obtain ⟨d2, e2⟩ : ∃ x, x = d1 := ⟨_, rfl⟩
          have hd2 : d2.size = d.size := by rw [e2]; exact hd1
          have P1 : Hid (PermIn a mid d1 d2) := by rw [e2]; exact permIn_refl d1 a mid
          have S8 : Hid (SWK enc k w0 blk off d2 w7) := by rw [e2]; exact S7.out
          have T1 : Hid (SortedIn (ltOf cf) a mid d2) := by rw [e2]; exact half_done GL.out.1 GL.out.2 (by omega) (by omega) (by omega)
          try have z1 : (a : Int) < (s : Int) := by omega
          clear f1 e2
          rename World => w8
         by_cases f3 : mid < t
         by_cases f4 : t < b
         all_goals
          first
          |
           have z3 : (mid : Int) < (mid : Int) + (m : Int) - (s : Int) := by omega
           have z4 : (mid : Int) + (m : Int) - (s : Int) < (b : Int) := by omega
           have hc := IH.out mid t b d2 w8 (by omega) (by omega) S8.out f3 f4 (by omega) (by omega) (sorted_perm_out GU.out.1 P1.out (.inr (Nat.le_refl _))) (sorted_perm_out GU.out.2 P1.out (.inr (by omega))) _ _ HT3.out rfl
           rw [hd2] at hc
           have HCC := Lib.hid hc
           clear hc f3 f4
           go_wp2_with fail
           refine HCC.out.mono ?_
           rintro e w9 ⟨rfl, hmo⟩
           obtain ⟨d3, p2, t2', s9⟩ := hmo
           have P2 := Lib.hid p2
           have T2 := Lib.hid t2'
           have S9 := Lib.hid s9
           clear p2 t2' s9
          |
           have P2 := Lib.hid (permIn_refl d2 mid b)
           have T2 := Lib.hid (half_done (sorted_perm_out GU.out.1 P1.out (.inr (Nat.le_refl _))) (sorted_perm_out GU.out.2 P1.out (.inr (by omega))) (by omega) (by omega) (by omega))
           have S9 := S8
           first
           | have z4 : ¬ (mid : Int) + (m : Int) - (s : Int) < (b : Int) := by omega
           | have z3 : ¬ (mid : Int) < (mid : Int) + (m : Int) - (s : Int) := by omega
           try have z3 : (mid : Int) < (mid : Int) + (m : Int) - (s : Int) := by omega
          go_wp2
          all_goals go_end0
          all_goals exact ⟨rfl, mer_fin (mid := mid) (by omega) (by omega) (by omega) PR GC.out P1.out T1.out P2.out T2.out S9.out⟩
end
end Go.Proofs.YtdpbhjaicgkblaaGreatDoor

/- civiltimelaw24: long, Span, Same, has. -/
import Derived.Test.YtoonaidpmahgcaaGreatJVerW2
import Derived.Test.YtoonaidpmahgcaaGreatJSpW
import Derived.Test.YtoonaidpmahgcaaGreatGZc
import Derived.IntWalk
import Derived.BigQuiet
namespace Go.Proofs.YtoonaidpmahgcaaGreat
set_option linter.unusedSimpArgs false
set_option linter.unusedVariables false
open Go.ChangeShapes Go.WideShapes Go.ChangeAt Go.RowKit

theorem r24span_any (a b : Int) (w : World) : Calls Tryz.prog 18 #[.agg #[.int .i64 a, .int .i64 b]] w fun e w' => e = .returned (.bool (spanV a b)) ∧ Below w.heap.size w w' := by
  have HBZ := Lib.hid (show Below w.heap.size w (w.alloc (.cells #[.int .i64 a, .int .i64 b] 29)) from (Below.refl _ _).alloc (Nat.le_refl _) _)
  unfold spanV
  by_cases h1 : -62135596800 ≤ a
  · rw [decide_eq_true h1, Bool.true_and]
    by_cases h2 : a < b
    · rw [decide_eq_true h2, Bool.true_and]
      go_enter Tryz.func18, Tryz.ntmps18
      go_wp2
      go_ret
      exact ⟨rfl, HBZ.out⟩
    · rw [decide_eq_false h2, Bool.false_and]
      go_enter Tryz.func18, Tryz.ntmps18
      go_wp2
      go_ret
      exact ⟨ret1 (vbool (by simp)), HBZ.out⟩
  · rw [decide_eq_false h1, Bool.false_and]
    go_enter Tryz.func18, Tryz.ntmps18
    go_wp2
    go_ret
    exact ⟨ret1 (vbool (by simp)), HBZ.out⟩
def longV (a b y : Int) : Bool := spanV a b && decide (y * 31622400 < b - a)
theorem long_any (a b y : Int) (hy : 0 ≤ y ∧ y ≤ 1000) (w : World) : Calls Tryz.prog 15 #[.agg #[.int .i64 a, .int .i64 b], .int .i64 y] w fun e w' => e = .returned (.bool (longV a b y)) ∧ Below w.heap.size w w' := by
  have HS := Lib.hid (fun W => r24span_any a b W)
  have b0 := Blk.new w #[.int .i64 a, .int .i64 b] 29
  have HBZ := Lib.hid (show Below w.heap.size w (w.alloc (.cells #[.int .i64 a, .int .i64 b] 29)) from (Below.refl _ _).alloc (Nat.le_refl _) _)
  unfold longV
  cases hs : spanV a b
  · rw [hs] at HS
    clear hs
    go_enter Tryz.func15, Tryz.ntmps15
    go_wp2_with fail
    refine (HS.out _).mono ?_
    rintro e w1 ⟨rfl, hb1⟩
    go_wp2
    go_ret
    exact ⟨ret1 (vbool (by simp)), HBZ.out.trans (hb1.mono HBZ.out.size)⟩
  · rw [hs] at HS
    have hb : -62135596800 ≤ a ∧ a < b ∧ b ≤ 253402300800 := by
      unfold spanV at hs
      simp at hs
      omega
    clear hs
    go_enter Tryz.func15, Tryz.ntmps15
    go_wp2_with fail
    generalize w.alloc (.cells #[.int .i64 a, .int .i64 b] 29) = W at *
    refine (HS.out _).mono ?_
    rintro e w1 ⟨rfl, hb1⟩
    have k0 := b0.below hb1 b0.lt
    have x0 := k0.cell 0 (v := .int .i64 a) rfl
    have x1 := k0.cell 1 (v := .int .i64 b) rfl
    go_wp2
    go_ret
    exact ⟨ret1 (vbool (by rw [Bool.true_and]; rw [decide_eq_decide]; omega)), HBZ.out.trans (hb1.mono HBZ.out.size)⟩
def hasV (l : List Spn) (x : Int) : Bool := l.any fun s => decide (s.fr ≤ x) && decide (x < s.to)
theorem hasV_iff {l : List Spn} {x : Int} : hasV l x = true ↔ hasL l x := by
  unfold hasV hasL Spn.has
  simp
theorem has1_any (B : Nat) (x : Int) (w : World) (hB : Blk w B #[.int .i64 x] 3) : PredBelow Tryz.prog 74 #[.pointer (some ⟨B, 0, none⟩)] (fun s : Spn => .agg (encN s).toArray) (fun s => decide (s.fr ≤ x) && decide (x < s.to)) w := by
  intro W s hb
  have k := (hB.below hb hB.lt).alloc (.cells #[.int .i64 s.fr, .int .i64 s.to] 29)
  have c0 := k.cell 0 (v := .int .i64 x) rfl
  have hB2 := hb.alloc hb.size (.cells #[.int .i64 s.fr, .int .i64 s.to] 29)
  show Calls Tryz.prog 74 #[.agg #[.int .i64 s.fr, .int .i64 s.to], .pointer (some ⟨B, 0, none⟩)] W _
  by_cases h1 : s.fr ≤ x
  · have d1 : decide (s.fr ≤ x) = true := decide_eq_true h1
    go_enter Tryz.func74, Tryz.ntmps74
    go_wp2
    go_ret
    exact ⟨ret1 (vbool (by simp [h1])), hB2⟩
  · have d1 : decide (s.fr ≤ x) = false := decide_eq_false h1
    go_enter Tryz.func74, Tryz.ntmps74
    go_wp2
    go_ret
    exact ⟨ret1 (vbool (by simp [h1])), hB2⟩
theorem has_any (l : List Spn) (v : Value) (x : Int) (w : World) (hl : l.length ≤ 100000) (hR : Rd encN 2 w v l) : Calls Tryz.prog 24 #[v, .int .i64 x] w fun e w' => e = .returned (.bool (hasV l x)) ∧ Below w.heap.size w w' := by
  have bx := Blk.new w #[.int .i64 x] 3
  have hB : Below w.heap.size w (w.alloc (.cells #[.int .i64 x] 3)) := (Below.refl _ _).alloc (Nat.le_refl _) _
  have H := Lib.hid (cfS_any (fun s => decide (s.fr ≤ x) && decide (x < s.to)) 74 #[.pointer (some ⟨w.heap.size, 0, none⟩)] (enters_of Tryz.func74 (by kernel_rfl) rfl) v l _ (has1_any w.heap.size x _ bx) (by omega) (hR.on hB))
  obtain ⟨A, c, rfl⟩ := rd_vf hR
  clear hR
  unfold hasV
  go_enter Tryz.func24, Tryz.ntmps24
  go_wp2_with fail
  refine H.out.mono ?_
  rintro e w1 ⟨rfl, hb1⟩
  go_wp2
  go_ret
  exact ⟨rfl, hB.trans (hb1.mono hB.size)⟩
set_option maxHeartbeats 2000000 in
theorem same_yes (l : List Spn) (v u : Value) (w : World) (hl : l.length ≤ 1000000) (hv : Rd encN 2 w v l) (hu : Rd encN 2 w u l) : Calls Tryz.prog 20 #[v, u] w fun e w' => e = .returned (.bool true) ∧ Below w.heap.size w w' := by
  have HV := Lib.hid hv
  have HU := Lib.hid hu
  obtain ⟨A, c, rfl⟩ := rd_vf hv
  obtain ⟨A', c', rfl⟩ := rd_vf hu
  clear hv hu
  go_enter Tryz.func20, Tryz.ntmps20
  go_wp2
  go_loopw [5] (fun i wr => ∃ k : Nat, k ≤ l.length ∧ i = .int .i64 k ∧ Below w.heap.size w wr) (fun i _ => l.length - (intOf i).toNat)
  case atStart => exact ⟨0, Nat.zero_le _, rfl, Below.refl _ _⟩
  case round =>
    obtain ⟨k, hk, rfl, hb⟩ := hrel
    by_cases hlt : k < l.length
    · obtain ⟨g, o, hA, hg, hc⟩ : ∃ g o, A = some ⟨g, o, none⟩ ∧ g < wr.heap.size ∧ ∀ i u, (encN l[k]!)[i]? = some u → wr.cell? ⟨g, o + k * 2 + i, none⟩ = some u := by
        rcases HV.out.on hb with ⟨e, _⟩ | ⟨g, o, c2, hv, hg, hc⟩
        · rw [e] at hlt; simp at hlt
        · injection hv with e1 _ _
          exact ⟨g, o, e1, hg, hc k hlt⟩
      obtain ⟨g', o', hA', hg', hc'⟩ : ∃ g o, A' = some ⟨g, o, none⟩ ∧ g < wr.heap.size ∧ ∀ i u, (encN l[k]!)[i]? = some u → wr.cell? ⟨g, o + k * 2 + i, none⟩ = some u := by
        rcases HU.out.on hb with ⟨e, _⟩ | ⟨g, o, c2, hv, hg, hc⟩
        · rw [e] at hlt; simp at hlt
        · injection hv with e1 _ _
          exact ⟨g, o, e1, hg, hc k hlt⟩
      subst hA hA'
      have c0 := hc 0 _ rfl
      have c1 := hc 1 _ rfl
      have d0 := hc' 0 _ rfl
      have d1 := hc' 1 _ rfl
      rw [Nat.add_zero] at c0 d0
      generalize (l[k]!).fr = f at *
      generalize (l[k]!).to = t at *
      have pc0 : ∀ p : Bel wr.heap.size wr, p.w1.cell? ⟨g, o + k * 2, none⟩ = some (.int .i64 f) := fun p => (bel_cell p _ _ hg).trans c0
      have pc1 : ∀ p : Bel wr.heap.size wr, p.w1.cell? ⟨g, o + k * 2 + 1, none⟩ = some (.int .i64 t) := fun p => (bel_cell p _ _ hg).trans c1
      have pd0 : ∀ p : Bel wr.heap.size wr, p.w1.cell? ⟨g', o' + k * 2, none⟩ = some (.int .i64 f) := fun p => (bel_cell p _ _ hg').trans d0
      have pd1 : ∀ p : Bel wr.heap.size wr, p.w1.cell? ⟨g', o' + k * 2 + 1, none⟩ = some (.int .i64 t) := fun p => (bel_cell p _ _ hg').trans d1
      clear hc hc' c0 c1 d0 d1
      go_wp2_with fail
      refine wp_region_bel (by kernel_rfl) (by kernel_rfl) ?_
      repeat (go_big_quiet_step (fail))
      refine wpQuiet_nil ?_
      intro w9 hw'
      obtain ⟨⟨w9', hb9⟩, hw2⟩ := hw'
      subst hw2
      clear pc0 pc1 pd0 pd1
      go_wp2
      go_roundw
      case rel => exact ⟨k + 1, by omega, by go_num, hb.trans (hb9.mono hb.size)⟩
      case measure => simp [intOf]; omega
    · have hk' : k = l.length := by omega
      subst hk'
      go_wp2
      go_ret
      exact ⟨rfl, hb⟩

end Go.Proofs.YtoonaidpmahgcaaGreat

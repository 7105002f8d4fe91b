/- Joined by merge.py: Intv, LocW11, RunsW. -/
import Derived.Test.YtoonaidpmahgcaaGreatGZk
import Derived.Test.YtoonaidpmahgcaaGreatJGapsQ
import Derived.Test.YtoonaidpmahgcaaGreatGLa
import Derived.Test.YtoonaidpmahgcaaGreatGLb
import Derived.Test.YtoonaidpmahgcaaGreatGZc
import Derived.BigQuiet
/- interval.Meet. Printed by gen_intv.py. -/
namespace Go.Proofs.YtoonaidpmahgcaaGreat
set_option linter.unusedSimpArgs false
set_option linter.unusedVariables false
open Go.ChangeShapes Go.WideShapes Go.ChangeAt Go.RowKit

theorem iv_ok (s : Spn) : ivB s.fr s.to = s.ok := by
  rw [Bool.eq_iff_iff, Spn.ok_iff]
  unfold ivB lineB
  simp only [Bool.and_eq_true, decide_eq_true_eq]
  omega
def encN (s : Spn) : List Value := [.int .i64 s.fr, .int .i64 s.to]
theorem encN_len (s : Spn) : (encN s).length = 2 := rfl
theorem encN_one (s : Spn) : ∀ v ∈ encN s, v.oneCell' = true := by intro v hv; simp [encN] at hv; rcases hv with rfl | rfl <;> rfl
def meetV (a b : Spn) : Spn × Bool := if meetB a b = true then (meetF a b, true) else (⟨0, 0⟩, false)
theorem meetV_no {a b : Spn} (h : meetB a b = false) : meetV a b = (⟨0, 0⟩, false) := by unfold meetV; rw [h]; rfl
theorem meetV_yes {a b : Spn} (h : meetB a b = true) : meetV a b = (meetF a b, true) := by unfold meetV; rw [h]; rfl
theorem set2 {W : World} {B : Nat} {u v : Value} {T : TypeId} (h : Blk W B #[u, v] T) (x y : Value) : ((W.setCell ⟨B, 0, none⟩ x).setCell ⟨B, 1, none⟩ y).cell? ⟨B, 0, none⟩ = some x ∧ ((W.setCell ⟨B, 0, none⟩ x).setCell ⟨B, 1, none⟩ y).cell? ⟨B, 1, none⟩ = some y := by
  have k0 := h.cl 0 _ rfl
  have k1 := h.cl 1 _ rfl
  have e1 := (setNe W ⟨B, 0, none⟩ ⟨B, 1, none⟩ x (by simp)).trans k1
  exact ⟨(setNe _ ⟨B, 1, none⟩ ⟨B, 0, none⟩ y (by simp)).trans (World.cell?_setCell_same' _ ⟨B, 0, none⟩ x (by rw [k0]; rfl)), World.cell?_setCell_same' _ ⟨B, 1, none⟩ y (by rw [e1]; rfl)⟩
def MeetEnd (s t : Spn) (w : World) (e : Ending) (w' : World) : Prop := e = .returned (.tuple #[.agg #[.int .i64 (meetV s t).1.fr, .int .i64 (meetV s t).1.to], .bool (meetV s t).2]) ∧ Below w.heap.size w w'

end Go.Proofs.YtoonaidpmahgcaaGreat

/- local.images. Printed by gen_locw11.py. -/
namespace Go.Proofs.YtoonaidpmahgcaaGreat
set_option linter.unusedSimpArgs false
set_option linter.unusedVariables false
open Go.RowKit Go.Shelf Go.ChangeShapes Go.WideShapes Go.ChangeAt
attribute [local go_sem] Oper.semAt_some

/-- forty years are mild -/
theorem mild40 {z : Zn} (hv : z.valid = true) (ht : z.table.length ≤ 300) (hl : z.tail.length ≤ 12) {a b : Int} (hb : b - a ≤ 1262500000) : Mild z (wideA a) (wideB b) := by
  refine ⟨hv, by unfold wideA; omega, by unfold wideB; omega, by unfold wideA wideB; omega, ?_⟩
  have := bet_count40 hv ht hl (a := wideA a) (b := wideB b) (by unfold wideA wideB; omega)
  omega

def imgW (p : Piece) : Spn := ⟨wrap64 (p.fr + p.off), wrap64 (p.to + p.off)⟩
def imW (ps : List Piece) : List Spn := ps.map imgW
theorem imW_len (ps : List Piece) : (imW ps).length ≤ ps.length := Nat.le_of_eq (List.length_map _)
theorem imW_snoc (ps : List Piece) (x : Piece) : imW (ps ++ [x]) = imW ps ++ [imgW x] := by unfold imW; simp
theorem imgW_F {ps : List Piece} {f b : Int} (h : Pcs ps f b) : imW ps = imgs ps := by
  unfold imgs imW
  refine List.map_congr_left fun p hp => ?_
  have h1 := (contig_bd h.ct).1 p hp
  have h2 := h.off p hp
  have := h.lo
  have := h.hi
  unfold imgW Piece.img
  rw [show wrap64 (p.fr + p.off) = p.fr + p.off by unfold wrap64; omega, show wrap64 (p.to + p.off) = p.to + p.off by unfold wrap64; omega]
/-- the loop of images -/
def ImI (Bo base : Nat) (pre : List Piece) (W : World) : Prop := BoxRow W Bo 33 29 2 base (imW pre).length ((imW pre).flatMap encN)
theorem imI_own (D Bo base : Nat) : OwnT 23 D (ImI Bo base) := boxRow_ownT _ _ (by decide) (by decide)
theorem info_span : (Tryz.prog.info? 29).map (fun i => (i.zero, i.size, i.bytes)) = some (some (.agg #[.int .i64 0, .int .i64 0]), 2, 16) := by kernel_rfl

end Go.Proofs.YtoonaidpmahgcaaGreat

/- runs.Valid, runs.search, runs.Has. -/
namespace Go.Proofs.YtoonaidpmahgcaaGreat
set_option linter.unusedSimpArgs false
set_option linter.unusedVariables false
open Go.ChangeShapes Go.WideShapes Go.ChangeAt Go.RowKit

/-- what runs.Valid looks at in one place -/
def runAt (l : List Spn) (k : Nat) : Bool := (l[k]!).ok && (decide (k = 0) || decide ((l[k - 1]!).to < (l[k]!).fr))
theorem runAt_all : ∀ {l : List Spn}, runsB l = true ↔ ∀ k, k < l.length → runAt l k = true
  | [] => ⟨fun _ k h => absurd h (Nat.not_lt_zero _), fun _ => rfl⟩
  | [s] => by
    constructor
    · intro h k hk
      obtain rfl : k = 0 := by simpa using hk
      unfold runAt
      rw [show runsB [s] = s.ok from rfl] at h
      simp [h]
    · intro h
      have h1 := h 0 (by simp)
      unfold runAt at h1
      rw [show runsB [s] = s.ok from rfl]
      simpa using h1
  | s :: t :: l => by
    have ih := runAt_all (l := t :: l)
    rw [runsB, Bool.and_eq_true, Bool.and_eq_true, decide_eq_true_eq, ih]
    constructor
    · rintro ⟨h1, h2, h3⟩ k hk
      match k with
      | 0 => unfold runAt; simp [h1]
      | 1 =>
        have := h3 0 (by simp)
        unfold runAt at this ⊢
        simp at this ⊢
        exact ⟨this, h2⟩
      | k + 2 =>
        have := h3 (k + 1) (by simpa using hk)
        unfold runAt at this ⊢
        simpa using this
    · intro h
      have h0 := h 0 (by simp)
      have h1 := h 1 (by simp)
      unfold runAt at h0 h1
      simp at h0 h1
      refine ⟨h0, h1.2, fun k hk => ?_⟩
      match k with
      | 0 => unfold runAt; simp [h1.1]
      | k + 1 =>
        have := h (k + 2) (by simpa using hk)
        unfold runAt at this ⊢
        simpa using this
theorem cell_alloc_lt {w W : World} {o : Obj} (h : w.alloc o = W) {g i : Nat} (hg : g < w.heap.size) : W.cell? ⟨g, i, none⟩ = w.cell? ⟨g, i, none⟩ := by
  subst h
  exact (alloc_below' w o).cell (p := ⟨g, i, none⟩) hg
def validR (l : List Spn) : Bool := decide (l.length ≤ 2000) && runsB l
theorem rd_at {w : World} {A : Option Addr} {n c : Nat} {l : List Spn} (h : Rd encN 2 w (.slice A n c) l) : n = l.length ∧ ((l = [] ) ∨ ∃ g o, A = some ⟨g, o, none⟩ ∧ g < w.heap.size ∧ ∀ k, k < l.length → w.cell? ⟨g, o + k * 2, none⟩ = some (.int .i64 (l[k]!).fr) ∧ w.cell? ⟨g, o + k * 2 + 1, none⟩ = some (.int .i64 (l[k]!).to)) := by
  rcases h with ⟨e, A', c', hv⟩ | ⟨g, o, c', hv, hg, hc⟩
  · injection hv with _ hn _
    subst e
    exact ⟨hn, .inl rfl⟩
  · injection hv with e1 hn _
    refine ⟨hn, .inr ⟨g, o, e1, hg, fun k hk => ⟨?_, ?_⟩⟩⟩
    · have := hc k hk 0 _ rfl
      rwa [Nat.add_zero] at this
    · exact hc k hk 1 _ rfl
set_option maxRecDepth 100000 in
set_option maxHeartbeats 4000000 in
theorem rValid_any (v : Value) (l : List Spn) (w : World) (h : Rd encN 2 w v l) : Calls Tryz.prog 45 #[v] w fun e w' => e = .returned (.bool (validR l)) ∧ Below w.heap.size w w' := by
  obtain ⟨A, c, rfl⟩ := rd_vf h
  unfold validR
  by_cases h2 : l.length ≤ 2000
  · rw [decide_eq_true h2, Bool.true_and]
    have HR := Lib.hid h
    clear h
    go_enter Tryz.func45, Tryz.ntmps45
    go_wp2
    go_loopw [10] (fun i wr => ∃ k : Nat, k ≤ l.length ∧ i = .int .i64 k ∧ (∀ j, j < k → runAt l j = true) ∧ Below w.heap.size w wr) (fun i _ => l.length - (intOf i).toNat)
    case atStart => exact ⟨0, Nat.zero_le _, rfl, fun j h => absurd h (Nat.not_lt_zero _), Below.refl _ _⟩
    case round =>
      obtain ⟨k, hk, rfl, hall, hbr⟩ := hrel
      by_cases hlt : k < l.length
      · obtain ⟨_, hl | ⟨g, o, rfl, hg, hc⟩⟩ := rd_at (HR.out.on hbr)
        · rw [hl] at hlt; exact absurd hlt (Nat.not_lt_zero _)
        · have ek := hc k hlt
          have e0 := ek.1
          have e1 := ek.2
          have HN := Lib.hid (fun h j (hj : j < k + 1) => show runAt l j = true from by
            rcases Nat.lt_or_eq_of_le (Nat.lt_succ_iff.1 hj) with h1 | h1
            · exact hall j h1
            · rw [h1]; exact h)
          have HF := Lib.hid (fun (h : runAt l k = false) => show runsB l = false from by
            cases hr : runsB l with
            | false => rfl
            | true => rw [runAt_all.1 hr k hlt] at h; cases h)
          have HE := Lib.hid (show runAt l k = ((l[k]!).ok && (decide (k = 0) || decide ((l[k - 1]!).to < (l[k]!).fr))) from rfl)
          have HV := Lib.hid (fun W => iv_any (l[k]!).fr (l[k]!).to W)
          rw [iv_ok l[k]!] at HV
          have bs := Blk.new wr #[.int .i64 (l[k]!).fr, .int .i64 (l[k]!).to] 29
          have hBA : Below w.heap.size w (wr.alloc (.cells #[.int .i64 (l[k]!).fr, .int .i64 (l[k]!).to] 29)) := hbr.alloc hbr.size _
          have hszw := hbr.size
          generalize hWA : wr.alloc (.cells #[.int .i64 (l[k]!).fr, .int .i64 (l[k]!).to] 29) = WA at *
          have hszA : wr.heap.size < WA.heap.size := by rw [← hWA]; simp
          have s0 : ∀ p : Bel WA.heap.size WA, p.w1.cell? ⟨wr.heap.size, 0, none⟩ = some (.int .i64 (l[k]!).fr) := fun p => (bel_cell p _ _ hszA).trans (bs.cl 0 _ rfl)
          have s1 : ∀ p : Bel WA.heap.size WA, p.w1.cell? ⟨wr.heap.size, 1, none⟩ = some (.int .i64 (l[k]!).to) := fun p => (bel_cell p _ _ hszA).trans (bs.cl 1 _ rfl)
          have HEND := Lib.hid (fun w3 (hb3 : Below WA.heap.size WA w3) => hBA.trans (hb3.mono hBA.size))
          by_cases hk0 : k = 0
          · have dk : ¬ 0 < k := by omega
            have dk1 : decide ((0 : Int) < (k : Int)) = false := decide_eq_false (by omega)
            rw [decide_eq_true hk0, Bool.true_or, Bool.and_true] at HE
            generalize (l[k]!).ok = ok at *
            generalize (l[k]!).fr = fr at *
            generalize (l[k]!).to = to at *
            clear hc ek hall hk0
            cases ok
            · go_wp2_with fail
              refine wp_region_bel (by kernel_rfl) (by kernel_rfl) ?_
              repeat (go_big_quiet_step ((go_at_call 116; exact bel_of (Nat.le_refl _) (HV.out _))))
              refine wpQuiet_nil ?_
              intro _ hw'
              obtain ⟨⟨w3, hb3⟩, hw''⟩ := hw'
              subst hw''
              have hB3 := HEND.out _ hb3
              clear s0 s1 hBA
              go_wp2
              go_ret
              rw [HF.out HE.out]
              exact ⟨rfl, hB3⟩
            · go_wp2_with fail
              refine wp_region_bel (by kernel_rfl) (by kernel_rfl) ?_
              repeat (go_big_quiet_step ((go_at_call 116; exact bel_of (Nat.le_refl _) (HV.out _))))
              refine wpQuiet_nil ?_
              intro _ hw'
              obtain ⟨⟨w3, hb3⟩, hw''⟩ := hw'
              subst hw''
              have hB3 := HEND.out _ hb3
              clear s0 s1 hBA
              go_wp2
              go_roundw
              case rel => exact ⟨k + 1, by omega, by go_num, HN.out HE.out, hB3⟩
              case measure => simp [intOf]; omega
          · obtain ⟨m, rfl⟩ : ∃ m, k = m + 1 := ⟨k - 1, by omega⟩
            have dk : 0 < m + 1 := by omega
            have dk1 : decide ((0 : Int) < ((m + 1 : Nat) : Int)) = true := decide_eq_true (by omega)
            have em := (hc m (by omega)).2
            rw [show m + 1 - 1 = m by omega, decide_eq_false (show ¬ (m + 1 = 0) by omega), Bool.false_or] at HE
            have s2 : ∀ p : Bel WA.heap.size WA, p.w1.cell? ⟨g, o + m * 2 + 1, none⟩ = some (.int .i64 (l[m]!).to) := fun p => (bel_cell p _ _ (by omega)).trans ((cell_alloc_lt hWA hg).trans em)
            have hwi : IntKind.i64.wrap (((m + 1 : Nat) : Int) - 1) = (m : Int) := by rw [IntKind.wrap_i64]; omega
            have hwj : ((m + 1 : Nat) : Int) - 1 = (m : Int) := by omega
            generalize (l[m + 1]!).ok = ok at *
            generalize (l[m + 1]!).fr = fr at *
            generalize (l[m + 1]!).to = to at *
            generalize (l[m]!).to = pt at *
            clear hc ek hall hk0
            cases ok
            · rw [Bool.false_and] at HE
              go_wp2_with fail
              refine wp_region_bel (by kernel_rfl) (by kernel_rfl) ?_
              repeat (go_big_quiet_step ((go_at_call 116; exact bel_of (Nat.le_refl _) (HV.out _))))
              refine wpQuiet_nil ?_
              intro _ hw'
              obtain ⟨⟨w3, hb3⟩, hw''⟩ := hw'
              subst hw''
              have hB3 := HEND.out _ hb3
              clear s0 s1 hBA
              go_wp2
              go_ret
              rw [HF.out HE.out]
              exact ⟨rfl, hB3⟩
            · rw [Bool.true_and] at HE
              by_cases hpt : pt < fr
              · rw [decide_eq_true hpt] at HE
                have d2 : decide (fr ≤ pt) = false := decide_eq_false (by omega)
                go_wp2_with fail
                refine wp_region_bel (by kernel_rfl) (by kernel_rfl) ?_
                repeat (go_big_quiet_step ((go_at_call 116; exact bel_of (Nat.le_refl _) (HV.out _))))
                refine wpQuiet_nil ?_
                intro _ hw'
                obtain ⟨⟨w3, hb3⟩, hw''⟩ := hw'
                subst hw''
                have hB3 := HEND.out _ hb3
                clear s0 s1 hBA
                go_wp2
                go_roundw
                case rel => exact ⟨m + 1 + 1, by omega, by go_num, HN.out HE.out, hB3⟩
                case measure => simp [intOf]; omega
              · rw [decide_eq_false hpt] at HE
                have d2 : decide (fr ≤ pt) = true := decide_eq_true (by omega)
                go_wp2_with fail
                refine wp_region_bel (by kernel_rfl) (by kernel_rfl) ?_
                repeat (go_big_quiet_step ((go_at_call 116; exact bel_of (Nat.le_refl _) (HV.out _))))
                refine wpQuiet_nil ?_
                intro _ hw'
                obtain ⟨⟨w3, hb3⟩, hw''⟩ := hw'
                subst hw''
                have hB3 := HEND.out _ hb3
                clear s0 s1 hBA
                go_wp2
                go_ret
                rw [HF.out HE.out]
                exact ⟨rfl, hB3⟩
      · obtain rfl : k = l.length := by omega
        have HT := Lib.hid (runAt_all.2 hall)
        go_wp2
        go_ret
        rw [HT.out]
        exact ⟨rfl, hbr⟩
  · rw [decide_eq_false h2, Bool.false_and]
    have hd : decide ((2000 : Int) < (l.length : Int)) = true := decide_eq_true (by omega)
    go_enter Tryz.func45, Tryz.ntmps45
    go_wp2
    go_ret
    exact ⟨rfl, Below.refl _ _⟩

/-- where the first run stands that ends behind x -/
structure Idx (l : List Spn) (x : Int) (i : Nat) : Prop where
  le : i ≤ l.length
  lo : ∀ j, j < i → (l[j]!).to ≤ x
  hi : ∀ j, i ≤ j → j < l.length → x < (l[j]!).to
theorem scmp_any (s : Spn) (x : Int) (w : World) : Calls Tryz.prog 179 #[.agg #[.int .i64 s.fr, .int .i64 s.to], .int .i64 x] w fun e w' => e = .returned (.int .i64 (if s.to ≤ x then -1 else 1)) ∧ Below w.heap.size w w' := by
  have hB : Below w.heap.size w (w.alloc (.cells #[.int .i64 s.fr, .int .i64 s.to] 29)) := (Below.refl _ _).alloc (Nat.le_refl _) _
  by_cases h : s.to ≤ x
  · rw [if_pos h]
    go_enter Tryz.func179, Tryz.ntmps179
    go_wp2
    go_ret
    exact ⟨rfl, hB⟩
  · rw [if_neg h]
    go_enter Tryz.func179, Tryz.ntmps179
    go_wp2
    go_ret
    exact ⟨rfl, hB⟩
set_option maxRecDepth 100000 in
set_option maxHeartbeats 4000000 in
theorem bsearch_any (l : List Spn) (x : Int) (g o c : Nat) (w : World) (hl : l.length ≤ 2000) (hA : l.Pairwise (fun s t => s.to < t.to)) (hg : g < w.heap.size)
    (hc : ∀ k, k < l.length → w.cell? ⟨g, o + k * 2, none⟩ = some (.int .i64 (l[k]!).fr) ∧ w.cell? ⟨g, o + k * 2 + 1, none⟩ = some (.int .i64 (l[k]!).to)) :
    Calls Tryz.prog 178 #[.slice (some ⟨g, o, none⟩) l.length c, .int .i64 x, .func (.func 179) #[] #[]] w fun e w' => ∃ i b, e = .returned (.tuple #[.int .i64 (i : Nat), .bool b]) ∧ Idx l x i ∧ Below w.heap.size w w' := by
  have HC := Lib.hid hc
  have HAS := Lib.hid hA
  clear hc hA
  go_enter Tryz.func178, Tryz.ntmps178
  go_wp2
  go_loopw [9, 10] (fun vi vj wr => ∃ i j : Nat, vi = .int .i64 i ∧ vj = .int .i64 j ∧ i ≤ j ∧ j ≤ l.length ∧ (∀ t, t < i → (l[t]!).to ≤ x) ∧ (∀ t, j ≤ t → t < l.length → x < (l[t]!).to) ∧ Below w.heap.size w wr) (fun vi vj _ => (intOf vj).toNat - (intOf vi).toNat)
  case atStart => exact ⟨0, l.length, rfl, rfl, Nat.zero_le _, Nat.le_refl _, fun t h => absurd h (Nat.not_lt_zero _), fun t h1 h2 => by omega, Below.refl _ _⟩
  case round =>
    obtain ⟨i, j, rfl, rfl, hij, hj, hlo, hhi, hbr⟩ := hrel
    have hszr := hbr.size
    have hcr : ∀ k, k < l.length → wr.cell? ⟨g, o + k * 2, none⟩ = some (.int .i64 (l[k]!).fr) ∧ wr.cell? ⟨g, o + k * 2 + 1, none⟩ = some (.int .i64 (l[k]!).to) := fun k hk => ⟨(hbr.cell (p := ⟨g, o + k * 2, none⟩) hg).trans (HC.out k hk).1, (hbr.cell (p := ⟨g, o + k * 2 + 1, none⟩) hg).trans (HC.out k hk).2⟩
    by_cases hlt : i < j
    · have hh1 : i ≤ (i + j) / 2 := by omega
      have hh2 : (i + j) / 2 < j := by omega
      have hh3 : (i + j) / 2 < l.length := by omega
      obtain ⟨e0, e1⟩ := hcr _ hh3
      have HS := Lib.hid (fun W => scmp_any l[(i + j) / 2]! x W)
      have hmono : ∀ s t, s < t → t < l.length → (l[s]!).to < (l[t]!).to := fun s t hst ht => by
        have := List.pairwise_iff_getElem.1 HAS.out s t (by omega) ht hst
        rwa [getElem!_pos l s (by omega), getElem!_pos l t ht]
      have HLO := Lib.hid (fun (h : (l[(i + j) / 2]!).to ≤ x) t (ht : t < (i + j) / 2 + 1) => show (l[t]!).to ≤ x from by
        rcases Nat.lt_or_eq_of_le (Nat.lt_succ_iff.1 ht) with h1 | h1
        · have := hmono t _ h1 hh3; omega
        · rw [h1]; exact h)
      have HHI := Lib.hid (fun (h : ¬ (l[(i + j) / 2]!).to ≤ x) t (h1 : (i + j) / 2 ≤ t) (h2 : t < l.length) => show x < (l[t]!).to from by
        rcases Nat.lt_or_eq_of_le h1 with h3 | h3
        · have := hmono _ t h3 h2; omega
        · rw [← h3]; omega)
      have HL := Lib.hid hlo
      have HH := Lib.hid hhi
      generalize (l[(i + j) / 2]!).fr = fr at *
      generalize (l[(i + j) / 2]!).to = to at *
      clear hcr hmono hlo hhi
      by_cases hto : to ≤ x
      · rw [if_pos hto] at HS
        go_wp2_with (go_at_call 179; refine (HS.out _).mono ?_; rintro e w3 ⟨rfl, hb3⟩)
        go_roundw
        case rel => exact ⟨(i + j) / 2 + 1, j, by go_num, rfl, by omega, hj, HLO.out hto, HH.out, hbr.trans (hb3.mono hszr)⟩
        case measure => simp [intOf]; omega
      · rw [if_neg hto] at HS
        go_wp2_with (go_at_call 179; refine (HS.out _).mono ?_; rintro e w3 ⟨rfl, hb3⟩)
        go_roundw
        case rel => exact ⟨i, (i + j) / 2, rfl, by go_num, by omega, by omega, HL.out, HHI.out hto, hbr.trans (hb3.mono hszr)⟩
        case measure => simp [intOf]; omega
    · obtain rfl : i = j := by omega
      have HI := Lib.hid (show Idx l x i from ⟨hj, hlo, hhi⟩)
      by_cases hn : i < l.length
      · obtain ⟨e0, e1⟩ := hcr _ hn
        have hx := hhi i (Nat.le_refl _) hn
        have HS := Lib.hid (fun W => scmp_any l[i]! x W)
        rw [if_neg (by omega)] at HS
        generalize (l[i]!).fr = fr at *
        generalize (l[i]!).to = to at *
        clear hcr hlo hhi
        go_wp2_with (go_at_call 179; refine (HS.out _).mono ?_; rintro e w3 ⟨rfl, hb3⟩)
        go_ret2
        exact ⟨i, false, rfl, HI.out, hbr.trans (hb3.mono hszr)⟩
      · clear hcr hlo hhi
        go_wp2
        go_ret2
        exact ⟨i, false, rfl, HI.out, hbr⟩

theorem bsearch_nil (x : Int) (A : Option Addr) (c : Nat) (w : World) : Calls Tryz.prog 178 #[.slice A 0 c, .int .i64 x, .func (.func 179) #[] #[]] w fun e w' => e = .returned (.tuple #[.int .i64 0, .bool false]) ∧ Below w.heap.size w w' := by
  go_enter Tryz.func178, Tryz.ntmps178
  go_wp2
  refine wp_loop_rounds 1 ?_
  rw [rounds_succ]
  go_wp2
  go_ret2
  exact ⟨rfl, Below.refl _ _⟩
def SearchEnd (l : List Spn) (x : Int) (w : World) (e : Ending) (w' : World) : Prop := ∃ i : Nat, e = .returned (.int .i64 i) ∧ Idx l x i ∧ Below w.heap.size w w'
theorem search_runs (l : List Spn) (x : Int) (v : Value) (w : World) (h : Rd encN 2 w v l) (hl : l.length ≤ 2000) (hA : l.Pairwise (fun s t => s.to < t.to)) : Calls Tryz.prog 118 #[v, .int .i64 x] w (SearchEnd l x w) := by
  obtain ⟨A, c, rfl⟩ := rd_vf h
  unfold SearchEnd
  obtain ⟨_, rfl | ⟨g, o, rfl, hg, hc⟩⟩ := rd_at h
  · go_enter Tryz.func118, Tryz.ntmps118
    go_wp2_with (go_at_call 178; refine (bsearch_nil x A c w).mono ?_; rintro e w1 ⟨rfl, hb1⟩)
    go_ret
    exact ⟨0, rfl, ⟨Nat.le_refl _, fun j h => absurd h (Nat.not_lt_zero _), fun j _ h => absurd h (Nat.not_lt_zero _)⟩, hb1⟩
  · have HB := Lib.hid (bsearch_any l x g o c w hl hA hg hc)
    clear hc h hA
    go_enter Tryz.func118, Tryz.ntmps118
    go_wp2_with (go_at_call 178; refine HB.out.mono ?_; rintro e w1 ⟨i, b, rfl, hi, hb1⟩)
    go_ret
    exact ⟨i, rfl, hi, hb1⟩
def hasB (l : List Spn) (x : Int) : Bool := validR l && l.any fun s => decide (s.fr ≤ x) && decide (x < s.to)
theorem any_has (l : List Spn) (x : Int) : (l.any fun s => decide (s.fr ≤ x) && decide (x < s.to)) = true ↔ hasL l x := by
  unfold hasL Spn.has
  simp
theorem hasB_iff {l : List Spn} (h : validR l = true) (x : Int) : hasB l x = true ↔ hasL l x := by
  unfold hasB
  rw [h, Bool.true_and, any_has]
theorem idx_has {l : List Spn} {x : Int} {i : Nat} (hi : Idx l x i) (hA : Canon l) : hasL l x ↔ i < l.length ∧ (l[i]!).fr ≤ x := by
  constructor
  · rintro ⟨s, hs, h1, h2⟩
    obtain ⟨k, hk, rfl⟩ := List.getElem_of_mem hs
    have e : l[k] = l[k]! := (getElem!_pos l k hk).symm
    rw [e] at h1 h2
    have h3 : i ≤ k := Nat.not_lt.1 fun h => by have := hi.lo k h; omega
    rcases Nat.lt_or_eq_of_le h3 with h4 | h4
    · have h5 := List.pairwise_iff_getElem.1 hA.asc i k (by omega) hk h4
      rw [← getElem!_pos l i (by omega), e] at h5
      have := hi.hi i (Nat.le_refl _) (by omega)
      omega
    · rw [h4]; exact ⟨hk, h1⟩
  · rintro ⟨h1, h2⟩
    exact ⟨l[i]!, by rw [getElem!_pos l i h1]; exact List.getElem_mem h1, h2, hi.hi i (Nat.le_refl _) h1⟩
theorem canon_to_asc {l : List Spn} (h : Canon l) : l.Pairwise (fun s t => s.to < t.to) := List.pairwise_iff_getElem.2 fun i j hi hj hij => by
  have h1 := List.pairwise_iff_getElem.1 h.asc i j hi hj hij
  have h2 := h.ne _ (List.getElem_mem hj)
  omega
theorem validR_parts {l : List Spn} (h : validR l = true) : l.length ≤ 2000 ∧ Canon l ∧ ∀ s ∈ l, s.ok = true := by
  unfold validR at h
  rw [Bool.and_eq_true, decide_eq_true_eq] at h
  exact ⟨h.1, runsB_canon h.2⟩
set_option maxRecDepth 100000 in
set_option maxHeartbeats 4000000 in
theorem Has_any (l : List Spn) (x : Int) (v : Value) (w : World) (h : Rd encN 2 w v l) : Calls Tryz.prog 51 #[v, .int .i64 x] w fun e w' => e = .returned (.bool (hasB l x)) ∧ Below w.heap.size w w' := by
  have HV := Lib.hid (rValid_any v l w h)
  have HR := Lib.hid h
  obtain ⟨A, c, rfl⟩ := rd_vf h
  clear h
  cases hv : validR l
  · rw [hv] at HV
    have hb : hasB l x = false := by unfold hasB; rw [hv]; rfl
    rw [hb]
    clear hb
    go_enter Tryz.func51, Tryz.ntmps51
    go_wp2_with (go_at_call 45; refine HV.out.mono ?_; rintro e w1 ⟨rfl, hb1⟩)
    go_ret
    exact ⟨rfl, hb1⟩
  · obtain ⟨h1, h2, h3⟩ := validR_parts hv
    rw [hv] at HV
    have HS := Lib.hid (fun W (hb : Below w.heap.size w W) => search_runs l x (.slice A l.length c) W (HR.out.on hb) h1 (canon_to_asc h2))
    have HI := Lib.hid (fun i (hi : Idx l x i) => (hasB_iff hv x).trans (idx_has hi h2))
    have HC := Lib.hid (rd_at HR.out).2
    unfold SearchEnd at HS
    clear hv h2 h3
    go_enter Tryz.func51, Tryz.ntmps51
    go_wp2_with (go_at_call 45; refine HV.out.mono ?_; rintro e w1 ⟨rfl, hb1⟩; clear HV)
    refine (HS.out w1 hb1).mono ?_
    rintro e w2 ⟨i, rfl, hi, hb2⟩
    have hb2 := hb1.trans (hb2.mono hb1.size)
    have HIX := Lib.hid (HI.out i hi)
    clear HS HI hi
    by_cases hil : i < l.length
    · rcases HC.out with rfl | ⟨g, o, rfl, hg, hc⟩
      · exact absurd hil (Nat.not_lt_zero _)
      · have e0 := (hb2.cell (p := ⟨g, o + i * 2, none⟩) hg).trans (hc i hil).1
        obtain ⟨fr, hfr⟩ : ∃ fr, (l[i]!).fr = fr := ⟨_, rfl⟩
        rw [hfr] at e0 HIX
        clear hc hfr HC HR
        by_cases hf : fr ≤ x
        · have hb : hasB l x = true := HIX.out.2 ⟨hil, hf⟩
          have HB := Lib.hid hb
          clear hb HIX
          go_wp2
          go_ret
          rw [HB.out]
          exact ⟨ret1 (vbool (by simp [hf])), hb2⟩
        · have hb : hasB l x = false := by
            cases hh : hasB l x with
            | false => rfl
            | true => exact absurd (HIX.out.1 hh).2 hf
          have HB := Lib.hid hb
          clear hb HIX
          go_wp2
          go_ret
          rw [HB.out]
          exact ⟨ret1 (vbool (by simp [hf])), hb2⟩
    · have hb : hasB l x = false := by
        cases hh : hasB l x with
        | false => rfl
        | true => exact absurd (HIX.out.1 hh).1 hil
      have HB := Lib.hid hb
      clear hb HIX HC HR
      go_wp2
      go_ret
      rw [HB.out]
      exact ⟨rfl, hb2⟩

end Go.Proofs.YtoonaidpmahgcaaGreat

/- Joined by merge.py: Awake3, FewW. -/
import Derived.Test.YtdpkolnfbimheaaGreatJLocW10
import Derived.Test.YtdpkolnfbimheaaGreatGAw
import Derived.Test.YtdpkolnfbimheaaGreatGZh
/- civiltimelaw23.summer, awake. -/
namespace Go.Proofs.YtdpkolnfbimheaaGreat
set_option linter.unusedSimpArgs false
set_option linter.unusedVariables false
open Go.ChangeShapes Go.WideShapes Go.ChangeAt Go.RowKit

def suZ : Zn := ⟨strB [83, 117, 109, 109, 101, 114], ⟨3600, 0, strB [65]⟩, [⟨1000000, ⟨7200, 3600, strB [66]⟩⟩], [], 0, strB [], 0⟩
theorem su_2 : suZ.resV 1005000 2 2 = (1001400, 0) := by decide +kernel
theorem su_3 : suZ.resV 1005000 3 2 = (997800, 0) := by decide +kernel
theorem su_4 : suZ.resV 1005000 4 2 = (1000000, 0) := by decide +kernel
theorem trn_row (w : World) (l : List Trn) (B n : Nat) (h : B = w.heap.size) (hn : n = l.length) (t : TypeId) : Rd Trn.cells 4 (w.alloc (.cells (l.flatMap Trn.cells).toArray t)) (.slice (some ⟨B, 0, none⟩) n n) l := by
  subst h hn
  refine .inr ⟨w.heap.size, 0, l.length, rfl, by simp, fun j hj i u hu => ?_⟩
  have hi : i < 4 := by
    have := (List.getElem?_eq_some_iff.1 hu).1
    rwa [trn_len] at this
  have := flat_get (enc := Trn.cells) (k := 4) trn_len l j i hj hi
  rw [Nat.zero_add]
  refine alloc_cells w (l.flatMap Trn.cells) t _ _ ?_
  rw [this, ← hu, List.getElem?_eq_getElem (by rw [trn_len]; exact hi), getElem!_pos _ i (by rw [trn_len]; exact hi)]
def SuEnd (w : World) (e : Ending) (w' : World) : Prop := ∃ c, e = .returned (suZ.v (.slice (some c) 1 1) (.slice none 0 0)) ∧ Rd Trn.cells 4 w' (.slice (some c) 1 1) suZ.table ∧ Below w.heap.size w w'
theorem summer_any (w : World) : Calls Tryz.prog 55 #[] w (SuEnd w) := by
  unfold SuEnd
  go_enter Tryz.func55, Tryz.ntmps55
  go_wp2
  refine bodyPost_ret (v := .agg #[.string ⟨#[83, 117, 109, 109, 101, 114]⟩, .int .i64 3600, .int .i64 0, .string ⟨#[65]⟩, .slice (some ⟨w.heap.size + 1, 0, none⟩) 1 1, .slice none 0 0, .int .i64 0, .string ⟨#[]⟩, .int .i64 0]) (by simp [results, Tryz.results55, go_sem]) rfl ⟨_, rfl, trn_row _ suZ.table _ 1 (by simp) rfl _, ?_⟩
  exact ((Below.refl _ _).alloc (Nat.le_refl _) _).alloc (by simp) _
set_option maxRecDepth 100000 in
set_option maxHeartbeats 4000000 in
theorem awake23_any (w : World) (hm : HasMax w) : Calls Tryz.prog 23 #[] w fun e w' => e = .returned (.bool true) ∧ Below w.heap.size w w' := by
  have HR := Lib.hid (fun g W c (hb : Below w.heap.size w W) (hT : Rd Trn.cells 4 W (.slice (some c) 1 1) suZ.table) => Resolve_any suZ (.slice (some c) 1 1) (.slice none 0 0) 1005000 g 2 W (hm.on hb) hT (.inl ⟨rfl, none, 0, rfl⟩) (by decide) (by decide) (by decide))
  have H2 := Lib.hid (fun W c hb hT => HR.out 2 W c hb hT)
  have H3 := Lib.hid (fun W c hb hT => HR.out 3 W c hb hT)
  have H4 := Lib.hid (fun W c hb hT => HR.out 4 W c hb hT)
  rw [su_2] at H2
  rw [su_3] at H3
  rw [su_4] at H4
  clear HR hm
  have hl : Calls Tryz.prog 23 #[] w fun e w' => e = .returned (.bool true) ∧ Below w.heap.size w w' := by
    go_enter Tryz.func23, Tryz.ntmps23
    go_wp2_with fail
    refine (summer_any _).mono ?_
    rintro e w1 ⟨c1, rfl, hR1, hb1⟩
    go_wp2_with fail
    refine (H2.out w1 c1 hb1 hR1).mono ?_
    rintro e w2 ⟨rfl, hb2⟩
    have hb2 := hb1.trans (hb2.mono hb1.size)
    go_wp2_with fail
    refine (summer_any _).mono ?_
    rintro e w3 ⟨c3, rfl, hR3, hb3⟩
    have hb3 := hb2.trans (hb3.mono hb2.size)
    go_wp2_with fail
    refine (H3.out w3 c3 hb3 hR3).mono ?_
    rintro e w4 ⟨rfl, hb4⟩
    have hb4 := hb3.trans (hb4.mono hb3.size)
    go_wp2_with fail
    refine (summer_any _).mono ?_
    rintro e w5 ⟨c5, rfl, hR5, hb5⟩
    have hb5 := hb4.trans (hb5.mono hb4.size)
    go_wp2_with fail
    refine (H4.out w5 c5 hb5 hR5).mono ?_
    rintro e w6 ⟨rfl, hb6⟩
    have hb6 := hb5.trans (hb6.mono hb5.size)
    go_wp2
    go_ret
    exact ⟨rfl, hb6⟩
  exact hl

end Go.Proofs.YtdpkolnfbimheaaGreat

/- civiltimelaw23.few. Printed by gen_few.py. -/
namespace Go.Proofs.YtdpkolnfbimheaaGreat
set_option linter.unusedSimpArgs false
set_option linter.unusedVariables false
open Go.ChangeShapes Go.WideShapes Go.ChangeAt Go.RowKit Go.Shelf

def longB (s : ByteArray) : Bool := decide ((60 : Int) < (s.size : Int))
def Zn.fewB (z : Zn) : Bool := decide ((z.table.length : Int) ≤ 300) && (decide ((z.tail.length : Int) ≤ 12) && (!longB z.nm && (!longB z.form && (!longB z.first.nm && (!(z.table.any fun t => longB t.ty.nm) && !(z.tail.any fun r => longB r.nm || longB r.lt))))))
theorem few_parts {z : Zn} (h : z.fewB = true) : z.table.length ≤ 300 ∧ z.tail.length ≤ 12 ∧ z.form.size ≤ 60 := by
  unfold Zn.fewB longB at h
  simp at h
  omega
theorem few1_any (s : ByteArray) (w : World) : Calls Tryz.prog 56 #[.string s] w fun e w' => e = .returned (.bool (longB s)) ∧ w = w' := by
  unfold longB
  go_enter Tryz.func56, Tryz.ntmps56
  go_wp2
  go_ret
  exact ⟨rfl, rfl⟩
theorem few2_any (B : Nat) (w : World) (hB : B < w.heap.size) (hc : w.cell? ⟨B, 0, none⟩ = some (.func (.func 56) #[] #[])) : PredBelow Tryz.prog 58 #[.pointer (some ⟨B, 0, none⟩)] (fun x : Trn => .agg (Trn.cells x).toArray) (fun x => longB x.ty.nm) w := by
  intro W x hb
  have hc2 := (hb.cell (p := ⟨B, 0, none⟩) hB).trans hc
  have hBW : B < W.heap.size := Nat.lt_of_lt_of_le hB hb.size
  obtain ⟨xa, xt⟩ := x
  show Calls Tryz.prog 58 #[.agg #[.int .i64 xa, .int .i64 xt.off, .int .i64 xt.sv, .string xt.nm], .pointer (some ⟨B, 0, none⟩)] W _
  go_enter Tryz.func58, Tryz.ntmps58
  go_wp2_with (go_at_call 56; refine (few1_any _ _).mono ?_; rintro e w' ⟨rfl, rfl⟩)
  go_ret
  exact ⟨rfl, hb.alloc hb.size _⟩
theorem few3_any (B : Nat) (w : World) (hB : B < w.heap.size) (hc : w.cell? ⟨B, 0, none⟩ = some (.func (.func 56) #[] #[])) : PredBelow Tryz.prog 60 #[.pointer (some ⟨B, 0, none⟩)] (fun x : Rule => .agg (Rule.cells x).toArray) (fun x => longB x.nm || longB x.lt) w := by
  intro W x hb
  have hc2 := (hb.cell (p := ⟨B, 0, none⟩) hB).trans hc
  have hBW : B < W.heap.size := Nat.lt_of_lt_of_le hB hb.size
  show Calls Tryz.prog 60 #[.agg (Rule.cells x).toArray, .pointer (some ⟨B, 0, none⟩)] W fun e w' => e = .returned (.bool (longB x.nm || longB x.lt)) ∧ _
  unfold Rule.cells
  have H1 := Lib.hid (fun W => few1_any x.nm W)
  have H2 := Lib.hid (fun W => few1_any x.lt W)
  cases h1 : longB x.nm
  · rw [h1] at H1
    clear h1
    go_enter Tryz.func60, Tryz.ntmps60
    go_wp2_with (first | (go_at_call 56; refine (H1.out _).mono ?_; rintro e w' ⟨rfl, rfl⟩; clear H1) | (go_at_call 56; refine (H2.out _).mono ?_; rintro e w' ⟨rfl, rfl⟩))
    go_ret
    exact ⟨ret1 (vbool (by simp)), hb.alloc hb.size _⟩
  · rw [h1] at H1
    clear h1
    go_enter Tryz.func60, Tryz.ntmps60
    go_wp2_with (first | (go_at_call 56; refine (H1.out _).mono ?_; rintro e w' ⟨rfl, rfl⟩; clear H1))
    go_ret
    exact ⟨ret1 (vbool (by simp)), hb.alloc hb.size _⟩
theorem aggT : ∀ w, (isAgg 38).run Tryz.prog w = .ok true w := fun _ => by kernel_rfl
theorem szT : ∀ w, (Go.sizeOf 38).run Tryz.prog w = .ok 4 w := fun _ => by kernel_rfl
theorem aggR : ∀ w, (isAgg 92).run Tryz.prog w = .ok true w := fun _ => by kernel_rfl
theorem szR : ∀ w, (Go.sizeOf 92).run Tryz.prog w = .ok 11 w := fun _ => by kernel_rfl

theorem noneT_if (A : Option Addr) (c : Nat) (g : Value) (w : World) : Calls Tryz.prog 109 #[.slice A 0 c, g] w fun e w' => e = .returned (.int .i64 (-1)) ∧ w = w' := by
  go_enter Tryz.func109, Tryz.ntmps109
  go_wp2
  go_loop [8] (fun i => i = .int .i64 0) (fun _ => 0)
  case atStart => rfl
  case round =>
    obtain rfl := hrel
    go_wp2
    go_ret
    exact ⟨rfl, rfl⟩
theorem noneT_cf (A : Option Addr) (c : Nat) (g : Value) (w : World) : Calls Tryz.prog 57 #[.slice A 0 c, g] w fun e w' => e = .returned (.bool false) ∧ w = w' := by
  go_enter Tryz.func57, Tryz.ntmps57
  go_wp2_with (go_at_call 109; refine (noneT_if _ _ _ _).mono ?_; rintro e w' ⟨rfl, rfl⟩)
  go_ret
  exact ⟨rfl, rfl⟩
theorem cfT_any (q : Trn → Bool) (g : Nat) (lb : Array Value) (eg : ∀ args w, (callFunc g args).run Tryz.prog w = .ok (.enter g args) w) (v : Value) (l : List Trn) (w : World) (hp : PredBelow Tryz.prog g lb (fun x => .agg (Trn.cells x).toArray) q w) (hl : l.length ≤ 1000000) (hR : Rd Trn.cells 4 w v l) :
    Calls Tryz.prog 57 #[v, .func (.func g) #[] lb] w fun e w' => e = .returned (.bool (l.any q)) ∧ Below w.heap.size w w' := by
  rcases hR with ⟨rfl, A, c, rfl⟩ | ⟨b, off, c, rfl, hb, hc⟩
  · exact (noneT_cf A c _ w).mono fun e w' ⟨h1, h2⟩ => ⟨h1, h2 ▸ Below.refl _ _⟩
  · have := Tryz.slices_ContainsFunc_f57 4 aggT szT Trn.cells trn_len q g lb eg b off l.length c l w hp (Nat.le_refl _) (by omega) hb (fun j hj i v hv => hc j hj i v hv)
    rw [List.take_length] at this
    exact this
theorem noneR_if (A : Option Addr) (c : Nat) (g : Value) (w : World) : Calls Tryz.prog 110 #[.slice A 0 c, g] w fun e w' => e = .returned (.int .i64 (-1)) ∧ w = w' := by
  go_enter Tryz.func110, Tryz.ntmps110
  go_wp2
  go_loop [8] (fun i => i = .int .i64 0) (fun _ => 0)
  case atStart => rfl
  case round =>
    obtain rfl := hrel
    go_wp2
    go_ret
    exact ⟨rfl, rfl⟩
theorem noneR_cf (A : Option Addr) (c : Nat) (g : Value) (w : World) : Calls Tryz.prog 59 #[.slice A 0 c, g] w fun e w' => e = .returned (.bool false) ∧ w = w' := by
  go_enter Tryz.func59, Tryz.ntmps59
  go_wp2_with (go_at_call 110; refine (noneR_if _ _ _ _).mono ?_; rintro e w' ⟨rfl, rfl⟩)
  go_ret
  exact ⟨rfl, rfl⟩
theorem cfR_any (q : Rule → Bool) (g : Nat) (lb : Array Value) (eg : ∀ args w, (callFunc g args).run Tryz.prog w = .ok (.enter g args) w) (v : Value) (l : List Rule) (w : World) (hp : PredBelow Tryz.prog g lb (fun x => .agg (Rule.cells x).toArray) q w) (hl : l.length ≤ 1000000) (hR : Rd Rule.cells 11 w v l) :
    Calls Tryz.prog 59 #[v, .func (.func g) #[] lb] w fun e w' => e = .returned (.bool (l.any q)) ∧ Below w.heap.size w w' := by
  rcases hR with ⟨rfl, A, c, rfl⟩ | ⟨b, off, c, rfl, hb, hc⟩
  · exact (noneR_cf A c _ w).mono fun e w' ⟨h1, h2⟩ => ⟨h1, h2 ▸ Below.refl _ _⟩
  · have := Tryz.slices_ContainsFunc_f59 11 aggR szR Rule.cells rule_len q g lb eg b off l.length c l w hp (Nat.le_refl _) (by omega) hb (fun j hj i v hv => hc j hj i v hv)
    rw [List.take_length] at this
    exact this
set_option maxRecDepth 100000 in
set_option maxHeartbeats 4000000 in
theorem few_any (z : Zn) (vT vR : Value) (w : World) (hT : Rd Trn.cells 4 w vT z.table) (hR : Rd Rule.cells 11 w vR z.tail) :
    Calls Tryz.prog 24 #[z.v vT vR] w fun e w' => e = .returned (.bool z.fewB) ∧ Below w.heap.size w w' := by
  unfold Zn.fewB
  have HT := Lib.hid hT
  have HR := Lib.hid hR
  obtain ⟨AT, cT, rfl⟩ := rd_vf hT
  obtain ⟨AR, cR, rfl⟩ := rd_vf hR
  have hzc := alloc_cells w [.string z.nm, .int .i64 z.first.off, .int .i64 z.first.sv, .string z.first.nm, .slice AT z.table.length cT, .slice AR z.tail.length cR, .int .i64 z.off, .string z.form, .int .i64 z.year] 27
  have hbW : Below w.heap.size w ((w.alloc (.cells #[.string z.nm, .int .i64 z.first.off, .int .i64 z.first.sv, .string z.first.nm, .slice AT z.table.length cT, .slice AR z.tail.length cR, .int .i64 z.off, .string z.form, .int .i64 z.year] 27)).alloc (.cells #[.func (.func 56) #[] #[]] 82)) := ((Below.refl _ _).alloc (Nat.le_refl _) _).alloc (by simp) _
  have hzW : ∀ i u, [Value.string z.nm, .int .i64 z.first.off, .int .i64 z.first.sv, .string z.first.nm, .slice AT z.table.length cT, .slice AR z.tail.length cR, .int .i64 z.off, .string z.form, .int .i64 z.year][i]? = some u → ((w.alloc (.cells #[.string z.nm, .int .i64 z.first.off, .int .i64 z.first.sv, .string z.first.nm, .slice AT z.table.length cT, .slice AR z.tail.length cR, .int .i64 z.off, .string z.form, .int .i64 z.year] 27)).alloc (.cells #[.func (.func 56) #[] #[]] 82)).cell? ⟨w.heap.size, i, none⟩ = some u := fun i u h => Lib.cell?_alloc_some _ (hzc i u h)
  have hszW : w.heap.size + 1 < ((w.alloc (.cells #[.string z.nm, .int .i64 z.first.off, .int .i64 z.first.sv, .string z.first.nm, .slice AT z.table.length cT, .slice AR z.tail.length cR, .int .i64 z.off, .string z.form, .int .i64 z.year] 27)).alloc (.cells #[.func (.func 56) #[] #[]] 82)).heap.size := by simp
  have hfc : ((w.alloc (.cells #[.string z.nm, .int .i64 z.first.off, .int .i64 z.first.sv, .string z.first.nm, .slice AT z.table.length cT, .slice AR z.tail.length cR, .int .i64 z.off, .string z.form, .int .i64 z.year] 27)).alloc (.cells #[.func (.func 56) #[] #[]] 82)).cell? ⟨w.heap.size + 1, 0, none⟩ = some (.func (.func 56) #[] #[]) := by
    have := cell_new_sl (w.alloc (.cells #[.string z.nm, .int .i64 z.first.off, .int .i64 z.first.sv, .string z.first.nm, .slice AT z.table.length cT, .slice AR z.tail.length cR, .int .i64 z.off, .string z.form, .int .i64 z.year] 27)) (.func (.func 56) #[] #[]) 82
    rwa [World.size_alloc] at this
  have H1 := Lib.hid (fun W => few1_any z.nm W)
  have H2 := Lib.hid (fun W => few1_any z.form W)
  have H3 := Lib.hid (fun W => few1_any z.first.nm W)
  have e2 : ∀ args w, (callFunc 58 args).run Tryz.prog w = .ok (.enter 58 args) w := enters_of Tryz.func58 (by kernel_rfl) rfl
  have e3 : ∀ args w, (callFunc 60 args).run Tryz.prog w = .ok (.enter 60 args) w := enters_of Tryz.func60 (by kernel_rfl) rfl
  have HCT := Lib.hid (fun h : z.table.length ≤ 1000000 => cfT_any _ _ _ e2 _ _ _ (few2_any _ _ hszW hfc) h (HT.out.on hbW))
  have HCR := Lib.hid (fun (h : z.tail.length ≤ 1000000) W hsz hc hr => cfR_any _ _ _ e3 (.slice AR z.tail.length cR) z.tail W (few3_any (w.heap.size + 1) W hsz hc) h hr)
  have HFC := Lib.hid hfc
  have HZW := Lib.hid hzW
  have HBW := Lib.hid hbW
  clear hT hR hzc hbW hzW hfc e2 e3
  unfold Zn.v

  by_cases h1 : ((z.table.length : Nat) : Int) ≤ 300
  · have d1' : decide (((z.table.length : Nat) : Int) ≤ 300) = true := decide_eq_true h1
    rw [d1']
    by_cases h2 : ((z.tail.length : Nat) : Int) ≤ 12
    · have d2' : decide (((z.tail.length : Nat) : Int) ≤ 12) = true := decide_eq_true h2
      rw [d2']
      cases g3 : longB z.nm
      · rw [g3] at H1; clear g3
        cases g4 : longB z.form
        · rw [g4] at H2; clear g4
          cases g5 : longB z.first.nm
          · rw [g5] at H3; clear g5
            cases g6 : (z.table.any fun t => longB t.ty.nm)
            · rw [g6] at HCT; clear g6
              generalize (z.tail.any fun r => longB r.nm || longB r.lt) = R at *
              go_enter Tryz.func24, Tryz.ntmps24
              go_wp2_with fail
              generalize ((w.alloc (.cells #[.string z.nm, .int .i64 z.first.off, .int .i64 z.first.sv, .string z.first.nm, .slice AT z.table.length cT, .slice AR z.tail.length cR, .int .i64 z.off, .string z.form, .int .i64 z.year] 27)).alloc (.cells #[.func (.func 56) #[] #[]] 82)) = W at *
              have c0 := HZW.out 0 _ rfl
              have c1 := HZW.out 1 _ rfl
              have c2 := HZW.out 2 _ rfl
              have c3 := HZW.out 3 _ rfl
              have c4 := HZW.out 4 _ rfl
              have c5 := HZW.out 5 _ rfl
              have c6 := HZW.out 6 _ rfl
              have c7 := HZW.out 7 _ rfl
              have c8 := HZW.out 8 _ rfl
              have cf := HFC.out
              go_wp2_with (first
                | (go_at_call 56; refine (H1.out _).mono ?_; rintro e w' ⟨rfl, rfl⟩; clear H1)
                | (go_at_call 56; refine (H2.out _).mono ?_; rintro e w' ⟨rfl, rfl⟩; clear H2)
                | (go_at_call 56; refine (H3.out _).mono ?_; rintro e w' ⟨rfl, rfl⟩; clear H3)
                | (go_at_call 57; refine (HCT.out (by omega)).mono ?_; rintro e w3 ⟨rfl, hb3⟩; have d5 := (hb3.cell (p := ⟨w.heap.size, 5, none⟩) (by show w.heap.size < _; omega)).trans c5; have df := (hb3.cell (p := ⟨w.heap.size + 1, 0, none⟩) hszW).trans cf; have hsz3 : w.heap.size + 1 < w3.heap.size := Nat.lt_of_lt_of_le hszW hb3.size)
                | (go_at_call 59; refine (HCR.out (by omega) _ hsz3 df (HR.out.on (HBW.out.trans (hb3.mono (by omega))))).mono ?_; rintro e w4 ⟨rfl, hb4⟩))
              go_ret
              exact ⟨ret1 (vbool (by simp)), (HBW.out.trans (hb3.mono (by omega))).trans (hb4.mono (by omega))⟩
            · rw [g6] at HCT; clear g6
              go_enter Tryz.func24, Tryz.ntmps24
              go_wp2_with fail
              generalize ((w.alloc (.cells #[.string z.nm, .int .i64 z.first.off, .int .i64 z.first.sv, .string z.first.nm, .slice AT z.table.length cT, .slice AR z.tail.length cR, .int .i64 z.off, .string z.form, .int .i64 z.year] 27)).alloc (.cells #[.func (.func 56) #[] #[]] 82)) = W at *
              have c0 := HZW.out 0 _ rfl
              have c1 := HZW.out 1 _ rfl
              have c2 := HZW.out 2 _ rfl
              have c3 := HZW.out 3 _ rfl
              have c4 := HZW.out 4 _ rfl
              have c5 := HZW.out 5 _ rfl
              have c6 := HZW.out 6 _ rfl
              have c7 := HZW.out 7 _ rfl
              have c8 := HZW.out 8 _ rfl
              have cf := HFC.out
              go_wp2_with (first
                | (go_at_call 56; refine (H1.out _).mono ?_; rintro e w' ⟨rfl, rfl⟩; clear H1)
                | (go_at_call 56; refine (H2.out _).mono ?_; rintro e w' ⟨rfl, rfl⟩; clear H2)
                | (go_at_call 56; refine (H3.out _).mono ?_; rintro e w' ⟨rfl, rfl⟩; clear H3)
                | (go_at_call 57; refine (HCT.out (by omega)).mono ?_; rintro e w3 ⟨rfl, hb3⟩; have d5 := (hb3.cell (p := ⟨w.heap.size, 5, none⟩) (by show w.heap.size < _; omega)).trans c5; have df := (hb3.cell (p := ⟨w.heap.size + 1, 0, none⟩) hszW).trans cf; have hsz3 : w.heap.size + 1 < w3.heap.size := Nat.lt_of_lt_of_le hszW hb3.size)
                | (go_at_call 59; refine (HCR.out (by omega) _ hsz3 df (HR.out.on (HBW.out.trans (hb3.mono (by omega))))).mono ?_; rintro e w4 ⟨rfl, hb4⟩))
              go_ret
              exact ⟨ret1 (vbool (by simp)), HBW.out.trans (hb3.mono (by omega))⟩
          · rw [g5] at H3; clear g5
            go_enter Tryz.func24, Tryz.ntmps24
            go_wp2_with fail
            generalize ((w.alloc (.cells #[.string z.nm, .int .i64 z.first.off, .int .i64 z.first.sv, .string z.first.nm, .slice AT z.table.length cT, .slice AR z.tail.length cR, .int .i64 z.off, .string z.form, .int .i64 z.year] 27)).alloc (.cells #[.func (.func 56) #[] #[]] 82)) = W at *
            have c0 := HZW.out 0 _ rfl
            have c1 := HZW.out 1 _ rfl
            have c2 := HZW.out 2 _ rfl
            have c3 := HZW.out 3 _ rfl
            have c4 := HZW.out 4 _ rfl
            have c5 := HZW.out 5 _ rfl
            have c6 := HZW.out 6 _ rfl
            have c7 := HZW.out 7 _ rfl
            have c8 := HZW.out 8 _ rfl
            have cf := HFC.out
            go_wp2_with (first
              | (go_at_call 56; refine (H1.out _).mono ?_; rintro e w' ⟨rfl, rfl⟩; clear H1)
              | (go_at_call 56; refine (H2.out _).mono ?_; rintro e w' ⟨rfl, rfl⟩; clear H2)
              | (go_at_call 56; refine (H3.out _).mono ?_; rintro e w' ⟨rfl, rfl⟩; clear H3)
              | (go_at_call 57; refine (HCT.out (by omega)).mono ?_; rintro e w3 ⟨rfl, hb3⟩; have d5 := (hb3.cell (p := ⟨w.heap.size, 5, none⟩) (by show w.heap.size < _; omega)).trans c5; have df := (hb3.cell (p := ⟨w.heap.size + 1, 0, none⟩) hszW).trans cf; have hsz3 : w.heap.size + 1 < w3.heap.size := Nat.lt_of_lt_of_le hszW hb3.size)
              | (go_at_call 59; refine (HCR.out (by omega) _ hsz3 df (HR.out.on (HBW.out.trans (hb3.mono (by omega))))).mono ?_; rintro e w4 ⟨rfl, hb4⟩))
            go_ret
            exact ⟨ret1 (vbool (by simp)), HBW.out⟩
        · rw [g4] at H2; clear g4
          go_enter Tryz.func24, Tryz.ntmps24
          go_wp2_with fail
          generalize ((w.alloc (.cells #[.string z.nm, .int .i64 z.first.off, .int .i64 z.first.sv, .string z.first.nm, .slice AT z.table.length cT, .slice AR z.tail.length cR, .int .i64 z.off, .string z.form, .int .i64 z.year] 27)).alloc (.cells #[.func (.func 56) #[] #[]] 82)) = W at *
          have c0 := HZW.out 0 _ rfl
          have c1 := HZW.out 1 _ rfl
          have c2 := HZW.out 2 _ rfl
          have c3 := HZW.out 3 _ rfl
          have c4 := HZW.out 4 _ rfl
          have c5 := HZW.out 5 _ rfl
          have c6 := HZW.out 6 _ rfl
          have c7 := HZW.out 7 _ rfl
          have c8 := HZW.out 8 _ rfl
          have cf := HFC.out
          go_wp2_with (first
            | (go_at_call 56; refine (H1.out _).mono ?_; rintro e w' ⟨rfl, rfl⟩; clear H1)
            | (go_at_call 56; refine (H2.out _).mono ?_; rintro e w' ⟨rfl, rfl⟩; clear H2)
            | (go_at_call 56; refine (H3.out _).mono ?_; rintro e w' ⟨rfl, rfl⟩; clear H3)
            | (go_at_call 57; refine (HCT.out (by omega)).mono ?_; rintro e w3 ⟨rfl, hb3⟩; have d5 := (hb3.cell (p := ⟨w.heap.size, 5, none⟩) (by show w.heap.size < _; omega)).trans c5; have df := (hb3.cell (p := ⟨w.heap.size + 1, 0, none⟩) hszW).trans cf; have hsz3 : w.heap.size + 1 < w3.heap.size := Nat.lt_of_lt_of_le hszW hb3.size)
            | (go_at_call 59; refine (HCR.out (by omega) _ hsz3 df (HR.out.on (HBW.out.trans (hb3.mono (by omega))))).mono ?_; rintro e w4 ⟨rfl, hb4⟩))
          go_ret
          exact ⟨ret1 (vbool (by simp)), HBW.out⟩
      · rw [g3] at H1; clear g3
        go_enter Tryz.func24, Tryz.ntmps24
        go_wp2_with fail
        generalize ((w.alloc (.cells #[.string z.nm, .int .i64 z.first.off, .int .i64 z.first.sv, .string z.first.nm, .slice AT z.table.length cT, .slice AR z.tail.length cR, .int .i64 z.off, .string z.form, .int .i64 z.year] 27)).alloc (.cells #[.func (.func 56) #[] #[]] 82)) = W at *
        have c0 := HZW.out 0 _ rfl
        have c1 := HZW.out 1 _ rfl
        have c2 := HZW.out 2 _ rfl
        have c3 := HZW.out 3 _ rfl
        have c4 := HZW.out 4 _ rfl
        have c5 := HZW.out 5 _ rfl
        have c6 := HZW.out 6 _ rfl
        have c7 := HZW.out 7 _ rfl
        have c8 := HZW.out 8 _ rfl
        have cf := HFC.out
        go_wp2_with (first
          | (go_at_call 56; refine (H1.out _).mono ?_; rintro e w' ⟨rfl, rfl⟩; clear H1)
          | (go_at_call 56; refine (H2.out _).mono ?_; rintro e w' ⟨rfl, rfl⟩; clear H2)
          | (go_at_call 56; refine (H3.out _).mono ?_; rintro e w' ⟨rfl, rfl⟩; clear H3)
          | (go_at_call 57; refine (HCT.out (by omega)).mono ?_; rintro e w3 ⟨rfl, hb3⟩; have d5 := (hb3.cell (p := ⟨w.heap.size, 5, none⟩) (by show w.heap.size < _; omega)).trans c5; have df := (hb3.cell (p := ⟨w.heap.size + 1, 0, none⟩) hszW).trans cf; have hsz3 : w.heap.size + 1 < w3.heap.size := Nat.lt_of_lt_of_le hszW hb3.size)
          | (go_at_call 59; refine (HCR.out (by omega) _ hsz3 df (HR.out.on (HBW.out.trans (hb3.mono (by omega))))).mono ?_; rintro e w4 ⟨rfl, hb4⟩))
        go_ret
        exact ⟨ret1 (vbool (by simp)), HBW.out⟩
    · have d2' : decide (((z.tail.length : Nat) : Int) ≤ 12) = false := decide_eq_false h2
      rw [d2']
      go_enter Tryz.func24, Tryz.ntmps24
      go_wp2_with fail
      generalize ((w.alloc (.cells #[.string z.nm, .int .i64 z.first.off, .int .i64 z.first.sv, .string z.first.nm, .slice AT z.table.length cT, .slice AR z.tail.length cR, .int .i64 z.off, .string z.form, .int .i64 z.year] 27)).alloc (.cells #[.func (.func 56) #[] #[]] 82)) = W at *
      have c0 := HZW.out 0 _ rfl
      have c1 := HZW.out 1 _ rfl
      have c2 := HZW.out 2 _ rfl
      have c3 := HZW.out 3 _ rfl
      have c4 := HZW.out 4 _ rfl
      have c5 := HZW.out 5 _ rfl
      have c6 := HZW.out 6 _ rfl
      have c7 := HZW.out 7 _ rfl
      have c8 := HZW.out 8 _ rfl
      have cf := HFC.out
      go_wp2_with (first
        | (go_at_call 56; refine (H1.out _).mono ?_; rintro e w' ⟨rfl, rfl⟩; clear H1)
        | (go_at_call 56; refine (H2.out _).mono ?_; rintro e w' ⟨rfl, rfl⟩; clear H2)
        | (go_at_call 56; refine (H3.out _).mono ?_; rintro e w' ⟨rfl, rfl⟩; clear H3)
        | (go_at_call 57; refine (HCT.out (by omega)).mono ?_; rintro e w3 ⟨rfl, hb3⟩; have d5 := (hb3.cell (p := ⟨w.heap.size, 5, none⟩) (by show w.heap.size < _; omega)).trans c5; have df := (hb3.cell (p := ⟨w.heap.size + 1, 0, none⟩) hszW).trans cf; have hsz3 : w.heap.size + 1 < w3.heap.size := Nat.lt_of_lt_of_le hszW hb3.size)
        | (go_at_call 59; refine (HCR.out (by omega) _ hsz3 df (HR.out.on (HBW.out.trans (hb3.mono (by omega))))).mono ?_; rintro e w4 ⟨rfl, hb4⟩))
      go_ret
      exact ⟨ret1 (vbool (by simp)), HBW.out⟩
  · have d1' : decide (((z.table.length : Nat) : Int) ≤ 300) = false := decide_eq_false h1
    rw [d1']
    go_enter Tryz.func24, Tryz.ntmps24
    go_wp2_with fail
    generalize ((w.alloc (.cells #[.string z.nm, .int .i64 z.first.off, .int .i64 z.first.sv, .string z.first.nm, .slice AT z.table.length cT, .slice AR z.tail.length cR, .int .i64 z.off, .string z.form, .int .i64 z.year] 27)).alloc (.cells #[.func (.func 56) #[] #[]] 82)) = W at *
    have c0 := HZW.out 0 _ rfl
    have c1 := HZW.out 1 _ rfl
    have c2 := HZW.out 2 _ rfl
    have c3 := HZW.out 3 _ rfl
    have c4 := HZW.out 4 _ rfl
    have c5 := HZW.out 5 _ rfl
    have c6 := HZW.out 6 _ rfl
    have c7 := HZW.out 7 _ rfl
    have c8 := HZW.out 8 _ rfl
    have cf := HFC.out
    go_wp2_with (first
      | (go_at_call 56; refine (H1.out _).mono ?_; rintro e w' ⟨rfl, rfl⟩; clear H1)
      | (go_at_call 56; refine (H2.out _).mono ?_; rintro e w' ⟨rfl, rfl⟩; clear H2)
      | (go_at_call 56; refine (H3.out _).mono ?_; rintro e w' ⟨rfl, rfl⟩; clear H3)
      | (go_at_call 57; refine (HCT.out (by omega)).mono ?_; rintro e w3 ⟨rfl, hb3⟩; have d5 := (hb3.cell (p := ⟨w.heap.size, 5, none⟩) (by show w.heap.size < _; omega)).trans c5; have df := (hb3.cell (p := ⟨w.heap.size + 1, 0, none⟩) hszW).trans cf; have hsz3 : w.heap.size + 1 < w3.heap.size := Nat.lt_of_lt_of_le hszW hb3.size)
      | (go_at_call 59; refine (HCR.out (by omega) _ hsz3 df (HR.out.on (HBW.out.trans (hb3.mono (by omega))))).mono ?_; rintro e w4 ⟨rfl, hb4⟩))
    go_ret
    exact ⟨ret1 (vbool (by simp)), HBW.out⟩

end Go.Proofs.YtdpkolnfbimheaaGreat

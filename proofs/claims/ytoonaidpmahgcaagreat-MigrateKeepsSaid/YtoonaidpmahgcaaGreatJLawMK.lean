/- The law MigrateKeeps. Printed by gen_lawmk.py. -/
import Derived.Test.YtoonaidpmahgcaaGreatGFew
import Derived.Test.YtoonaidpmahgcaaGreatGAm
import Derived.Test.YtoonaidpmahgcaaGreatJKeepK
import Derived.Laws.StructEq
namespace Go.Proofs.YtoonaidpmahgcaaGreat
set_option linter.unusedSimpArgs false
set_option linter.unusedVariables false
open Go.ChangeShapes Go.WideShapes Go.ChangeAt Go.RowKit Go.Sort Go.Lib

theorem eqPo_same (d : Nat) (a b : Int) (w : World) : (Op.equalIn (d + 1 + 1) 44 (.agg #[.int .i64 a, .int .i64 b]) (.agg #[.int .i64 a, .int .i64 b])).run Tryz.prog w = .ok true w := by
  have u3 := Tryz.underlying3
  have hS : Tryz.prog.underlying 44 = some (.struct (Tryz.prog.fieldsOf 44)) := by kernel_rfl
  have hp : Tryz.prog.stoodInHeld 44 = false := by kernel_rfl
  have a3 : ∀ w, (isAgg 3).run Tryz.prog w = .ok false w := fun w => by kernel_rfl
  have z3 : ∀ w, (Go.sizeOf 3).run Tryz.prog w = .ok 1 w := fun w => by kernel_rfl
  rw [run_equalIn_agg w (d + 1) 44 _ _ hS hp]
  simp only [Program.fieldsOf, Tryz.underlying44]
  go_simp
theorem eqSt_same (d : Nat) (t a b : Int) (z : ByteArray) (w : World) : (Op.equalIn (d + 1 + 1 + 1) 65 (.agg #[.int .i64 t, .string z, .int .i64 a, .int .i64 b]) (.agg #[.int .i64 t, .string z, .int .i64 a, .int .i64 b])).run Tryz.prog w = .ok true w := by
  have u3 := Tryz.underlying3
  have u9 := Tryz.underlying9
  have hS : Tryz.prog.underlying 65 = some (.struct (Tryz.prog.fieldsOf 65)) := by kernel_rfl
  have hp : Tryz.prog.stoodInHeld 65 = false := by kernel_rfl
  have a3 : ∀ w, (isAgg 3).run Tryz.prog w = .ok false w := fun w => by kernel_rfl
  have z3 : ∀ w, (Go.sizeOf 3).run Tryz.prog w = .ok 1 w := fun w => by kernel_rfl
  have a9 : ∀ w, (isAgg 9).run Tryz.prog w = .ok false w := fun w => by kernel_rfl
  have z9 : ∀ w, (Go.sizeOf 9).run Tryz.prog w = .ok 1 w := fun w => by kernel_rfl
  have aP : ∀ w, (isAgg 44).run Tryz.prog w = .ok true w := fun w => by kernel_rfl
  have zP : ∀ w, (Go.sizeOf 44).run Tryz.prog w = .ok 2 w := fun w => by kernel_rfl
  rw [run_equalIn_agg w (d + 1 + 1) 65 _ _ hS hp]
  simp only [Program.fieldsOf, Tryz.underlying65]
  have hE := fun w => eqPo_same d a b w
  clear hS hp
  go_simp
set_option maxRecDepth 100000 in
theorem neEn_same (x : Ent) (w : World) : (binOp .neq 67 (.agg #[.string x.nm, .int .i64 x.st.at_, .string x.st.zn, .int .i64 x.st.gap, .int .i64 x.st.fold, .int .i64 x.ln]) (.agg #[.string x.nm, .int .i64 x.st.at_, .string x.st.zn, .int .i64 x.st.gap, .int .i64 x.st.fold, .int .i64 x.ln])).run Tryz.prog w = .ok (.bool false) w := by
  have u3 := Tryz.underlying3
  have u9 := Tryz.underlying9
  have hS : Tryz.prog.underlying 67 = some (.struct (Tryz.prog.fieldsOf 67)) := by kernel_rfl
  have hp : Tryz.prog.stoodInHeld 67 = false := by kernel_rfl
  have a3 : ∀ w, (isAgg 3).run Tryz.prog w = .ok false w := fun w => by kernel_rfl
  have z3 : ∀ w, (Go.sizeOf 3).run Tryz.prog w = .ok 1 w := fun w => by kernel_rfl
  have a9 : ∀ w, (isAgg 9).run Tryz.prog w = .ok false w := fun w => by kernel_rfl
  have z9 : ∀ w, (Go.sizeOf 9).run Tryz.prog w = .ok 1 w := fun w => by kernel_rfl
  have aS : ∀ w, (isAgg 65).run Tryz.prog w = .ok true w := fun w => by kernel_rfl
  have zS : ∀ w, (Go.sizeOf 65).run Tryz.prog w = .ok 4 w := fun w => by kernel_rfl
  obtain ⟨D, hD⟩ : ∃ D, 10000 = D + 1 + 1 + 1 + 1 := ⟨9996, rfl⟩
  rw [run_neq_struct, hD, run_equalIn_agg w (D + 1 + 1 + 1) 67 _ _ hS hp]
  simp only [Program.fieldsOf, Tryz.underlying67]
  have hE := fun w => eqSt_same D x.st.at_ x.st.gap x.st.fold x.st.zn w
  clear hD hS hp
  go_simp
theorem gdEn (op : BinOp) (x y : Operand) (xs ys : Array Value) (w : World) : (eqGuard op 67 x y (.agg xs) (.agg ys)).run Tryz.prog w = .ok () w := run_eqGuard_agg w op 67 x y xs ys (by kernel_rfl)
theorem isAggM (w : World) : (isAgg 70).run Tryz.prog w = .ok true w := by kernel_rfl
theorem sizeOfM (w : World) : (Go.sizeOf 70).run Tryz.prog w = .ok 4 w := by kernel_rfl
theorem none_ifM (A : Option Addr) (c : Nat) (g : Value) (w : World) : Calls Tryz.prog 103 #[.slice A 0 c, g] w fun e w' => e = .returned (.int .i64 (-1)) ∧ w = w' := by
  go_enter Tryz.func103, Tryz.ntmps103
  go_wp2
  go_loop [8] (fun i => i = .int .i64 0) (fun _ => 0)
  case atStart => rfl
  case round =>
    obtain rfl := hrel
    go_wp2
    go_ret
    exact ⟨rfl, rfl⟩
theorem none_cfM (A : Option Addr) (c : Nat) (g : Value) (w : World) : Calls Tryz.prog 33 #[.slice A 0 c, g] w fun e w' => e = .returned (.bool false) ∧ w = w' := by
  go_enter Tryz.func33, Tryz.ntmps33
  go_wp2_with (go_at_call 103; refine (none_ifM _ _ _ _).mono ?_; rintro e w' ⟨rfl, rfl⟩)
  go_ret
  exact ⟨rfl, rfl⟩
theorem cfM_any (q : Mig → Bool) (g : Nat) (lb : Array Value) (eg : ∀ args w, (callFunc g args).run Tryz.prog w = .ok (.enter g args) w) (v : Value) (l : List Mig) (w : World) (hp : PredBelow Tryz.prog g lb (fun x => .agg (encM x).toArray) q w) (hl : l.length ≤ 1000000) (hR : Rd encM 4 w v l) :
    Calls Tryz.prog 33 #[v, .func (.func g) #[] lb] w fun e w' => e = .returned (.bool (l.any q)) ∧ Below w.heap.size w w' := by
  rcases hR with ⟨rfl, A, c, rfl⟩ | ⟨b, off, c, rfl, hb, hc⟩
  · exact (none_cfM A c _ w).mono fun e w' ⟨h1, h2⟩ => ⟨h1, h2 ▸ Below.refl _ _⟩
  · have := Tryz.slices_ContainsFunc_f33 4 isAggM sizeOfM encM encM_len q g lb eg b off l.length c l w hp (Nat.le_refl _) (by omega) hb (fun j hj i v hv => hc j hj i v hv)
    rw [List.take_length] at this
    exact this
theorem mk1_any (B : Nat) (k : Int) (w : World) (hB : Blk w B #[.int .i64 k] 3) : PredBelow Tryz.prog 34 #[.pointer (some ⟨B, 0, none⟩)] (fun x : Mig => .agg (encM x).toArray) (fun x => x.en == k) w := by
  intro W x hb
  have b1 := (hB.below hb hB.lt).alloc (.cells #[.int .i64 x.en, .int .i64 x.kd, .int .i64 x.od, .int .i64 x.nw] 70)
  have c0 := blk_cl b1 0 _ rfl
  have cl := b1.lt
  show Calls Tryz.prog 34 #[.agg #[.int .i64 x.en, .int .i64 x.kd, .int .i64 x.od, .int .i64 x.nw], .pointer (some ⟨B, 0, none⟩)] W _
  go_enter Tryz.func34, Tryz.ntmps34
  go_wp2
  go_ret
  exact ⟨rfl, hb.alloc hb.size _⟩
theorem any_rep (f : Nat → Mig) (hf : ∀ j, (f j).en = (j : Int)) {i n : Nat} (h : i < n) (ha : ((repM f n).any fun m => m.en == (i : Int)) = false) : (f i).kd = 0 := by
  by_cases hk : (f i).kd = 0
  · exact hk
  · obtain ⟨h1, h2⟩ := repM_at f h hk
    rw [List.any_eq_false] at ha
    have := ha _ (List.getElem_mem h1)
    rw [← getElem!_pos (repM f n) _ h1, h2, hf] at this
    exact absurd (beq_self_eq_true _) this

set_option maxRecDepth 100000 in
set_option maxHeartbeats 4000000 in
theorem law_MigrateKeeps (L : List VV) (vH : Value) (a b : ByteArray) (E : List Ent) (vE : Value) (w : World) (hg : GoodH w vH L) (hE : Rd encEn 6 w vE E) (hm : HasMax w) :
    Calls Tryz.prog 8 #[.agg #[vH], .string a, .string b, vE] w fun e w' => e = .returned (.bool true) ∧ Below w.heap.size w w' := by
  have HA := Lib.hid (fun W (hb : Below w.heap.size w W) => awake53_any W (hm.on hb))
  have HF := Lib.hid (fun W (hb : Below w.heap.size w W) => few53_any L E vH vE W (hg.on hb) (hE.on hb))
  have HP := Lib.hid (fun (hk : OkH L) (hel : E.length ≤ 1000) W (hb : Below w.heap.size w W) => Report_any L vH a b E vE W (hm.on hb) (hg.on hb) hk (hE.on hb) hel)
  have HK := Lib.hid (fun (hk : OkH L) (hel : E.length ≤ 1000) W (hb : Below w.heap.size w W) => Keep_any L vH a b E vE W (hm.on hb) (hg.on hb) hk (hE.on hb) hel)
  have HS := Lib.hid (fun (hk : OkH L) (v : ByteArray) (s : Stm) W (hb : Below w.heap.size w W) => Resolve_his L vH v s W (hm.on hb) (hg.on hb) hk)
  have HR := Lib.hid hE
  obtain ⟨A, c, rfl⟩ := rd_vf hg.r
  obtain ⟨AE, cE, rfl⟩ := rd_vf hE
  clear hg hE hm
  unfold RepEnd at HP
  unfold KeepEnd at HK
  have b0 := Blk.new w #[.slice A L.length c] 58
  have hB1 : Below w.heap.size w (w.alloc (.cells #[.slice A L.length c] 58)) := (Below.refl _ _).alloc (Nat.le_refl _) _
  go_enter Tryz.func8, Tryz.ntmps8
  go_wp2_with fail
  generalize w.alloc (.cells #[.slice A L.length c] 58) = W at *
  refine (HA.out W hB1).mono ?_
  rintro e w1 ⟨rfl, hb1⟩
  have hB2 := hB1.trans (hb1.mono hB1.size)
  have b1 := b0.below hb1 b0.lt
  have h0 := blk_cl b1 0 _ rfl
  have hl := b1.lt
  go_wp2_with fail
  refine (HF.out w1 hB2).mono ?_
  rintro e w2 ⟨rfl, hb2⟩
  have hB3 := hB2.trans (hb2.mono hB2.size)
  have b2 := b1.below hb2 b1.lt
  clear h0 hl b0 b1 hb1 hb2 HF
  cases hf : fewB L E
  case false =>
    clear hf
    go_wp2_with (go_at_call 27; refine (HA.out w2 hB3).mono ?_; rintro e w3 ⟨rfl, hb3⟩)
    go_ret
    exact ⟨rfl, hB3.trans (hb3.mono hB3.size)⟩
  obtain ⟨hok, _, hel, _⟩ := few_ok hf
  clear hf
  by_cases ha : (60 : Int) < (a.size : Int)
  · have da := decide_eq_true ha
    go_wp2_with (go_at_call 27; refine (HA.out w2 hB3).mono ?_; rintro e w3 ⟨rfl, hb3⟩)
    go_ret
    exact ⟨rfl, hB3.trans (hb3.mono hB3.size)⟩
  have da := decide_eq_false ha
  clear ha
  by_cases hb : (60 : Int) < (b.size : Int)
  · have db := decide_eq_true hb
    go_wp2_with (go_at_call 27; refine (HA.out w2 hB3).mono ?_; rintro e w3 ⟨rfl, hb3⟩)
    go_ret
    exact ⟨rfl, hB3.trans (hb3.mono hB3.size)⟩
  have db := decide_eq_false hb
  clear hb HA

  have HP := Lib.hid (HP.out hok (by omega))
  have HK := Lib.hid (HK.out hok (by omega))
  have HS := Lib.hid (HS.out hok)
  clear hok
  have h0 := blk_cl b2 0 _ rfl
  have hl := b2.lt
  go_wp2_with fail
  refine (HK.out w2 hB3).mono ?_
  rintro e w3 ⟨hb3, hR⟩
  have hB4 := hB3.trans (hb3.mono hB3.size)
  have b3 := b2.below hb3 b2.lt
  clear h0 hl b2 HK da db hB1 hB2
  have h0 := blk_cl b3 0 _ rfl
  have hl := b3.lt
  have HOK := Lib.hid (fun h => ok_of_giv (L := L) (E := E) (vs := [a, b]) h)
  generalize givF L E [a, b] = gv at *
  rcases hR with ⟨hn, rfl⟩ | ⟨rfl, u, rfl, hown⟩
  · have d0 : (gv != 0) = true := bne_iff_ne.2 hn
    go_wp2_with fail
    refine (HP.out w3 hB4).mono ?_
    rintro e w4 ⟨hb4, hR⟩
    rcases hR with ⟨_, rfl⟩ | ⟨h, _⟩
    · clear h0 hl b3 hn
      go_wp2
      go_ret
      exact ⟨ret1 (vbool (by simp)), hB4.trans (hb4.mono hB4.size)⟩
    · exact absurd h hn
  have HKE := Lib.hid (rd_of_own encEn_len hown rfl)
  obtain ⟨AK, cK, rfl⟩ := own_formN hown
  clear hown
  go_wp2_with fail
  refine (HP.out w3 hB4).mono ?_
  rintro e w4 ⟨hb4, hR⟩
  rcases hR with ⟨h, _⟩ | ⟨_, u, rfl, hown⟩
  · exact absurd rfl h
  have hB5 := hB4.trans (hb4.mono hB4.size)
  have b4 := b3.below hb4 b3.lt
  have HKE := Lib.hid (HKE.out.on hb4)
  have HRM := Lib.hid (rd_of_own encM_len hown rfl)
  have HLEN := Lib.hid (repM_len (mgs L a b E) E.length)
  have HANY := Lib.hid (fun i (h : i < E.length) ha => any_rep (mgs L a b E) (mgs_en L a b E) (i := i) (n := E.length) h ha)
  generalize hR : repM (mgs L a b E) E.length = R at *
  obtain ⟨AM, cM, rfl⟩ := own_formN hown
  have HGET := Lib.hid (fun k (h : k < E.length) => keepE_get L a b E k h)
  have HST := Lib.hid (fun k (h : k < E.length) => stm_of_ok (HOK.out (by first | trivial | rfl)).2 h)
  have hkl := keepE_len L a b E
  generalize keepE L a b E = KE at *
  clear hown hb4 hR hB4 h0 hl b3 HP HOK hb3
  have dk : ((KE.length : Int) != (E.length : Int)) = false := by rw [hkl]; simp
  have hNl : R.length ≤ 12 := by have := HLEN.out; omega
  go_wp2
  clear dk
  go_loopw [76] (fun v76 wr => ∃ k : Nat, k ≤ E.length ∧ v76 = .int .i64 k ∧ Below w4.heap.size w4 wr) (fun v76 _ => E.length - (intOf v76).toNat)
  case atStart => exact ⟨0, Nat.zero_le _, rfl, Below.refl _ _⟩
  case round =>
    obtain ⟨k, hk0, rfl, hbr⟩ := hrel
    have hbw := hB5.trans (hbr.mono hB5.size)
    by_cases hlt : k < E.length
    · obtain ⟨g, off, hA, hg, hcg⟩ : ∃ g off, AE = some ⟨g, off, none⟩ ∧ g < wr.heap.size ∧ ∀ i u, (encEn E[k]!)[i]? = some u → wr.cell? ⟨g, off + k * 6 + i, none⟩ = some u := by
        rcases HR.out.on hbw with ⟨e, _⟩ | ⟨g, off, c2, hv, hg, hc⟩
        · rw [e] at hlt; simp at hlt
        · injection hv with e1 _ _
          exact ⟨g, off, e1, hg, fun i u hu => hc k hlt i u hu⟩
      have hlt2 : k < KE.length := by omega
      obtain ⟨g2, off2, hA2, hg2, hcg2⟩ : ∃ g off, AK = some ⟨g, off, none⟩ ∧ g < wr.heap.size ∧ ∀ i u, (encEn KE[k]!)[i]? = some u → wr.cell? ⟨g, off + k * 6 + i, none⟩ = some u := by
        rcases HKE.out.on hbr with ⟨e, _⟩ | ⟨g, off, c2, hv, hg, hc⟩
        · rw [e] at hlt2; simp at hlt2
        · injection hv with e1 _ _
          exact ⟨g, off, e1, hg, fun i u hu => hc k hlt2 i u hu⟩
      subst hA hA2
      rw [HGET.out k hlt] at hcg2
      have hKO := Lib.hid (fun h => keep_ok (L := L) (a := a) (b := b) (s := (E[k]!).st) h)
      have hKV := keep_valid (L := L) (a := a) (b := b) (HST.out k hlt)
      have HKS := Lib.hid (fun ha => keep_same (L := L) (a := a) (b := b) (s := (E[k]!).st) (HANY.out k hlt ha))
      have HSA := Lib.hid (fun W hb => HS.out a (E[k]!).st W hb)
      have HSB := Lib.hid (fun W hb => HS.out b (keepS L a b (E[k]!).st) W hb)
      have HVS := Lib.hid (fun W => stm_valid (keepS L a b (E[k]!).st) W)
      rw [hKV] at HVS
      unfold keptF at hcg2
      clear hKV
      generalize keepS L a b (E[k]!).st = ks at *
      generalize rsvF L a (E[k]!).st = r at *
      generalize rsvF L b ks = s at *
      generalize E[k]! = x at *
      obtain ⟨r1, r2⟩ := r
      dsimp only at HSA hKO
      have e0 := hcg 0 _ rfl
      have e1 := hcg 1 _ rfl
      have e2 := hcg 2 _ rfl
      have e3 := hcg 3 _ rfl
      have e4 := hcg 4 _ rfl
      have e5 := hcg 5 _ rfl
      rw [Nat.add_zero] at e0
      have f0 := hcg2 0 _ rfl
      have f1 := hcg2 1 _ rfl
      have f2 := hcg2 2 _ rfl
      have f3 := hcg2 3 _ rfl
      have f4 := hcg2 4 _ rfl
      have f5 := hcg2 5 _ rfl
      rw [Nat.add_zero] at f0
      unfold encStm at HSA HSB HVS
      clear hcg hcg2
      have bi := ((Blk.new wr #[.int .i64 k] 3).alloc (.cells #[.string x.nm, .int .i64 x.st.at_, .string x.st.zn, .int .i64 x.st.gap, .int .i64 x.st.fold, .int .i64 x.ln] 67)).alloc (.cells #[.string x.nm, .int .i64 ks.at_, .string ks.zn, .int .i64 ks.gap, .int .i64 ks.fold, .int .i64 x.ln] 67)
      have bx := (Blk.new (wr.alloc (.cells #[.int .i64 k] 3)) #[.string x.nm, .int .i64 x.st.at_, .string x.st.zn, .int .i64 x.st.gap, .int .i64 x.st.fold, .int .i64 x.ln] 67).alloc (.cells #[.string x.nm, .int .i64 ks.at_, .string ks.zn, .int .i64 ks.gap, .int .i64 ks.fold, .int .i64 x.ln] 67)
      have by_ := Blk.new ((wr.alloc (.cells #[.int .i64 k] 3)).alloc (.cells #[.string x.nm, .int .i64 x.st.at_, .string x.st.zn, .int .i64 x.st.gap, .int .i64 x.st.fold, .int .i64 x.ln] 67)) #[.string x.nm, .int .i64 ks.at_, .string ks.zn, .int .i64 ks.gap, .int .i64 ks.fold, .int .i64 x.ln] 67
      have bh := (((b4.below hbr b4.lt).alloc (.cells #[.int .i64 k] 3)).alloc (.cells #[.string x.nm, .int .i64 x.st.at_, .string x.st.zn, .int .i64 x.st.gap, .int .i64 x.st.fold, .int .i64 x.ln] 67)).alloc (.cells #[.string x.nm, .int .i64 ks.at_, .string ks.zn, .int .i64 ks.gap, .int .i64 ks.fold, .int .i64 x.ln] 67)
      simp only [World.size_alloc] at bx by_
      have hbx : Below w4.heap.size w4 (((wr.alloc (.cells #[.int .i64 k] 3)).alloc (.cells #[.string x.nm, .int .i64 x.st.at_, .string x.st.zn, .int .i64 x.st.gap, .int .i64 x.st.fold, .int .i64 x.ln] 67)).alloc (.cells #[.string x.nm, .int .i64 ks.at_, .string ks.zn, .int .i64 ks.gap, .int .i64 ks.fold, .int .i64 x.ln] 67)) := ((hbr.alloc hbr.size _).alloc (by have := hbr.size; simp; omega) _).alloc (by have := hbr.size; simp; omega) _
      have x0 := blk_cl bx 0 _ rfl
      have x1 := blk_cl bx 1 _ rfl
      have x2 := blk_cl bx 2 _ rfl
      have x3 := blk_cl bx 3 _ rfl
      have x4 := blk_cl bx 4 _ rfl
      have x5 := blk_cl bx 5 _ rfl
      have y0 := blk_cl by_ 0 _ rfl
      have y1 := blk_cl by_ 1 _ rfl
      have y2 := blk_cl by_ 2 _ rfl
      have y3 := blk_cl by_ 3 _ rfl
      have y4 := blk_cl by_ 4 _ rfl
      have y5 := blk_cl by_ 5 _ rfl
      have xl := bx.lt
      have yl := by_.lt
      have ik1 : (0 : Int) ≤ (k : Int) := by omega
      have ik2 : (k : Int) < (KE.length : Int) := by omega
      go_wp2_with fail
      generalize hqq : wr.heap.size = q at *
      generalize ((wr.alloc (.cells #[.int .i64 k] 3)).alloc (.cells #[.string x.nm, .int .i64 x.st.at_, .string x.st.zn, .int .i64 x.st.gap, .int .i64 x.st.fold, .int .i64 x.ln] 67)).alloc (.cells #[.string x.nm, .int .i64 ks.at_, .string ks.zn, .int .i64 ks.gap, .int .i64 ks.fold, .int .i64 x.ln] 67) = wx at *
      clear e0 e1 e2 e3 e4 e5 f0 f1 f2 f3 f4 f5
      clear x0 x1 x2 x3 x4 x5 y0 y1 y2 y3 y4 y5 xl yl
      refine (HVS.out wx).mono ?_
      rintro e w5 ⟨rfl, hb5⟩
      have hb45 := hbx.trans (hb5.mono hbx.size)
      have bx := bx.below hb5 bx.lt
      have by_ := by_.below hb5 by_.lt
      have bi := bi.below hb5 bi.lt
      have bh := bh.below hb5 bh.lt
      clear hb5 hbx HVS
      have HCM := Lib.hid (cfM_any (fun x => x.en == (k : Int)) 34 _ (enters_of Tryz.func34 (by kernel_rfl) rfl) (.slice AM R.length cM) R w5 (mk1_any _ k w5 bi) (by omega) (HRM.out.on hb45))
      go_wp2_with fail
      refine HCM.out.mono ?_
      rintro e w6 ⟨rfl, hb6⟩
      have hb46 := hb45.trans (hb6.mono hb45.size)
      have bx := bx.below hb6 bx.lt
      have by_ := by_.below hb6 by_.lt
      have bh := bh.below hb6 bh.lt
      clear hb6 hb45 HCM bi
      cases ha : (R.any fun x => x.en == (k : Int))
      · obtain rfl := HKS.out ha
        clear ha
        have x0 := blk_cl bx 0 _ rfl
        have x1 := blk_cl bx 1 _ rfl
        have x2 := blk_cl bx 2 _ rfl
        have x3 := blk_cl bx 3 _ rfl
        have x4 := blk_cl bx 4 _ rfl
        have x5 := blk_cl bx 5 _ rfl
        have y0 := blk_cl by_ 0 _ rfl
        have y1 := blk_cl by_ 1 _ rfl
        have y2 := blk_cl by_ 2 _ rfl
        have y3 := blk_cl by_ 3 _ rfl
        have y4 := blk_cl by_ 4 _ rfl
        have y5 := blk_cl by_ 5 _ rfl
        have xl := bx.lt
        have yl := by_.lt
        have hne := fun w => neEn_same x w
        have hgd := fun op X Y xs ys w => gdEn op X Y xs ys w
        go_upto_region 17 with fail
        clear x0 x1 x2 x3 x4 x5 y0 y1 y2 y3 y4 y5 xl yl hne hgd
        have h0 := blk_cl bh 0 _ rfl
        have hl := bh.lt
        have x1 := blk_cl bx 1 _ rfl
        have x2 := blk_cl bx 2 _ rfl
        have x3 := blk_cl bx 3 _ rfl
        have x4 := blk_cl bx 4 _ rfl
        have xl := bx.lt
        go_wp2_with fail
        clear h0 hl x1 x2 x3 x4 xl
        refine (HSA.out w6 (hB5.trans (hb46.mono hB5.size))).mono ?_
        rintro e w7 ⟨rfl, hb7⟩
        have hb47 := hb46.trans (hb7.mono hb46.size)
        have by_ := by_.below hb7 by_.lt
        have bh := bh.below hb7 bh.lt
        clear hb7 hb46 HSA bx
        by_cases hr : r2 = 0
        case neg =>
          have d1 : (r2 != 0) = true := bne_iff_ne.2 hr
          have hfin : Below w4.heap.size w4 w7 := hb47
          go_wp2
          go_roundw
          case rel => exact ⟨k + 1, by omega, by go_num, hfin⟩
          case measure => simp [intOf]; omega
        subst hr
        obtain rfl := hKO.out rfl
        dsimp only at HSB
        have h0 := blk_cl bh 0 _ rfl
        have hl := bh.lt
        have y1 := blk_cl by_ 1 _ rfl
        have y2 := blk_cl by_ 2 _ rfl
        have y3 := blk_cl by_ 3 _ rfl
        have y4 := blk_cl by_ 4 _ rfl
        have yl := by_.lt
        go_wp2_with fail
        clear h0 hl y1 y2 y3 y4 yl bh by_
        refine (HSB.out w7 (hB5.trans (hb47.mono hB5.size))).mono ?_
        rintro e w8 ⟨rfl, hb8⟩
        have hfin : Below w4.heap.size w4 w8 := hb47.trans (hb8.mono hb47.size)
        clear hb8 hb47 HSB
        go_wp2
        go_roundw
        case rel => exact ⟨k + 1, by omega, by go_num, hfin⟩
        case measure => simp [intOf]; omega
      · clear ha
        go_upto_region 17 with fail
        have h0 := blk_cl bh 0 _ rfl
        have hl := bh.lt
        have x1 := blk_cl bx 1 _ rfl
        have x2 := blk_cl bx 2 _ rfl
        have x3 := blk_cl bx 3 _ rfl
        have x4 := blk_cl bx 4 _ rfl
        have xl := bx.lt
        go_wp2_with fail
        clear h0 hl x1 x2 x3 x4 xl
        refine (HSA.out w6 (hB5.trans (hb46.mono hB5.size))).mono ?_
        rintro e w7 ⟨rfl, hb7⟩
        have hb47 := hb46.trans (hb7.mono hb46.size)
        have by_ := by_.below hb7 by_.lt
        have bh := bh.below hb7 bh.lt
        clear hb7 hb46 HSA bx
        by_cases hr : r2 = 0
        case neg =>
          have d1 : (r2 != 0) = true := bne_iff_ne.2 hr
          have hfin : Below w4.heap.size w4 w7 := hb47
          go_wp2
          go_roundw
          case rel => exact ⟨k + 1, by omega, by go_num, hfin⟩
          case measure => simp [intOf]; omega
        subst hr
        obtain rfl := hKO.out rfl
        dsimp only at HSB
        have h0 := blk_cl bh 0 _ rfl
        have hl := bh.lt
        have y1 := blk_cl by_ 1 _ rfl
        have y2 := blk_cl by_ 2 _ rfl
        have y3 := blk_cl by_ 3 _ rfl
        have y4 := blk_cl by_ 4 _ rfl
        have yl := by_.lt
        go_wp2_with fail
        clear h0 hl y1 y2 y3 y4 yl bh by_
        refine (HSB.out w7 (hB5.trans (hb47.mono hB5.size))).mono ?_
        rintro e w8 ⟨rfl, hb8⟩
        have hfin : Below w4.heap.size w4 w8 := hb47.trans (hb8.mono hb47.size)
        clear hb8 hb47 HSB
        go_wp2
        go_roundw
        case rel => exact ⟨k + 1, by omega, by go_num, hfin⟩
        case measure => simp [intOf]; omega
    · have hk' : k = E.length := by omega
      subst hk'
      go_wp2
      go_ret
      exact ⟨rfl, hbw⟩

end Go.Proofs.YtoonaidpmahgcaaGreat

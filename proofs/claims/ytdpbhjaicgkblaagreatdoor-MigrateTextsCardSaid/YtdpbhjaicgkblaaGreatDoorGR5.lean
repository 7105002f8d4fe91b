/- Joined by merge.py: Ref53v, Ref53w. -/
import Derived.Test.YtdpbhjaicgkblaaGreatDoorGStm
import Derived.Test.YtdpbhjaicgkblaaGreatDoorGSc
import Derived.Test.YtdpbhjaicgkblaaGreatDoorGMig
/- The reference of layers 33, 53: Valid. -/
namespace Go.Proofs.YtdpbhjaicgkblaaGreatDoor
set_option linter.unusedSimpArgs false
set_option linter.unusedVariables false
open Go.ChangeShapes Go.WideShapes Go.ChangeAt Go.RowKit Go.Sort Go.Lib
theorem ctl_high {r : Nat} (h : 128 ≤ r) : ctlR r = true := by
 unfold ctlR
 simp
 omega
theorem idxC_iff (s : ByteArray) : ∀ (f pos : Nat), s.size ≤ pos + f →
  (0 ≤ Lib.idxFuncFrom ctlR true s f pos ↔ ∃ i, pos ≤ i ∧ i < s.size ∧ ctlR (s.get! i).toNat = true)
 | 0, pos, h => by
  simp only [Lib.idxFuncFrom]
  constructor
  ·intro h0; omega
  ·rintro ⟨i, h1, h2, _⟩; omega
 | f + 1, pos, h => by
  simp only [Lib.idxFuncFrom]
  by_cases hp : pos < s.size
  ·rw [if_pos hp]
   by_cases ha : (s.get! pos).toNat < 128
   ·have hd : Utf8.decode s pos = ((s.get! pos).toNat, 1) := by rw [Lib.decode_at]; exact Lib.decodeN_ascii _ _ _ _ _ ha
    rw [hd]
    dsimp only
    by_cases hb : ctlR (s.get! pos).toNat = true
    ·rw [if_pos hb]
     exact ⟨fun _ => ⟨pos, Nat.le_refl _, hp, hb⟩, fun _ => by omega⟩
    ·rw [if_neg hb, idxC_iff s f (pos + 1) (by omega)]
     constructor
     ·rintro ⟨i, h1, h2, h3⟩; exact ⟨i, by omega, h2, h3⟩
     ·rintro ⟨i, h1, h2, h3⟩
      have : i ≠ pos := fun e => hb (e ▸ h3)
      exact ⟨i, by omega, h2, h3⟩
   ·have hd := Cv.decode_high s pos (by omega)
    rw [if_pos (ctl_high hd)]
    exact ⟨fun _ => ⟨pos, Nat.le_refl _, hp, ctl_high (by omega)⟩, fun _ => by omega⟩
  ·rw [if_neg hp]
   constructor
   ·intro h0; omega
   ·rintro ⟨i, h1, h2, _⟩; omega
def okC (b : UInt8) : Bool := !ctlR b.toNat
theorem ctlB_eq (s : ByteArray) : ctlB s = !(s.data.toList.all okC) := by
 have h := idxC_iff s s.size 0 (by omega)
 unfold ctlB Lib.idxFunc
 rw [Bool.eq_iff_iff, decide_eq_true_iff, h]
 unfold okC
 simp only [Bool.not_eq_true', List.all_eq_false, Bool.not_eq_true, Bool.not_eq_false']
 constructor
 ·rintro ⟨i, _, h2, h3⟩
  refine ⟨s.get! i, ?_, by simpa using h3⟩
  exact List.mem_of_getElem? (Cv.get!_toList s i h2)
 ·rintro ⟨b, hb, h3⟩
  obtain ⟨i, hi, he⟩ := List.getElem_of_mem hb
  have hi' : i < s.size := by simpa using hi
  have e := Cv.get!_toList s i hi'
  rw [List.getElem?_eq_getElem hi, he] at e
  injection e with e
  exact ⟨i, Nat.zero_le _, hi', by rw [← e]; simpa using h3⟩
set_option maxRecDepth 100000 in
set_option maxHeartbeats 1500000 in
theorem r33_text (s : ByteArray) (w : World) : Calls Tryz.prog 49 #[.agg #[.int .i64 2, .int .i64 0, .string s]] w fun e w' => e = .returned (.bool (txtB s)) ∧ Below w.heap.size w w' := by
 have hB1 : Below w.heap.size w (w.alloc (.cells #[.int .i64 2, .int .i64 0, .string s] 106)) := (Below.refl _ _).alloc (Nat.le_refl _) _
 unfold txtB
 rw [ctlB_eq, Bool.not_not]
 by_cases h1 : (s.size : Int) ≤ 30
 ·have d1 : decide ((30 : Int) < s.size) = false := decide_eq_false (by omega)
  rw [decide_eq_true h1, Bool.true_and]
  obtain ⟨R, hRR⟩ : ∃ R, s.data.toList.all okC = R := ⟨_, rfl⟩
  rw [hRR]
  have HRR := Lib.hid hRR
  clear hRR
  go_enter Tryz.func49, Tryz.ntmps49
  go_wp2
  go_loop [3] (fun i => ∃ k : Nat, k ≤ s.size ∧ i = .int .i64 k ∧ (s.data.toList.take k).all okC = true) (fun i => s.size - (intOf i).toNat)
  case atStart => exact ⟨0, Nat.zero_le _, rfl, by simp⟩
  case round =>
   obtain ⟨k, hk, rfl, hr⟩ := hrel
   have HR := Lib.hid hr
   clear hr
   by_cases hlt : k < s.size
   ·by_cases b1 : ((s[k]'hlt).toNat : Int) < 32
    ·have HX := Lib.hid (show okC (s[k]'hlt) = false by unfold okC ctlR; simp; omega)
     have d1 := decide_eq_true b1
     clear b1
     go_wp2
     go_ret
     exact ⟨ret1 (vbool ((Cv.all_bad hlt HX.out).symm.trans HRR.out)), hB1⟩
    by_cases b2 : (126 : Int) < ((s[k]'hlt).toNat : Int)
    ·have HX := Lib.hid (show okC (s[k]'hlt) = false by unfold okC ctlR; simp; omega)
     have d1 := decide_eq_false b1
     have d2 := decide_eq_true b2
     clear b1 b2
     go_wp2
     go_ret
     exact ⟨ret1 (vbool ((Cv.all_bad hlt HX.out).symm.trans HRR.out)), hB1⟩
    have HX := Lib.hid (show okC (s[k]'hlt) = true by unfold okC ctlR; simp; omega)
    have d1 := decide_eq_false b1
    have d2 := decide_eq_false b2
    clear b1 b2
    go_wp2
    go_round
    case rel => exact ⟨k + 1, by omega, by go_num, Cv.all_snoc hlt HR.out HX.out⟩
    case measure => simp [intOf]; omega
   ·obtain rfl : k = s.size := by omega
    have ha : s.data.toList.all okC = true := by
     have := HR.out
     rwa [List.take_of_length_le (by simp)] at this
    have HA := Lib.hid ha
    clear HR ha
    go_wp2
    go_ret
    exact ⟨ret1 (vbool (HA.out.symm.trans HRR.out)), hB1⟩
 ·have d1 : decide ((30 : Int) < s.size) = true := decide_eq_true (by omega)
  rw [decide_eq_false h1, Bool.false_and]
  go_enter Tryz.func49, Tryz.ntmps49
  go_wp2
  go_ret
  exact ⟨rfl, hB1⟩
end Go.Proofs.YtdpbhjaicgkblaaGreatDoor
/- The reference of layer 53: Valid. Printed by gen_ref53t.py. -/
namespace Go.Proofs.YtdpbhjaicgkblaaGreatDoor
set_option linter.unusedSimpArgs false
set_option linter.unusedVariables false
open Go.ChangeShapes Go.WideShapes Go.ChangeAt Go.RowKit Go.Sort Go.Lib
theorem r53_name (s : ByteArray) (w : World) : Calls Tryz.prog 50 #[.string s] w fun e w' => e = .returned (.agg #[.int .i64 2, .int .i64 0, .string s]) ∧ Below w.heap.size w w' := by
 go_enter Tryz.func50, Tryz.ntmps50
 go_wp2
 exact bodyPost_ret (v := .agg #[.int .i64 2, .int .i64 0, .string s]) (by simp [results, Tryz.results50, go_sem]) rfl ⟨rfl, (Below.refl _ _).alloc (Nat.le_refl _) _⟩
set_option maxRecDepth 100000 in
set_option maxHeartbeats 2000000 in
def okE (x : Ent) : Bool := !badE x
theorem all_no {α : Type} [Inhabited α] {p : α → Bool} {E : List α} {k : Nat} (hk : k < E.length) (h : p E[k]! = false) : E.all p = false := by
 rw [List.all_eq_false]
 refine ⟨E[k]!, ?_, by rw [h]; decide⟩
 rw [getElem!_pos E k hk]
 exact List.getElem_mem hk
theorem all_tk {α : Type} [Inhabited α] {p : α → Bool} {E : List α} {k : Nat} (hk : k < E.length) (h : (E.take k).all p = true) (h1 : p E[k]! = true) : (E.take (k + 1)).all p = true := by
 rw [take_at hk, List.all_append, h, List.all_cons, h1]
 rfl
set_option maxRecDepth 100000 in
set_option maxHeartbeats 2000000 in
theorem r53_Valid (E : List Ent) (vE : Value) (w : World) (hE : Rd encEn 6 w vE E) (hel : E.length ≤ 1000) : Calls Tryz.prog 30 #[vE] w fun e w' => e = .returned (.bool (okEs E)) ∧ Below w.heap.size w w' := by
 have HRE := Lib.hid hE
 have HN := Lib.hid (fun s W => r53_name s W)
 have HT := Lib.hid (fun s W => r33_text s W)
 have HS := Lib.hid (fun s W => r25_Valid s W)
 unfold encStm at HS
 obtain ⟨AE, cE, rfl⟩ := rd_vf hE
 clear hE
 have hE1 : okEs E = E.all okE := by
  unfold okEs
  rw [decide_eq_true hel, Bool.true_and]
  induction E with
  | nil => rfl
  | cons x r ih =>
   rw [List.any_cons, List.all_cons, Bool.not_or]
   clear hel HRE
   have : (!r.any badE) = r.all okE := by
    clear ih
    induction r with
    | nil => rfl
    | cons y q ih => rw [List.any_cons, List.all_cons, Bool.not_or, ih]; rfl
   rw [this]
   rfl
 rw [hE1]
 suffices HPOST : ∀ Post : Ending → World → Prop, Hid (∀ w', Below w.heap.size w w' → Post (.returned (.bool (E.all okE))) w') → Calls Tryz.prog 30 #[.slice AE E.length cE] w Post from HPOST _ (Lib.hid fun w' h => ⟨rfl, h⟩)
 intro Post HP
 have HF := Lib.hid (fun k (hk : k < E.length) (h : okE E[k]! = false) w' hw => all_no hk h ▸ HP.out w' hw)
 have HY := Lib.hid (fun (h : E.all okE = true) w' hw => h ▸ HP.out w' hw)
 have dl : decide ((1000 : Int) < (E.length : Int)) = false := decide_eq_false (by omega)
 clear hE1 HP
 go_enter Tryz.func30, Tryz.ntmps30
 go_wp2
 go_loopw [3] (fun v3 wr => ∃ k : Nat, k ≤ E.length ∧ v3 = .int .i64 k ∧ Hid ((E.take k).all okE = true) ∧ Below w.heap.size w wr) (fun v3 _ => E.length - (intOf v3).toNat)
 case atStart => exact ⟨0, Nat.zero_le _, rfl, rfl, Below.refl _ _⟩
 case round =>
  obtain ⟨k, hkl, rfl, HK, hbr⟩ := hrel
  by_cases hlt : k < E.length
  ·obtain ⟨g, off, hA, hg, hcg⟩ : ∃ g off, AE = some ⟨g, off, none⟩ ∧ g < wr.heap.size ∧ ∀ i u, (encEn E[k]!)[i]? = some u → wr.cell? ⟨g, off + k * 6 + i, none⟩ = some u := by
    rcases HRE.out.on hbr with ⟨e, _⟩ | ⟨g, off, c2, hv, hg, hc⟩
    ·rw [e] at hlt; simp at hlt
    ·injection hv with e1 _ _
     exact ⟨g, off, e1, hg, fun i u hu => hc k hlt i u hu⟩
   subst hA
   have HF := Lib.hid (HF.out k hlt)
   have HK2 := Lib.hid (fun h => all_tk hlt HK.out h)
   clear HK HY
   have e0 := hcg 0 _ rfl
   have e1 := hcg 1 _ rfl
   have e2 := hcg 2 _ rfl
   have e3 := hcg 3 _ rfl
   have e4 := hcg 4 _ rfl
   have e5 := hcg 5 _ rfl
   rw [Nat.add_zero] at e0
   clear hcg
   generalize E[k]! = x at *
   have hbad : okE x = !(emptyB x.nm || (!txtB x.nm || (!stmB x.st || (decide (x.ln < 1) || decide (31622400 < x.ln))))) := rfl
   have HTX := Lib.hid (fun W => HT.out x.nm W)
   have HSX := Lib.hid (fun W => HS.out x.st W)
   clear HT HS
   generalize txtB x.nm = t1 at *
   generalize stmB x.st = t2 at *
   have b0 := Blk.new wr #[.string x.nm, .int .i64 x.st.at_, .string x.st.zn, .int .i64 x.st.gap, .int .i64 x.st.fold, .int .i64 x.ln] 40
   have hB0 := hbr.alloc hbr.size (.cells #[.string x.nm, .int .i64 x.st.at_, .string x.st.zn, .int .i64 x.st.gap, .int .i64 x.st.fold, .int .i64 x.ln] 40)
   have v0 := blk_cl b0 0 _ rfl
   have vl := b0.lt
   cases he : emptyB x.nm
   case true =>
    rw [he] at hbad
    unfold emptyB at he
    go_wp2
    exact HF.out hbad _ hB0
   rw [he, Bool.false_or] at hbad
   unfold emptyB at he
   go_wp2_with fail
   clear e0 e1 e2 e3 e4 e5 v0 vl he
   generalize wr.alloc (.cells #[.string x.nm, .int .i64 x.st.at_, .string x.st.zn, .int .i64 x.st.gap, .int .i64 x.st.fold, .int .i64 x.ln] 40) = W0 at *
   refine (HN.out _ W0).mono ?_
   rintro e w1 ⟨rfl, hb1⟩
   have hB1 := hB0.trans (hb1.mono hB0.size)
   have b1 := b0.below hb1 b0.lt
   go_wp2_with fail
   refine (HTX.out w1).mono ?_
   rintro e w2 ⟨rfl, hb2⟩
   have hB2 := hB1.trans (hb2.mono hB1.size)
   have b2 := b1.below hb2 b1.lt
   cases t1
   ·go_wp2
    exact HF.out hbad _ hB2
   have v1 := blk_cl b2 1 _ rfl
   have v2 := blk_cl b2 2 _ rfl
   have v3 := blk_cl b2 3 _ rfl
   have v4 := blk_cl b2 4 _ rfl
   have vl := b2.lt
   go_wp2_with fail
   refine (HSX.out w2).mono ?_
   rintro e w3 ⟨rfl, hb3⟩
   have hB3 := hB2.trans (hb3.mono hB2.size)
   have b3 := b2.below hb3 b2.lt
   clear v1 v2 v3 v4 vl
   cases t2
   ·go_wp2
    exact HF.out hbad _ hB3
   have v5 := blk_cl b3 5 _ rfl
   have vl := b3.lt
   by_cases h1 : x.ln < 1
   ·have d1 := decide_eq_true h1
    have hbad := Lib.hid (hbad.trans (by rw [d1]))
    go_wp2
    exact HF.out hbad.out _ hB3
   have d1 := decide_eq_false h1
   by_cases h2 : 31622400 < x.ln
   ·have d2 := decide_eq_true h2
    have hbad := Lib.hid (hbad.trans (by rw [d2, d1]))
    go_wp2
    exact HF.out hbad.out _ hB3
   have d2 := decide_eq_false h2
   have hbad := Lib.hid (hbad.trans (by rw [d2, d1]))
   go_wp2
   go_roundw
   case rel => exact ⟨k + 1, by omega, by go_num, HK2.out hbad.out, hB3⟩
   case measure => simp [intOf]; omega
  ·obtain rfl : k = E.length := by omega
   have HE := Lib.hid (HY.out (by have := HK.out; rwa [List.take_length] at this))
   clear HY HF HK
   go_wp2
   exact HE.out _ hbr
end Go.Proofs.YtdpbhjaicgkblaaGreatDoor

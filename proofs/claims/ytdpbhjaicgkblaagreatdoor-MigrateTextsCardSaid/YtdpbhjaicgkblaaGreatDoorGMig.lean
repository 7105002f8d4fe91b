/- Joined by merge.py: MigL, MigW2, MigW3, MigW3b, MigW4. -/
import Derived.Test.YtdpbhjaicgkblaaGreatDoorGStm
import Derived.Test.YtdpbhjaicgkblaaGreatDoorGHis
import Derived.Deep.DeepCutAuto
import Derived.Deep.CutRange
/- What migrate.Report makes of entries, in plain words. -/
namespace Go.Proofs.YtdpbhjaicgkblaaGreatDoor
set_option linter.unusedSimpArgs false
set_option linter.unusedVariables false
open Go.ChangeShapes Go.WideShapes Go.ChangeAt Go.RowKit Go.Sort Go.Lib
structure Mig where
 en : Int
 kd : Int
 od : Int
 nw : Int
instance : Inhabited Mig := ⟨⟨0, 0, 0, 0⟩⟩
def encM (m : Mig) : List Value := [.int .i64 m.en, .int .i64 m.kd, .int .i64 m.od, .int .i64 m.nw]
theorem encM_len (m : Mig) : (encM m).length = 4 := rfl
theorem encM_one (m : Mig) : ∀ u ∈ encM m, u.oneCell' = true := by
 intro v hv
 simp [encM] at hv
 rcases hv with rfl | rfl | rfl | rfl <;> rfl
def kindF (x y : Int × Int) : Int := if x.1 = y.1 ∧ decide (x.2 = 0) = decide (y.2 = 0) then 0 else if x.2 = 0 ∧ y.2 = 0 then 1 else if x.2 = 0 then 2 else 3
def migOf (i : Int) (x y : Int × Int) : Mig := ⟨i, kindF x y, x.1, y.1⟩
def migF (L : List VV) (a b : ByteArray) (i : Int) (e : Ent) : Mig := migOf i (rsvF L a e.st) (rsvF L b e.st)
def repM (f : Nat → Mig) : Nat → List Mig
 | 0 => []
 | k + 1 => if (f k).kd = 0 then repM f k else repM f k ++ [f k]
theorem repM_len (f : Nat → Mig) : ∀ k, (repM f k).length ≤ k
 | 0 => Nat.le_refl _
 | k + 1 => by
  have := repM_len f k
  rw [repM]
  split
  ·omega
  ·rw [List.length_append]; simp; omega
def nmsF : List VV → List ByteArray
 | [] => []
 | x :: r => x.nm :: nmsF r
theorem nmsF_len : ∀ L : List VV, (nmsF L).length = L.length
 | [] => rfl
 | x :: r => by show (nmsF r).length + 1 = r.length + 1; rw [nmsF_len r]
theorem nmsF_snoc (x : VV) : ∀ L : List VV, nmsF (L ++ [x]) = nmsF L ++ [x.nm]
 | [] => rfl
 | y :: r => by show y.nm :: nmsF (r ++ [x]) = y.nm :: (nmsF r ++ [x.nm]); rw [nmsF_snoc x r]
def encNm (s : ByteArray) : List Value := [.string s]
theorem encNm_len (s : ByteArray) : (encNm s).length = 1 := rfl
theorem encNm_one (s : ByteArray) : ∀ u ∈ encNm s, u.oneCell' = true := by
 intro v hv
 obtain rfl := List.mem_singleton.1 hv
 rfl
def givA (vs ns : List ByteArray) : Int := if vs.all (fun v => memB v ns) = true then 0 else 7
def givF (L : List VV) (E : List Ent) (vs : List ByteArray) : Int := if validH L = true ∧ okEs E = true then givA vs (nmsF L) else 1
end Go.Proofs.YtdpbhjaicgkblaaGreatDoor
/- version.Names; slices.Contains at strings; migrate.given. -/
namespace Go.Proofs.YtdpbhjaicgkblaaGreatDoor
set_option linter.unusedSimpArgs false
set_option linter.unusedVariables false
open Go.ChangeShapes Go.WideShapes Go.ChangeAt Go.RowKit Go.Sort Go.Lib
theorem infoStr : (Tryz.prog.info? 9).map (fun i => (i.zero, i.size, i.bytes)) = some (some (.string ⟨#[]⟩), 1, 16) := by kernel_rfl
set_option maxRecDepth 100000 in
set_option maxHeartbeats 1500000 in
theorem Names_his (L : List VV) (vH : Value) (w : World) (hv : validH L = true) (hm : HasMax w) (hg : GoodH w vH L) (hk : OkH L) : Calls Tryz.prog 56 #[.agg #[vH]] w fun e w' => Below w.heap.size w w' ∧ ∃ u, e = .returned u ∧ w'.ownsRow w.heap.size 9 1 u (nmsF L).length ((nmsF L).flatMap encNm) := by
 have HV := Lib.hid (fun W (hb : Below w.heap.size w W) => Valid_his L vH W (hm.on hb) (hg.on hb) hk)
 rw [hv] at HV
 have HR := Lib.hid hg.r
 have hn := hk.n
 obtain ⟨A, c, rfl⟩ := rd_vf hg.r
 clear hg hk hm hv
 have b0 := Blk.new w #[.slice A L.length c] 28
 have hB1 : Below w.heap.size w (w.alloc (.cells #[.slice A L.length c] 28)) := (Below.refl _ _).alloc (Nat.le_refl _) _
 have h0 := blk_cl b0 0 _ rfl
 have hl := b0.lt
 obtain ⟨i0, hi0, hz0, hz1, hz2⟩ := info_parts infoStr
 go_enter Tryz.func56, Tryz.ntmps56
 go_wp2_with fail
 generalize w.alloc (.cells #[.slice A L.length c] 28) = W at *
 clear h0 hl
 refine (HV.out W hB1).mono ?_
 rintro e W1 ⟨rfl, hb1⟩
 have hB2 := hB1.trans (hb1.mono hB1.size)
 have b1 := b0.below hb1 b0.lt
 have h0 := blk_cl b1 0 _ rfl
 have hl := b1.lt
 go_wp2
 clear h0 hl b0 b1 hb1 hB1 HV
 go_loopw [3, 12] (fun v3 v12 wr => ∃ k : Nat, k ≤ L.length ∧ v12 = .int .i64 k ∧ wr.ownsRow w.heap.size 9 1 v3 (nmsF (L.take k)).length ((nmsF (L.take k)).flatMap encNm) ∧ Below w.heap.size w wr) (fun _ v12 _ => L.length - (intOf v12).toNat)
 case atStart => exact ⟨0, Nat.zero_le _, rfl, World.ownsRow_nil _ _ _ _, hB2⟩
 case round =>
  obtain ⟨k, hkl, rfl, hown, hbr⟩ := hrel
  by_cases hlt : k < L.length
  ·obtain ⟨g, off, hA, hg, hcg⟩ : ∃ g off, A = some ⟨g, off, none⟩ ∧ g < wr.heap.size ∧ ∀ i u, (encVV L[k]!)[i]? = some u → wr.cell? ⟨g, off + k * 3 + i, none⟩ = some u := by
    rcases HR.out.on hbr with ⟨e, _⟩ | ⟨g, off, c2, hv, hg, hc⟩
    ·rw [e] at hlt; simp at hlt
    ·injection hv with e1 _ _
     exact ⟨g, off, e1, hg, fun i u hu => hc k hlt i u hu⟩
   subst hA
   have HTK := Lib.hid (show nmsF (L.take (k + 1)) = nmsF (L.take k) ++ [(L[k]!).nm] by rw [take_at hlt, nmsF_snoc])
   have hln : (nmsF (L.take k)).length ≤ 1000 := by rw [nmsF_len, List.length_take]; omega
   generalize L[k]! = y at *
   obtain ⟨xn, zs, ls, vZ, vL, ⟨Az, cz, rfl⟩, ⟨Al, cl, rfl⟩⟩ := y
   unfold encVV at hcg
   dsimp only at hcg HTK
   have e0 := hcg 0 _ rfl
   have e1 := hcg 1 _ rfl
   have e2 := hcg 2 _ rfl
   rw [Nat.add_zero] at e0
   have HOW := Lib.hid hown
   have hsz := hbr.size
   clear hown hcg
   go_wp2_with (at_builtin; go_loud (refine wpList_append_own_at _ rfl _ _ 92 rfl w.heap.size 9 i0 _ 1 16 Tryz.underlying92 hi0 hz0 hz1 hz2 rfl (by decide) u3 _ _ rfl ((HOW.out.alloc _).alloc _) ⟨_, 0, none⟩ 1 1 (encNm xn) rfl rfl (new_row_at (by simp) _) (encNm_one xn) (by simp only [maxLen]; omega) (by omega) (by simp; omega) ?_); intro v' w7 hown7 hg7 _ hat7)
   go_roundw
   case rel =>
    refine ⟨k + 1, by omega, by go_num, ?_, ?_⟩
    ·rw [HTK.out, List.length_append, List.flatMap_append]
     simpa using hown7
    ·exact below_app HOW.out (Nat.le_refl _) ((hbr.alloc hbr.size _).alloc (by simp; omega) _) hg7
   case measure => simp [intOf]; omega
  ·have hk' : k = L.length := by omega
   subst hk'
   rw [List.take_length] at hown
   have HOW := Lib.hid hown
   have HBR := Lib.hid hbr
   clear hown hbr
   go_wp2
   go_ret
   exact ⟨HBR.out, _, rfl, HOW.out⟩
theorem has_str (v : Value) (ns : List ByteArray) (x : ByteArray) (w : World) (hl : ns.length ≤ 1000000) (hR : Rd encNm 1 w v ns) :
  Calls Tryz.prog 57 #[v, .string x] w fun e w' => e = .returned (.bool (memB x ns)) ∧ w' = w := by
 rcases hR with ⟨rfl, A, c, rfl⟩ | ⟨b, off, c, rfl, hb, hc⟩
 ·refine (Tryz.slices_Contains_string_empty _ _ _ _).mono ?_
  rintro e w' ⟨rfl, rfl⟩
  exact ⟨rfl, rfl⟩
 ·have h := Tryz.slices_Contains_string b off ns.length c ns x w (Nat.le_refl _) (by omega) (fun j hj => by
   have := hc j hj 0 (.string ns[j]!) rfl
   simpa [getElem!_pos ns j hj, hj] using this)
  rw [List.take_length] at h
  refine h.mono ?_
  rintro e w' ⟨rfl, rfl⟩
  refine ⟨ret1 (vbool ?_), rfl⟩
  rw [Bool.eq_iff_iff, Lib.containsS_iff, memB_iff]
theorem all_take {α : Type} [Inhabited α] {p : α → Bool} {l : List α} {k : Nat} (hk : k < l.length) (h : (l.take k).all p = true) : (l.take (k + 1)).all p = p l[k]! := by
 rw [take_at hk, List.all_append, h]
 simp
theorem all_miss {α : Type} [Inhabited α] {p : α → Bool} {l : List α} {k : Nat} (hk : k < l.length) (h : p l[k]! = false) : l.all p = false := by
 rw [List.all_eq_false]
 rw [getElem!_pos l k hk] at h
 exact ⟨_, List.getElem_mem hk, by rw [h]; decide⟩
set_option maxRecDepth 100000 in
set_option maxHeartbeats 1500000 in
theorem given_any (L : List VV) (vH : Value) (E : List Ent) (vE : Value) (vs : List ByteArray) (vV : Value) (w : World) (hl : E.length ≤ 1000000) (hm : HasMax w) (hg : GoodH w vH L) (hk : OkH L) (hE : Rd encEn 6 w vE E) (hV : Rd encNm 1 w vV vs) (hvl : vs.length ≤ 1000) :
  Calls Tryz.prog 33 #[.agg #[vH], vE, vV] w fun e w' => e = .returned (.int .i64 (givF L E vs)) ∧ Below w.heap.size w w' := by
 have HV := Lib.hid (fun W (hb : Below w.heap.size w W) => Valid_his L vH W (hm.on hb) (hg.on hb) hk)
 have HN := Lib.hid (fun hv W (hb : Below w.heap.size w W) => Names_his L vH W hv (hm.on hb) (hg.on hb) hk)
 have HM := Lib.hid (fun W (hb : Below w.heap.size w W) => mvalid_any E vE W hl (hE.on hb))
 have hn := hk.n
 obtain ⟨A, c, rfl⟩ := rd_vf hg.r
 have HVS := Lib.hid hV
 obtain ⟨AV, cV, rfl⟩ := rd_vf hV
 obtain ⟨AE, cE, rfl⟩ := rd_vf hE
 clear hg hk hm hE hV
 have b0 := Blk.new w #[.slice A L.length c] 28
 have hB1 : Below w.heap.size w (w.alloc (.cells #[.slice A L.length c] 28)) := (Below.refl _ _).alloc (Nat.le_refl _) _
 have h0 := blk_cl b0 0 _ rfl
 have hl := b0.lt
 unfold givF
 cases hv : validH L
 case false =>
  rw [hv] at HV
  rw [if_neg (by simp)]
  go_enter Tryz.func33, Tryz.ntmps33
  go_wp2_with (go_at_call 55; refine (HV.out _ hB1).mono ?_; rintro e W1 ⟨rfl, hb1⟩)
  go_ret
  exact ⟨rfl, hB1.trans (hb1.mono hB1.size)⟩
 rw [hv] at HV
 have HN := Lib.hid (HN.out hv)
 clear hv
 cases ho : okEs E
 case false =>
  rw [ho] at HM
  rw [if_neg (by simp)]
  go_enter Tryz.func33, Tryz.ntmps33
  go_wp2_with (first | (go_at_call 55; refine (HV.out _ hB1).mono ?_; rintro e W1 ⟨rfl, hb1⟩; have hB2 := hB1.trans (hb1.mono hB1.size)) | (go_at_call 24; refine (HM.out _ hB2).mono ?_; rintro e W2 ⟨rfl, hb2⟩))
  go_ret
  exact ⟨rfl, hB2.trans (hb2.mono hB2.size)⟩
 rw [ho] at HM
 clear ho
 rw [if_pos ⟨rfl, rfl⟩]
 have hnl : (nmsF L).length ≤ 1000 := by rw [nmsF_len]; exact hn
 generalize nmsF L = ns at *
 go_enter Tryz.func33, Tryz.ntmps33
 go_wp2_with fail
 generalize w.alloc (.cells #[.slice A L.length c] 28) = W at *
 refine (HV.out W hB1).mono ?_
 rintro e W1 ⟨rfl, hb1⟩
 have hB2 := hB1.trans (hb1.mono hB1.size)
 have b1 := b0.below hb1 b0.lt
 clear h0 hl b0 hb1 HV
 go_wp2_with fail
 refine (HM.out W1 hB2).mono ?_
 rintro e W2 ⟨rfl, hb2⟩
 have hB3 := hB2.trans (hb2.mono hB2.size)
 have b2 := b1.below hb2 b1.lt
 have h0 := blk_cl b2 0 _ rfl
 have hl := b2.lt
 clear b1 hb2 HM
 go_wp2_with fail
 refine (HN.out W2 hB3).mono ?_
 rintro e W3 ⟨hb3, u, rfl, hown⟩
 have hB4 := hB3.trans (hb3.mono hB3.size)
 have HRN := Lib.hid (rd_of_own encNm_len hown rfl)
 obtain ⟨AN, cN, rfl⟩ := own_formN hown
 clear h0 hl b2 hb3 HN hown
 go_wp2
 go_loopw [22] (fun v22 wr => ∃ k : Nat, k ≤ vs.length ∧ v22 = .int .i64 k ∧ Below W3.heap.size W3 wr ∧ (vs.take k).all (fun v => memB v ns) = true) (fun v22 _ => vs.length - (intOf v22).toNat)
 case atStart => exact ⟨0, Nat.zero_le _, rfl, Below.refl _ _, rfl⟩
 case round =>
  obtain ⟨k, hkl, rfl, hbr, hall⟩ := hrel
  have hbw := hB4.trans (hbr.mono hB4.size)
  by_cases hlt : k < vs.length
  ·obtain ⟨g, off, hA, hg, hcg⟩ : ∃ g off, AV = some ⟨g, off, none⟩ ∧ g < wr.heap.size ∧ ∀ i u, (encNm vs[k]!)[i]? = some u → wr.cell? ⟨g, off + k * 1 + i, none⟩ = some u := by
    rcases HVS.out.on hbw with ⟨e, _⟩ | ⟨g, off, c2, hv, hg, hc⟩
    ·rw [e] at hlt; simp at hlt
    ·injection hv with e1 _ _
     exact ⟨g, off, e1, hg, fun i u hu => hc k hlt i u hu⟩
   subst hA
   have hat := all_take hlt hall
   have hms := all_miss (p := fun v => memB v ns) hlt
   have HC := Lib.hid (fun W hb => has_str (.slice AN ns.length cN) ns vs[k]! W (by omega) (HRN.out.on hb))
   have HX := Lib.hid hat
   have HMS := Lib.hid hms
   clear hat hms hall
   generalize vs[k]! = y at *
   have e0 := hcg 0 _ rfl
   rw [Nat.add_zero, Nat.mul_one] at e0
   clear hcg
   go_wp2_with fail
   refine (HC.out wr hbr).mono ?_
   rintro e w5 ⟨rfl, rfl⟩
   cases hd : memB y ns
   ·have HF := Lib.hid (show givA vs ns = 7 from if_neg (by rw [HMS.out hd]; decide))
    go_wp2
    go_ret
    exact ⟨by rw [HF.out]; rfl, hbw⟩
   ·have HT := Lib.hid (HX.out.trans hd)
    clear hd
    go_wp2
    go_roundw
    case rel => exact ⟨k + 1, by omega, by go_num, hbr, HT.out⟩
    case measure => simp [intOf]; omega
  ·have hk' : k = vs.length := by omega
   subst hk'
   rw [List.take_length] at hall
   have HA := Lib.hid (show givA vs ns = 0 from if_pos hall)
   clear hall
   go_wp2
   go_ret
   exact ⟨by rw [HA.out]; rfl, hbw⟩
end Go.Proofs.YtdpbhjaicgkblaaGreatDoor
/- migrate.start. -/
namespace Go.Proofs.YtdpbhjaicgkblaaGreatDoor
set_option linter.unusedSimpArgs false
set_option linter.unusedVariables false
open Go.ChangeShapes Go.WideShapes Go.ChangeAt Go.RowKit Go.Sort Go.Lib
def whenV (x : Int × Int) : Array Value := #[.int .i64 x.1, .bool (decide (x.2 = 0))]
set_option maxRecDepth 100000 in
set_option maxHeartbeats 1500000 in
theorem start_any (L : List VV) (vH : Value) (vn : ByteArray) (x : Ent) (w : World) (hm : HasMax w) (hg : GoodH w vH L) (hk : OkH L) : Calls Tryz.prog 58 #[.agg #[vH], .string vn, .agg (encEn x).toArray] w fun e w' => e = .returned (.agg (whenV (rsvF L vn x.st))) ∧ Below w.heap.size w w' := by
 have HR := Lib.hid (fun W (hb : Below w.heap.size w W) => Resolve_his L vH vn x.st W (hm.on hb) (hg.on hb) hk)
 obtain ⟨A, c, rfl⟩ := rd_vf hg.r
 clear hg hk hm
 unfold encStm at HR
 unfold whenV
 generalize rsvF L vn x.st = r at *
 obtain ⟨r1, r2⟩ := r
 dsimp only at HR ⊢
 show Calls Tryz.prog 58 #[.agg #[.slice A L.length c], .string vn, .agg #[.string x.nm, .int .i64 x.st.at_, .string x.st.zn, .int .i64 x.st.gap, .int .i64 x.st.fold, .int .i64 x.ln]] w _
 have b0 := ((Blk.new w #[.slice A L.length c] 28).alloc (.cells #[.string x.nm, .int .i64 x.st.at_, .string x.st.zn, .int .i64 x.st.gap, .int .i64 x.st.fold, .int .i64 x.ln] 40)).alloc (.cells #[.int .i64 0, .bool false] 129)
 have b1 := (Blk.new (w.alloc (.cells #[.slice A L.length c] 28)) #[.string x.nm, .int .i64 x.st.at_, .string x.st.zn, .int .i64 x.st.gap, .int .i64 x.st.fold, .int .i64 x.ln] 40).alloc (.cells #[.int .i64 0, .bool false] 129)
 have b2 := Blk.new ((w.alloc (.cells #[.slice A L.length c] 28)).alloc (.cells #[.string x.nm, .int .i64 x.st.at_, .string x.st.zn, .int .i64 x.st.gap, .int .i64 x.st.fold, .int .i64 x.ln] 40)) #[.int .i64 0, .bool false] 129
 simp only [World.size_alloc] at b1 b2
 have hB3 : Below w.heap.size w (((w.alloc (.cells #[.slice A L.length c] 28)).alloc (.cells #[.string x.nm, .int .i64 x.st.at_, .string x.st.zn, .int .i64 x.st.gap, .int .i64 x.st.fold, .int .i64 x.ln] 40)).alloc (.cells #[.int .i64 0, .bool false] 129)) := (((Below.refl _ _).alloc (Nat.le_refl _) _).alloc (by simp) _).alloc (by simp; omega) _
 have h0 := blk_cl b0 0 _ rfl
 have hl := b0.lt
 have m0 := blk_cl b1 0 _ rfl
 have m1 := blk_cl b1 1 _ rfl
 have m2 := blk_cl b1 2 _ rfl
 have m3 := blk_cl b1 3 _ rfl
 have m4 := blk_cl b1 4 _ rfl
 have m5 := blk_cl b1 5 _ rfl
 have ml := b1.lt
 go_enter Tryz.func58, Tryz.ntmps58
 go_wp2_with fail
 generalize ((w.alloc (.cells #[.slice A L.length c] 28)).alloc (.cells #[.string x.nm, .int .i64 x.st.at_, .string x.st.zn, .int .i64 x.st.gap, .int .i64 x.st.fold, .int .i64 x.ln] 40)).alloc (.cells #[.int .i64 0, .bool false] 129) = W at *
 refine (HR.out W hB3).mono ?_
 rintro e w1 ⟨rfl, hb1⟩
 have hbw := hB3.trans (hb1.mono hB3.size)
 have c2 := b2.below hb1 b2.lt
 have zl := c2.lt
 have q0 := blk_cl c2 0 _ rfl
 have q1 := blk_cl c2 1 _ rfl
 have rf := fun i => c2.frozen i
 clear h0 hl m0 m1 m2 m3 m4 m5 ml
 go_wp2
 have s2 : Blk ((w1.setCell ⟨w.heap.size + 1 + 1, 0, none⟩ (.int .i64 r1)).setCell ⟨w.heap.size + 1 + 1, 1, none⟩ (.bool (r2 == 0))) (w.heap.size + 1 + 1) #[.int .i64 r1, .bool (r2 == 0)] 129 := by
  have := (c2.setAt 0 (.int .i64 r1)).setAt 1 (.bool (r2 == 0))
  simpa using this
 have hB9 : Below w.heap.size w ((w1.setCell ⟨w.heap.size + 1 + 1, 0, none⟩ (.int .i64 r1)).setCell ⟨w.heap.size + 1 + 1, 1, none⟩ (.bool (r2 == 0))) := (hbw.setCell (p := ⟨w.heap.size + 1 + 1, 0, none⟩) (by show w.heap.size ≤ w.heap.size + 1 + 1; omega) _).setCell (p := ⟨w.heap.size + 1 + 1, 1, none⟩) (by show w.heap.size ≤ w.heap.size + 1 + 1; omega) _
 have s0 := s2.cell 0 rfl
 have s1 := s2.cell 1 rfl
 clear s2 q0 q1 rf c2 zl
 generalize (w1.setCell ⟨w.heap.size + 1 + 1, 0, none⟩ _).setCell ⟨w.heap.size + 1 + 1, 1, none⟩ _ = w9 at *
 exact bodyPost_ret (v := .agg #[.int .i64 r1, .bool (r2 == 0)]) (by simp [results, Tryz.results58, go_sem, s0, s1]) rfl ⟨by rw [show (r2 == 0) = decide (r2 = 0) from rfl], hB9⟩
end Go.Proofs.YtdpbhjaicgkblaaGreatDoor
/- migrate.change. -/
namespace Go.Proofs.YtdpbhjaicgkblaaGreatDoor
set_option linter.unusedSimpArgs false
set_option linter.unusedVariables false
open Go.ChangeShapes Go.WideShapes Go.ChangeAt Go.RowKit Go.Sort Go.Lib
def kindB (x : Int) (p : Bool) (y : Int) (q : Bool) : Int := if x = y ∧ p = q then 0 else if p = true ∧ q = true then 1 else if p = true then 2 else 3
theorem kindF_B (x y : Int × Int) : kindF x y = kindB x.1 (decide (x.2 = 0)) y.1 (decide (y.2 = 0)) := by
 unfold kindF kindB
 by_cases h1 : x.2 = 0 <;> by_cases h2 : y.2 = 0 <;> simp [h1, h2]
theorem when_eq (x y : Int) (p q : Bool) (w : World) : (binOp .eql 129 (.agg #[.int .i64 x, .bool p]) (.agg #[.int .i64 y, .bool q])).run Tryz.prog w = .ok (.bool (decide (x = y ∧ p = q))) w := by
 have u3 := Tryz.underlying3
 have u4 := Tryz.underlying4
 have hS : Tryz.prog.underlying 129 = some (.struct (Tryz.prog.fieldsOf 129)) := by kernel_rfl
 have hp : Tryz.prog.stoodInHeld 129 = false := by kernel_rfl
 have a3 : ∀ w, (isAgg 3).run Tryz.prog w = .ok false w := fun w => by kernel_rfl
 have z3 : ∀ w, (Go.sizeOf 3).run Tryz.prog w = .ok 1 w := fun w => by kernel_rfl
 have a4 : ∀ w, (isAgg 4).run Tryz.prog w = .ok false w := fun w => by kernel_rfl
 have z4 : ∀ w, (Go.sizeOf 4).run Tryz.prog w = .ok 1 w := fun w => by kernel_rfl
 rw [run_eql_struct, show (10000 : Nat) = 9999 + 1 from rfl, run_equalIn_agg w 9999 129 _ _ hS hp]
 simp only [Program.fieldsOf, Tryz.underlying129]
 go_simp
 by_cases h1 : x = y <;> cases p <;> cases q <;> simp [h1]
theorem when_guard (op : BinOp) (x y : Operand) (xs ys : Array Value) (w : World) : (eqGuard op 129 x y (.agg xs) (.agg ys)).run Tryz.prog w = .ok () w := run_eqGuard_agg w op 129 x y xs ys (by kernel_rfl)
theorem bel_al {a b : World} {o : Obj} (h : Below a.heap.size a b) : Below a.heap.size a (b.alloc o) := h.alloc h.size o
theorem bel_st {B i : Nat} {a b : World} {v : Value} (h : Below a.heap.size a b) (hn : a.heap.size ≤ B) : Below a.heap.size a (b.setCell ⟨B, i, none⟩ v) := h.setCell (p := ⟨B, i, none⟩) hn v
theorem bel_tr {a b c : World} (h : Below a.heap.size a b) (hb : Below b.heap.size b c) : Below a.heap.size a c := h.trans (hb.mono h.size)
theorem blk_newE {W : World} {B : Nat} {cs : Array Value} {T : TypeId} (h : B = W.heap.size) : Blk (W.alloc (.cells cs T)) B cs T := by subst h; exact Blk.new W cs T
theorem blk_n0 (W : World) (cs : Array Value) (T : TypeId) : Blk (W.alloc (.cells cs T)).drew W.heap.size cs T := Blk.new W cs T
theorem blk_n2 (W : World) (o : Obj) (cs : Array Value) (T : TypeId) : Blk ((W.alloc (.cells cs T)).alloc o).drew W.heap.size cs T := (Blk.new W cs T).alloc o
theorem blk_m1 (W : World) (o : Obj) (cs : Array Value) (T : TypeId) : Blk ((W.alloc o).alloc (.cells cs T)) (W.heap.size + 1) cs T := by
 have := Blk.new (W.alloc o) cs T
 rwa [World.size_alloc] at this
theorem blk_n1 (W : World) (o : Obj) (cs : Array Value) (T : TypeId) : Blk ((W.alloc o).alloc (.cells cs T)).drew (W.heap.size + 1) cs T := blk_m1 W o cs T
theorem bel_dr {a b : World} (h : Below a.heap.size a b) : Below a.heap.size a b.drew := h.drew
theorem set4c {W : World} {B : Nat} {T : TypeId} {a0 a1 a2 a3 : Value} (h : Blk W B #[a0, a1, a2, a3] T) (v0 v1 v2 v3 : Value) :
  Blk ((((W.setCell ⟨B, 0, none⟩ v0).setCell ⟨B, 1, none⟩ v1).setCell ⟨B, 2, none⟩ v2).setCell ⟨B, 3, none⟩ v3) B #[v0, v1, v2, v3] T := by
 have := (((h.setAt 0 v0).setAt 1 v1).setAt 2 v2).setAt 3 v3
 simpa using this
theorem set4c_below {w W : World} {B : Nat} (h : Below w.heap.size w W) (hB : w.heap.size ≤ B) (v0 v1 v2 v3 : Value) :
  Below w.heap.size w ((((W.setCell ⟨B, 0, none⟩ v0).setCell ⟨B, 1, none⟩ v1).setCell ⟨B, 2, none⟩ v2).setCell ⟨B, 3, none⟩ v3) :=
 (((h.setCell (p := ⟨B, 0, none⟩) hB v0).setCell (p := ⟨B, 1, none⟩) hB v1).setCell (p := ⟨B, 2, none⟩) hB v2).setCell (p := ⟨B, 3, none⟩) hB v3
theorem bel_al2 {a b : World} (h : Below a.heap.size a b) (o : Obj) : Below a.heap.size a (b.alloc o) := h.alloc h.size o
theorem blk_set2 {W : World} {B : Nat} {T : TypeId} {a0 a1 v0 v1 : Value} (h : Blk W B #[a0, a1] T) : Blk ((W.setCell ⟨B, 0, none⟩ v0).setCell ⟨B, 1, none⟩ v1) B #[v0, v1] T := by
 have := (h.setAt 0 v0).setAt 1 v1
 simpa using this
theorem blk_oth2 {W : World} {B B' i j : Nat} {cs : Array Value} {T : TypeId} {v0 v1 : Value} (h : Blk W B cs T) (hne : B ≠ B') : Blk ((W.setCell ⟨B', i, none⟩ v0).setCell ⟨B', j, none⟩ v1) B cs T := (h.other hne v0).other hne v1
set_option maxRecDepth 100000 in
set_option maxHeartbeats 6000000 in
theorem change_any (L : List VV) (vH : Value) (a b : ByteArray) (i : Int) (x : Ent) (w : World) (hm : HasMax w) (hg : GoodH w vH L) (hk : OkH L) : Calls Tryz.prog 34 #[.agg #[vH], .string a, .string b, .int .i64 i, .agg (encEn x).toArray] w fun e w' => e = .returned (.agg (encM (migF L a b i x)).toArray) ∧ Below w.heap.size w w' := by
 have HA := Lib.hid (fun W (hb : Below w.heap.size w W) => start_any L vH a x W (hm.on hb) (hg.on hb) hk)
 have HB := Lib.hid (fun W (hb : Below w.heap.size w W) => start_any L vH b x W (hm.on hb) (hg.on hb) hk)
 obtain ⟨A, c, rfl⟩ := rd_vf hg.r
 clear hg hk hm
 unfold migF migOf encM
 dsimp only
 generalize rsvF L a x.st = r at *
 generalize rsvF L b x.st = s at *
 rw [kindF_B]
 unfold whenV at HA HB
 generalize decide (r.2 = 0) = pr at *
 generalize decide (s.2 = 0) = ps at *
 generalize r.1 = r1 at *
 generalize s.1 = s1 at *
 generalize hkb : kindB r1 pr s1 ps = kb at *
 have HKB := Lib.hid hkb
 clear hkb
 unfold encEn at HA HB
 have b0 := ((Blk.new w #[.slice A L.length c] 28).alloc (.cells #[.string x.nm, .int .i64 x.st.at_, .string x.st.zn, .int .i64 x.st.gap, .int .i64 x.st.fold, .int .i64 x.ln] 40)).alloc (.cells #[.int .i64 0, .int .i64 0, .int .i64 0, .int .i64 0] 46)
 have b1 := (Blk.new (w.alloc (.cells #[.slice A L.length c] 28)) #[.string x.nm, .int .i64 x.st.at_, .string x.st.zn, .int .i64 x.st.gap, .int .i64 x.st.fold, .int .i64 x.ln] 40).alloc (.cells #[.int .i64 0, .int .i64 0, .int .i64 0, .int .i64 0] 46)
 have b2 := Blk.new ((w.alloc (.cells #[.slice A L.length c] 28)).alloc (.cells #[.string x.nm, .int .i64 x.st.at_, .string x.st.zn, .int .i64 x.st.gap, .int .i64 x.st.fold, .int .i64 x.ln] 40)) #[.int .i64 0, .int .i64 0, .int .i64 0, .int .i64 0] 46
 simp only [World.size_alloc] at b1 b2
 have hB3 : Below w.heap.size w (((w.alloc (.cells #[.slice A L.length c] 28)).alloc (.cells #[.string x.nm, .int .i64 x.st.at_, .string x.st.zn, .int .i64 x.st.gap, .int .i64 x.st.fold, .int .i64 x.ln] 40)).alloc (.cells #[.int .i64 0, .int .i64 0, .int .i64 0, .int .i64 0] 46)) := (((Below.refl _ _).alloc (Nat.le_refl _) _).alloc (by simp) _).alloc (by simp; omega) _
 show Calls Tryz.prog 34 #[.agg #[.slice A L.length c], .string a, .string b, .int .i64 i, .agg #[.string x.nm, .int .i64 x.st.at_, .string x.st.zn, .int .i64 x.st.gap, .int .i64 x.st.fold, .int .i64 x.ln]] w _
 go_enter Tryz.func34, Tryz.ntmps34
 go_upto_region 1 with fail
 generalize ((w.alloc (.cells #[.slice A L.length c] 28)).alloc (.cells #[.string x.nm, .int .i64 x.st.at_, .string x.st.zn, .int .i64 x.st.gap, .int .i64 x.st.fold, .int .i64 x.ln] 40)).alloc (.cells #[.int .i64 0, .int .i64 0, .int .i64 0, .int .i64 0] 46) = W at *
 have hWs : w.heap.size + 3 ≤ W.heap.size := by have := b2.lt; omega
 go_cut [11, 12] (fun v11 v12 wx => ∃ B1 B2, v11 = .pointer (some ⟨B1, 0, none⟩) ∧ v12 = .pointer (some ⟨B2, 0, none⟩) ∧ B1 ≠ B2 ∧ W.heap.size ≤ B1 ∧ W.heap.size ≤ B2 ∧ Blk wx B1 #[.int .i64 r1, .bool pr] 129 ∧ Blk wx B2 #[.int .i64 s1, .bool ps] 129 ∧ Below W.heap.size W wx)
 case first =>
  have HS := Lib.hid (fun W' (hb : Below W.heap.size W W') => show Below W.heap.size W W' ∧ W'.cell? ⟨w.heap.size, 0, none⟩ = some (.slice A L.length c) ∧ W'.cell? ⟨w.heap.size + 1, 0, none⟩ = some (.string x.nm) ∧ W'.cell? ⟨w.heap.size + 1, 1, none⟩ = some (.int .i64 x.st.at_) ∧ W'.cell? ⟨w.heap.size + 1, 2, none⟩ = some (.string x.st.zn) ∧ W'.cell? ⟨w.heap.size + 1, 3, none⟩ = some (.int .i64 x.st.gap) ∧ W'.cell? ⟨w.heap.size + 1, 4, none⟩ = some (.int .i64 x.st.fold) ∧ W'.cell? ⟨w.heap.size + 1, 5, none⟩ = some (.int .i64 x.ln) from ⟨hb, (b0.below hb b0.lt).cell 0 rfl, (b1.below hb b1.lt).cell 0 rfl, (b1.below hb b1.lt).cell 1 rfl, (b1.below hb b1.lt).cell 2 rfl, (b1.below hb b1.lt).cell 3 rfl, (b1.below hb b1.lt).cell 4 rfl, (b1.below hb b1.lt).cell 5 rfl⟩)
  have hdr : Below W.heap.size W W.drew := (Below.refl _ _).drew
  have hdrs := hdr.size
  have h0 := (HS.out _ hdr).2.1
  have m0 := (HS.out _ hdr).2.2.1
  have m1 := (HS.out _ hdr).2.2.2.1
  have m2 := (HS.out _ hdr).2.2.2.2.1
  have m3 := (HS.out _ hdr).2.2.2.2.2.1
  have m4 := (HS.out _ hdr).2.2.2.2.2.2.1
  have m5 := (HS.out _ hdr).2.2.2.2.2.2.2
  go_region_held3 (fun W' => Below W.heap.size W W' ∧ W'.cell? ⟨w.heap.size, 0, none⟩ = some (.slice A L.length c) ∧ W'.cell? ⟨w.heap.size + 1, 0, none⟩ = some (.string x.nm) ∧ W'.cell? ⟨w.heap.size + 1, 1, none⟩ = some (.int .i64 x.st.at_) ∧ W'.cell? ⟨w.heap.size + 1, 2, none⟩ = some (.string x.st.zn) ∧ W'.cell? ⟨w.heap.size + 1, 3, none⟩ = some (.int .i64 x.st.gap) ∧ W'.cell? ⟨w.heap.size + 1, 4, none⟩ = some (.int .i64 x.st.fold) ∧ W'.cell? ⟨w.heap.size + 1, 5, none⟩ = some (.int .i64 x.ln))
   (first | (refine HS.out _ ?_; (repeat' (first | exact hdr | exact K2 | exact K1 | exact Below.refl _ _ | apply bel_al | apply bel_dr | apply bel_st | omega | (simp; omega))); done))
   (first
    | (go_at_call 58; refine (HA.out _ (hB3.trans ((show Below W.heap.size W _ from by repeat' (first | exact hdr | exact K2 | exact K1 | exact Below.refl _ _ | apply bel_al | apply bel_dr | apply bel_st | omega | (simp; omega))).mono (by omega)))).mono ?_; rintro e w1 ⟨rfl, hb1⟩; clear HA; have K1 : Below W.heap.size W w1 := bel_tr (by repeat' (first | exact hdr | exact K2 | exact K1 | exact Below.refl _ _ | apply bel_al | apply bel_dr | apply bel_st | omega | (simp; omega))) hb1; have S1 := K1.size; (first | (have hh : Below W.drew.heap.size W.drew w1 := hb1; clear hh) | (have P0 : Blk w1 (W.heap.size) #[.int .i64 0, .bool false] 129 := Blk.below (blk_n0 W #[.int .i64 0, .bool false] 129) hb1 (blk_n0 W #[.int .i64 0, .bool false] 129).lt; have P0a := blk_cl P0 0 _ rfl; have P0b := blk_cl P0 1 _ rfl; have P0f := fun i => P0.frozen i; have P0l := P0.lt) | (have P0 : Blk w1 (W.heap.size) #[.int .i64 0, .bool false] 129 := Blk.below (blk_n2 W (.cells #[.int .i64 0, .bool false] 129) #[.int .i64 0, .bool false] 129) hb1 (blk_n2 W (.cells #[.int .i64 0, .bool false] 129) #[.int .i64 0, .bool false] 129).lt; have P0a := blk_cl P0 0 _ rfl; have P0b := blk_cl P0 1 _ rfl; have P0f := fun i => P0.frozen i; have P0l := P0.lt; have P1 : Blk w1 (W.heap.size + 1) #[.int .i64 0, .bool false] 129 := Blk.below (blk_n1 W (.cells #[.int .i64 0, .bool false] 129) #[.int .i64 0, .bool false] 129) hb1 (blk_n1 W (.cells #[.int .i64 0, .bool false] 129) #[.int .i64 0, .bool false] 129).lt; have P1a := blk_cl P1 0 _ rfl; have P1b := blk_cl P1 1 _ rfl; have P1f := fun i => P1.frozen i; have P1l := P1.lt)))
    | (go_at_call 58; refine (HB.out _ (hB3.trans ((show Below W.heap.size W _ from by repeat' (first | exact hdr | exact K2 | exact K1 | exact Below.refl _ _ | apply bel_al | apply bel_dr | apply bel_st | omega | (simp; omega))).mono (by omega)))).mono ?_; rintro e w2 ⟨rfl, hb2⟩; have K2 : Below W.heap.size W w2 := bel_tr (by repeat' (first | exact hdr | exact K2 | exact K1 | exact Below.refl _ _ | apply bel_al | apply bel_dr | apply bel_st | omega | (simp; omega))) hb2; have S2 := K2.size; (first | (have hh : Below w1.heap.size w1 w2 := hb2; clear hh; (first | (have Q0 : Blk w2 (W.heap.size) #[.int .i64 0, .bool false] 129 := Blk.below P0 hb2 P0.lt; have Q0a := blk_cl Q0 0 _ rfl; have Q0b := blk_cl Q0 1 _ rfl; have Q0f := fun i => Q0.frozen i; have Q0l := Q0.lt) | skip); (first | (have Q1 : Blk w2 (W.heap.size + 1) #[.int .i64 0, .bool false] 129 := Blk.below P1 hb2 P1.lt; have Q1a := blk_cl Q1 0 _ rfl; have Q1b := blk_cl Q1 1 _ rfl; have Q1f := fun i => Q1.frozen i; have Q1l := Q1.lt) | skip)) | (have Q2 : Blk w2 (w1.heap.size) #[.int .i64 0, .bool false] 129 := Blk.below (Blk.new w1 #[.int .i64 0, .bool false] 129) hb2 (Blk.new w1 #[.int .i64 0, .bool false] 129).lt; have Q2a := blk_cl Q2 0 _ rfl; have Q2b := blk_cl Q2 1 _ rfl; have Q2f := fun i => Q2.frozen i; have Q2l := Q2.lt; (first | (have Q0 : Blk w2 (W.heap.size) #[.int .i64 0, .bool false] 129 := Blk.below (P0.alloc (.cells #[.int .i64 0, .bool false] 129)) hb2 (P0.alloc (.cells #[.int .i64 0, .bool false] 129)).lt; have Q0a := blk_cl Q0 0 _ rfl; have Q0b := blk_cl Q0 1 _ rfl; have Q0f := fun i => Q0.frozen i; have Q0l := Q0.lt) | skip); (first | (have Q1 : Blk w2 (W.heap.size + 1) #[.int .i64 0, .bool false] 129 := Blk.below (P1.alloc (.cells #[.int .i64 0, .bool false] 129)) hb2 (P1.alloc (.cells #[.int .i64 0, .bool false] 129)).lt; have Q1a := blk_cl Q1 0 _ rfl; have Q1b := blk_cl Q1 1 _ rfl; have Q1f := fun i => Q1.frozen i; have Q1l := Q1.lt) | skip)) | (have Q2 : Blk w2 (w1.heap.size) #[.int .i64 0, .bool false] 129 := Blk.below ((Blk.new w1 #[.int .i64 0, .bool false] 129).alloc (.cells #[.int .i64 0, .bool false] 129)) hb2 ((Blk.new w1 #[.int .i64 0, .bool false] 129).alloc (.cells #[.int .i64 0, .bool false] 129)).lt; have Q2a := blk_cl Q2 0 _ rfl; have Q2b := blk_cl Q2 1 _ rfl; have Q2f := fun i => Q2.frozen i; have Q2l := Q2.lt; have Q3 : Blk w2 (w1.heap.size + 1) #[.int .i64 0, .bool false] 129 := Blk.below (blk_m1 w1 (.cells #[.int .i64 0, .bool false] 129) #[.int .i64 0, .bool false] 129) hb2 (blk_m1 w1 (.cells #[.int .i64 0, .bool false] 129) #[.int .i64 0, .bool false] 129).lt; have Q3a := blk_cl Q3 0 _ rfl; have Q3b := blk_cl Q3 1 _ rfl; have Q3f := fun i => Q3.frozen i; have Q3l := Q3.lt; (first | (have Q0 : Blk w2 (W.heap.size) #[.int .i64 0, .bool false] 129 := Blk.below ((P0.alloc (.cells #[.int .i64 0, .bool false] 129)).alloc (.cells #[.int .i64 0, .bool false] 129)) hb2 ((P0.alloc (.cells #[.int .i64 0, .bool false] 129)).alloc (.cells #[.int .i64 0, .bool false] 129)).lt; have Q0a := blk_cl Q0 0 _ rfl; have Q0b := blk_cl Q0 1 _ rfl; have Q0f := fun i => Q0.frozen i; have Q0l := Q0.lt) | skip); (first | (have Q1 : Blk w2 (W.heap.size + 1) #[.int .i64 0, .bool false] 129 := Blk.below ((P1.alloc (.cells #[.int .i64 0, .bool false] 129)).alloc (.cells #[.int .i64 0, .bool false] 129)) hb2 ((P1.alloc (.cells #[.int .i64 0, .bool false] 129)).alloc (.cells #[.int .i64 0, .bool false] 129)).lt; have Q1a := blk_cl Q1 0 _ rfl; have Q1b := blk_cl Q1 1 _ rfl; have Q1f := fun i => Q1.frozen i; have Q1l := Q1.lt) | skip)))))
  all_goals
   go_wp2_with fail
   go_meet
   case rel =>
    refine ⟨_, _, rfl, rfl, ?_, ?_, ?_, ?_, ?_, ?_⟩
    ·omega
    ·omega
    ·omega
    ·with_reducible (repeat' (first | exact Q0 | exact Q1 | exact Q2 | exact Q3 | (refine blk_newE ?_; first | rfl | (simp; done)) | exact blk_m1 _ _ _ _ | apply Blk.alloc | apply blk_set2 | apply blk_oth2 | omega | (simp; omega)))
    ·with_reducible (repeat' (first | exact Q0 | exact Q1 | exact Q2 | exact Q3 | (refine blk_newE ?_; first | rfl | (simp; done)) | exact blk_m1 _ _ _ _ | apply Blk.alloc | apply blk_set2 | apply blk_oth2 | omega | (simp; omega)))
    ·with_reducible (repeat' (first | exact hdr | exact K2 | exact K1 | exact Below.refl _ _ | apply bel_al | apply bel_dr | apply bel_st | omega | (simp; omega)))
 case rest =>
  obtain ⟨B1, B2, rfl, rfl, hne, hl1, hl2, k1, k2, hbc⟩ := hcut
  have x0 := blk_cl k1 0 _ rfl
  have x1 := blk_cl k1 1 _ rfl
  have xl := k1.lt
  have y0 := blk_cl k2 0 _ rfl
  have y1 := blk_cl k2 1 _ rfl
  have yl := k2.lt
  have kr := b2.below hbc b2.lt
  have zl := kr.lt
  have z0 := blk_cl kr 0 _ rfl
  have z1 := blk_cl kr 1 _ rfl
  have z2 := blk_cl kr 2 _ rfl
  have z3 := blk_cl kr 3 _ rfl
  have rf := fun i => kr.frozen i
  have WE := fun w => when_eq r1 s1 pr ps w
  have WG := fun op X Y xs ys w => when_guard op X Y xs ys w
  have hBc := hB3.trans (hbc.mono (by omega))
  clear k1 k2 HA HB
  by_cases hq : r1 = s1 ∧ pr = ps
  ·rw [decide_eq_true hq] at WE
   obtain rfl : kb = 0 := HKB.out.symm.trans (if_pos hq)
   clear HKB hq
   go_wp2
   have s4 := (set4c kr (.int .i64 i) (.int .i64 0) (.int .i64 r1) (.int .i64 s1)).alloc (.cells #[.int .i64 i, .int .i64 0, .int .i64 r1, .int .i64 s1] 46)
   have hB9 := bel_al2 (set4c_below (B := w.heap.size + 1 + 1) hBc (by omega) (.int .i64 i) (.int .i64 0) (.int .i64 r1) (.int .i64 s1)) (.cells #[.int .i64 i, .int .i64 0, .int .i64 r1, .int .i64 s1] 46)
   have s0' := s4.cell 0 rfl
   have s1' := s4.cell 1 rfl
   have s2' := s4.cell 2 rfl
   have s3' := s4.cell 3 rfl
   clear s4 z0 z1 z2 z3 rf kr zl x0 x1 xl y0 y1 yl
   generalize ((((wc.setCell ⟨w.heap.size + 1 + 1, 0, none⟩ _).setCell ⟨w.heap.size + 1 + 1, 1, none⟩ _).setCell ⟨w.heap.size + 1 + 1, 2, none⟩ _).setCell ⟨w.heap.size + 1 + 1, 3, none⟩ _).alloc _ = w9 at *
   exact bodyPost_ret (v := .agg #[.int .i64 i, .int .i64 0, .int .i64 r1, .int .i64 s1]) (by simp [results, Tryz.results34, go_sem, s0', s1', s2', s3']) rfl ⟨rfl, hB9⟩
  ·rw [decide_eq_false hq] at WE
   have hkb2 := HKB.out.symm.trans (if_neg hq)
   clear HKB
   cases pr
   ·obtain rfl : kb = 3 := hkb2
    clear hq
    go_wp2
    have s4 := (set4c kr (.int .i64 i) (.int .i64 3) (.int .i64 r1) (.int .i64 s1)).alloc (.cells #[.int .i64 i, .int .i64 3, .int .i64 r1, .int .i64 s1] 46)
    have hB9 := bel_al2 (set4c_below (B := w.heap.size + 1 + 1) hBc (by omega) (.int .i64 i) (.int .i64 3) (.int .i64 r1) (.int .i64 s1)) (.cells #[.int .i64 i, .int .i64 3, .int .i64 r1, .int .i64 s1] 46)
    have s0' := s4.cell 0 rfl
    have s1' := s4.cell 1 rfl
    have s2' := s4.cell 2 rfl
    have s3' := s4.cell 3 rfl
    clear s4 z0 z1 z2 z3 rf kr zl x0 x1 xl y0 y1 yl
    generalize ((((wc.setCell ⟨w.heap.size + 1 + 1, 0, none⟩ _).setCell ⟨w.heap.size + 1 + 1, 1, none⟩ _).setCell ⟨w.heap.size + 1 + 1, 2, none⟩ _).setCell ⟨w.heap.size + 1 + 1, 3, none⟩ _).alloc _ = w9 at *
    exact bodyPost_ret (v := .agg #[.int .i64 i, .int .i64 3, .int .i64 r1, .int .i64 s1]) (by simp [results, Tryz.results34, go_sem, s0', s1', s2', s3']) rfl ⟨rfl, hB9⟩
   ·cases ps
    ·obtain rfl : kb = 2 := hkb2
     clear hq
     go_wp2
     have s4 := (set4c kr (.int .i64 i) (.int .i64 2) (.int .i64 r1) (.int .i64 s1)).alloc (.cells #[.int .i64 i, .int .i64 2, .int .i64 r1, .int .i64 s1] 46)
     have hB9 := bel_al2 (set4c_below (B := w.heap.size + 1 + 1) hBc (by omega) (.int .i64 i) (.int .i64 2) (.int .i64 r1) (.int .i64 s1)) (.cells #[.int .i64 i, .int .i64 2, .int .i64 r1, .int .i64 s1] 46)
     have s0' := s4.cell 0 rfl
     have s1' := s4.cell 1 rfl
     have s2' := s4.cell 2 rfl
     have s3' := s4.cell 3 rfl
     clear s4 z0 z1 z2 z3 rf kr zl x0 x1 xl y0 y1 yl
     generalize ((((wc.setCell ⟨w.heap.size + 1 + 1, 0, none⟩ _).setCell ⟨w.heap.size + 1 + 1, 1, none⟩ _).setCell ⟨w.heap.size + 1 + 1, 2, none⟩ _).setCell ⟨w.heap.size + 1 + 1, 3, none⟩ _).alloc _ = w9 at *
     exact bodyPost_ret (v := .agg #[.int .i64 i, .int .i64 2, .int .i64 r1, .int .i64 s1]) (by simp [results, Tryz.results34, go_sem, s0', s1', s2', s3']) rfl ⟨rfl, hB9⟩
    ·obtain rfl : kb = 1 := hkb2
     clear hq
     go_wp2
     have s4 := (set4c kr (.int .i64 i) (.int .i64 1) (.int .i64 r1) (.int .i64 s1)).alloc (.cells #[.int .i64 i, .int .i64 1, .int .i64 r1, .int .i64 s1] 46)
     have hB9 := bel_al2 (set4c_below (B := w.heap.size + 1 + 1) hBc (by omega) (.int .i64 i) (.int .i64 1) (.int .i64 r1) (.int .i64 s1)) (.cells #[.int .i64 i, .int .i64 1, .int .i64 r1, .int .i64 s1] 46)
     have s0' := s4.cell 0 rfl
     have s1' := s4.cell 1 rfl
     have s2' := s4.cell 2 rfl
     have s3' := s4.cell 3 rfl
     clear s4 z0 z1 z2 z3 rf kr zl x0 x1 xl y0 y1 yl
     generalize ((((wc.setCell ⟨w.heap.size + 1 + 1, 0, none⟩ _).setCell ⟨w.heap.size + 1 + 1, 1, none⟩ _).setCell ⟨w.heap.size + 1 + 1, 2, none⟩ _).setCell ⟨w.heap.size + 1 + 1, 3, none⟩ _).alloc _ = w9 at *
     exact bodyPost_ret (v := .agg #[.int .i64 i, .int .i64 1, .int .i64 r1, .int .i64 s1]) (by simp [results, Tryz.results34, go_sem, s0', s1', s2', s3']) rfl ⟨rfl, hB9⟩
end Go.Proofs.YtdpbhjaicgkblaaGreatDoor
/- migrate.Report. -/
namespace Go.Proofs.YtdpbhjaicgkblaaGreatDoor
set_option linter.unusedSimpArgs false
set_option linter.unusedVariables false
open Go.ChangeShapes Go.WideShapes Go.ChangeAt Go.RowKit Go.Sort Go.Lib
theorem infoM : (Tryz.prog.info? 46).map (fun i => (i.zero, i.size, i.bytes)) = some (some (.agg #[.int .i64 0, .int .i64 0, .int .i64 0, .int .i64 0]), 4, 32) := by kernel_rfl
def mgs (L : List VV) (a b : ByteArray) (E : List Ent) (k : Nat) : Mig := migF L a b k E[k]!
def RepEnd (L : List VV) (a b : ByteArray) (E : List Ent) (w : World) (e : Ending) (w' : World) : Prop := Below w.heap.size w w' ∧
 ((givF L E [a, b] ≠ 0 ∧ e = .returned (.tuple #[.slice none 0 0, .int .i64 (givF L E [a, b])])) ∨
  (givF L E [a, b] = 0 ∧ ∃ u, e = .returned (.tuple #[u, .int .i64 0]) ∧ w'.ownsRow w.heap.size 46 4 u (repM (mgs L a b E) E.length).length ((repM (mgs L a b E) E.length).flatMap encM)))
set_option maxRecDepth 100000 in
set_option maxHeartbeats 3000000 in
theorem Report_any (L : List VV) (vH : Value) (a b : ByteArray) (E : List Ent) (vE : Value) (w : World) (hm : HasMax w) (hg : GoodH w vH L) (hk : OkH L) (hE : Rd encEn 6 w vE E) (hel : E.length ≤ 1000) :
  Calls Tryz.prog 8 #[.agg #[vH], .string a, .string b, vE] w (RepEnd L a b E w) := by
 have HG := Lib.hid (fun W vV (hb : Below w.heap.size w W) hV => given_any L vH E vE [a, b] vV W (by omega) (hm.on hb) (hg.on hb) hk (hE.on hb) hV (by simp))
 have HC := Lib.hid (fun (i : Int) (x : Ent) W (hb : Below w.heap.size w W) => change_any L vH a b i x W (hm.on hb) (hg.on hb) hk)
 have HR := Lib.hid hE
 obtain ⟨A, c, rfl⟩ := rd_vf hg.r
 obtain ⟨AE, cE, rfl⟩ := rd_vf hE
 clear hg hk hm hE
 unfold RepEnd
 generalize givF L E [a, b] = gv at *
 have b0 := (Blk.new w #[.slice A L.length c] 28).alloc (.cells #[.string a, .string b] 9)
 have hB2 : Below w.heap.size w ((w.alloc (.cells #[.slice A L.length c] 28)).alloc (.cells #[.string a, .string b] 9)) := ((Below.refl _ _).alloc (Nat.le_refl _) _).alloc (by simp) _
 have hRV : Rd encNm 1 ((w.alloc (.cells #[.slice A L.length c] 28)).alloc (.cells #[.string a, .string b] 9)) (.slice (some ⟨w.heap.size + 1, 0, none⟩) 2 2) [a, b] := .inr ⟨w.heap.size + 1, 0, 2, rfl, by simp, fun j hj i u hu => by
  have := alloc_cells (w.alloc (.cells #[.slice A L.length c] 28)) [.string a, .string b] 9
  rw [World.size_alloc] at this
  have hj2 : j = 0 ∨ j = 1 := by simp at hj; omega
  have hi : i = 0 := by have := (List.getElem?_eq_some_iff.1 hu).1; rw [encNm_len] at this; omega
  subst hi
  rcases hj2 with rfl | rfl
  ·exact this 0 u hu
  ·exact this 1 u hu⟩
 obtain ⟨i0, hi0, hz0, hz1, hz2⟩ := info_parts infoM
 go_enter Tryz.func8, Tryz.ntmps8
 go_wp2_with fail
 generalize (w.alloc (.cells #[.slice A L.length c] 28)).alloc (.cells #[.string a, .string b] 9) = W at *
 refine (HG.out W _ hB2 hRV).mono ?_
 rintro e W1 ⟨rfl, hb1⟩
 clear HG hRV
 have hB3 := hB2.trans (hb1.mono hB2.size)
 have b1 := b0.below hb1 b0.lt
 by_cases h0 : gv = 0
 case neg =>
  have d0 : (gv != 0) = true := bne_iff_ne.2 h0
  go_wp2
  go_ret2
  exact ⟨hB3, .inl ⟨h0, rfl⟩⟩
 subst h0
 clear hb1 hB2 b0
 have hws : w.heap.size < W1.heap.size := b1.lt
 go_wp2
 go_loopw [11, 26] (fun v11 v26 wr => ∃ k : Nat, k ≤ E.length ∧ v26 = .int .i64 k ∧ wr.ownsRow W1.heap.size 46 4 v11 (repM (mgs L a b E) k).length ((repM (mgs L a b E) k).flatMap encM) ∧ Below W1.heap.size W1 wr) (fun _ v26 _ => E.length - (intOf v26).toNat)
 case atStart => exact ⟨0, Nat.zero_le _, rfl, World.ownsRow_nil _ _ _ _, Below.refl _ _⟩
 case round =>
  obtain ⟨k, hkl, rfl, hown, hbr⟩ := hrel
  have hbw := hB3.trans (hbr.mono hB3.size)
  by_cases hlt : k < E.length
  ·obtain ⟨g, off, hA, hg, hcg⟩ : ∃ g off, AE = some ⟨g, off, none⟩ ∧ g < wr.heap.size ∧ ∀ i u, (encEn E[k]!)[i]? = some u → wr.cell? ⟨g, off + k * 6 + i, none⟩ = some u := by
    rcases HR.out.on hbw with ⟨e, _⟩ | ⟨g, off, c2, hv, hg, hc⟩
    ·rw [e] at hlt; simp at hlt
    ·injection hv with e1 _ _
     exact ⟨g, off, e1, hg, fun i u hu => hc k hlt i u hu⟩
   subst hA
   have hln : (repM (mgs L a b E) k).length ≤ 1000 := Nat.le_trans (repM_len _ k) (by omega)
   have HST := Lib.hid (show repM (mgs L a b E) (k + 1) = if (mgs L a b E k).kd = 0 then repM (mgs L a b E) k else repM (mgs L a b E) k ++ [mgs L a b E k] from rfl)
   have HCX := Lib.hid (fun W hb => HC.out k E[k]! W hb)
   rw [show migF L a b k E[k]! = mgs L a b E k from rfl] at HCX
   generalize mgs L a b E k = m at *
   generalize repM (mgs L a b E) k = R at *
   generalize E[k]! = x at *
   have e0 := hcg 0 _ rfl
   have e1 := hcg 1 _ rfl
   have e2 := hcg 2 _ rfl
   have e3 := hcg 3 _ rfl
   have e4 := hcg 4 _ rfl
   have e5 := hcg 5 _ rfl
   rw [Nat.add_zero] at e0
   have bh := (b1.below hbr b1.lt).alloc (.cells #[.string x.nm, .int .i64 x.st.at_, .string x.st.zn, .int .i64 x.st.gap, .int .i64 x.st.fold, .int .i64 x.ln] 40)
   have h0 := blk_cl bh 0 _ rfl
   have hl := bh.lt
   have HOW := Lib.hid (hown.alloc (.cells #[.string x.nm, .int .i64 x.st.at_, .string x.st.zn, .int .i64 x.st.gap, .int .i64 x.st.fold, .int .i64 x.ln] 40))
   have hbx : Below W1.heap.size W1 (wr.alloc (.cells #[.string x.nm, .int .i64 x.st.at_, .string x.st.zn, .int .i64 x.st.gap, .int .i64 x.st.fold, .int .i64 x.ln] 40)) := hbr.alloc hbr.size _
   unfold encEn encM at HCX
   clear hown hcg
   go_wp2_with fail
   generalize wr.alloc (.cells #[.string x.nm, .int .i64 x.st.at_, .string x.st.zn, .int .i64 x.st.gap, .int .i64 x.st.fold, .int .i64 x.ln] 40) = wx at *
   clear e0 e1 e2 e3 e4 e5 h0 hl
   refine (HCX.out wx (hB3.trans (hbx.mono hB3.size))).mono ?_
   rintro e w5 ⟨rfl, hb5⟩
   have hb15 := hbx.trans (hb5.mono hbx.size)
   have HO5 := Lib.hid (own_on HOW.out hb5)
   have hsz := hb15.size
   clear HOW HCX
   by_cases hkd : m.kd = 0
   ·have d0 : (m.kd != 0) = false := by rw [hkd]; rfl
    have HE := Lib.hid (HST.out.trans (if_pos hkd))
    clear hkd
    go_wp2
    go_roundw
    case rel =>
     refine ⟨k + 1, by omega, by go_num, ?_, hb15.alloc hb15.size _⟩
     rw [HE.out]
     exact HO5.out.alloc _
    case measure => simp [intOf]; omega
   ·have d0 : (m.kd != 0) = true := bne_iff_ne.2 hkd
    have HE := Lib.hid (HST.out.trans (if_neg hkd))
    clear hkd
    go_wp2_with (at_builtin; go_loud (refine wpList_append_own_at _ rfl _ _ 23 rfl W1.heap.size 46 i0 _ 4 32 Tryz.underlying23 hi0 hz0 hz1 hz2 rfl (by decide) u11 _ _ rfl ((HO5.out.alloc _).alloc _) ⟨_, 0, none⟩ 1 1 (encM m) rfl rfl (new_row_at (by simp) _) (encM_one m) (by simp only [maxLen]; omega) (by omega) (by simp; omega) ?_); intro v' w7 hown7 hg7 _ hat7)
    go_roundw
    case rel =>
     refine ⟨k + 1, by omega, by go_num, ?_, ?_⟩
     ·rw [HE.out]
      exact own_snoc hown7
     ·exact below_app HO5.out (Nat.le_refl _) ((hb15.alloc hb15.size _).alloc (by simp; omega) _) hg7
    case measure => simp [intOf]; omega
  ·have hk' : k = E.length := by omega
   subst hk'
   have HOW := Lib.hid hown
   clear hown
   go_wp2
   go_ret2
   refine ⟨hbw, ?_⟩
   first | exact .inr ⟨rfl, _, rfl, own_base HOW.out hB3.size⟩ | exact ⟨_, rfl, own_base HOW.out hB3.size⟩
end Go.Proofs.YtdpbhjaicgkblaaGreatDoor

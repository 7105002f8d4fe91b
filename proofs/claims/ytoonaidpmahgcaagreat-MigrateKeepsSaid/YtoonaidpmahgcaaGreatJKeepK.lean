/- migrate.Keep. -/
import Derived.Test.YtoonaidpmahgcaaGreatJKeepW
import Derived.Test.YtoonaidpmahgcaaGreatGMig
namespace Go.Proofs.YtoonaidpmahgcaaGreat
set_option linter.unusedSimpArgs false
set_option linter.unusedVariables false
open Go.ChangeShapes Go.WideShapes Go.ChangeAt Go.RowKit Go.Sort Go.Lib

theorem infoEn : (Tryz.prog.info? 67).map (fun i => (i.zero, i.size, i.bytes)) = some (some (.agg #[.string ⟨#[]⟩, .int .i64 0, .string ⟨#[]⟩, .int .i64 0, .int .i64 0, .int .i64 0]), 6, 64) := by kernel_rfl
theorem encEn_one (x : Ent) : ∀ u ∈ encEn x, u.oneCell' = true := by
  intro v hv
  simp [encEn] at hv
  rcases hv with rfl | rfl | rfl | rfl | rfl | rfl <;> rfl
/-- the kept forms of entries -/
def keepE (L : List VV) (a b : ByteArray) : List Ent → List Ent
  | [] => []
  | e :: r => keptF L a b e :: keepE L a b r
theorem keepE_len (L : List VV) (a b : ByteArray) : ∀ E, (keepE L a b E).length = E.length
  | [] => rfl
  | e :: r => by show (keepE L a b r).length + 1 = r.length + 1; rw [keepE_len L a b r]
theorem keepE_snoc (L : List VV) (a b : ByteArray) (x : Ent) : ∀ E, keepE L a b (E ++ [x]) = keepE L a b E ++ [keptF L a b x]
  | [] => rfl
  | e :: r => by show keptF L a b e :: keepE L a b (r ++ [x]) = keptF L a b e :: (keepE L a b r ++ [keptF L a b x]); rw [keepE_snoc L a b x r]
theorem keepE_get (L : List VV) (a b : ByteArray) : ∀ (E : List Ent) (k : Nat), k < E.length → (keepE L a b E)[k]! = keptF L a b E[k]!
  | [], k, h => absurd h (Nat.not_lt_zero _)
  | e :: r, 0, _ => rfl
  | e :: r, k + 1, h => by
    have := keepE_get L a b r k (by simpa using h)
    simpa [keepE] using this
/-- what migrate.Keep returns -/
def KeepEnd (L : List VV) (a b : ByteArray) (E : List Ent) (w : World) (e : Ending) (w' : World) : Prop := Below w.heap.size w w' ∧
  ((givF L E [a, b] ≠ 0 ∧ e = .returned (.tuple #[.slice none 0 0, .int .i64 (givF L E [a, b])])) ∨
   (givF L E [a, b] = 0 ∧ ∃ u, e = .returned (.tuple #[u, .int .i64 0]) ∧ w'.ownsRow w.heap.size 67 6 u (keepE L a b E).length ((keepE L a b E).flatMap encEn)))
set_option maxRecDepth 100000 in
set_option maxHeartbeats 3000000 in
theorem Keep_any (L : List VV) (vH : Value) (a b : ByteArray) (E : List Ent) (vE : Value) (w : World) (hm : HasMax w) (hg : GoodH w vH L) (hk : OkH L) (hE : Rd encEn 6 w vE E) (hel : E.length ≤ 1000) :
    Calls Tryz.prog 31 #[.agg #[vH], .string a, .string b, vE] w (KeepEnd L a b E w) := by
  have HG := Lib.hid (fun W vV (hb : Below w.heap.size w W) hV => given_any L vH E vE [a, b] vV W (by omega) (hm.on hb) (hg.on hb) hk (hE.on hb) hV (by simp))
  have HC := Lib.hid (fun (i : Int) (x : Ent) W (hb : Below w.heap.size w W) => kept_any L vH a b i x W (hm.on hb) (hg.on hb) hk)
  have HR := Lib.hid hE
  obtain ⟨A, c, rfl⟩ := rd_vf hg.r
  obtain ⟨AE, cE, rfl⟩ := rd_vf hE
  clear hg hk hm hE
  unfold KeepEnd
  generalize givF L E [a, b] = gv at *
  have b0 := (Blk.new w #[.slice A L.length c] 58).alloc (.cells #[.string a, .string b] 9)
  have hB2 : Below w.heap.size w ((w.alloc (.cells #[.slice A L.length c] 58)).alloc (.cells #[.string a, .string b] 9)) := ((Below.refl _ _).alloc (Nat.le_refl _) _).alloc (by simp) _
  have hRV : Rd encNm 1 ((w.alloc (.cells #[.slice A L.length c] 58)).alloc (.cells #[.string a, .string b] 9)) (.slice (some ⟨w.heap.size + 1, 0, none⟩) 2 2) [a, b] := .inr ⟨w.heap.size + 1, 0, 2, rfl, by simp, fun j hj i u hu => by
    have := alloc_cells (w.alloc (.cells #[.slice A L.length c] 58)) [.string a, .string b] 9
    rw [World.size_alloc] at this
    have hj2 : j = 0 ∨ j = 1 := by simp at hj; omega
    have hi : i = 0 := by have := (List.getElem?_eq_some_iff.1 hu).1; rw [encNm_len] at this; omega
    subst hi
    rcases hj2 with rfl | rfl
    · exact this 0 u hu
    · exact this 1 u hu⟩
  obtain ⟨i0, hi0, hz0, hz1, hz2⟩ := info_parts infoEn
  go_enter Tryz.func31, Tryz.ntmps31
  go_wp2_with fail
  generalize (w.alloc (.cells #[.slice A L.length c] 58)).alloc (.cells #[.string a, .string b] 9) = W at *
  refine (HG.out W _ hB2 hRV).mono ?_
  rintro e W1 ⟨rfl, hb1⟩
  clear HG hRV
  have hB3 := hB2.trans (hb1.mono hB2.size)
  have b1 := b0.below hb1 b0.lt
  by_cases h0 : gv = 0
  case neg =>
    have d0 : (gv != 0) = true := bne_iff_ne.2 h0
    go_wp2
    go_ret2
    exact ⟨hB3, .inl ⟨h0, rfl⟩⟩
  subst h0
  clear hb1 hB2 b0
  have hws : w.heap.size < W1.heap.size := b1.lt
  go_wp2
  go_loopw [11, 25] (fun v11 v25 wr => ∃ k : Nat, k ≤ E.length ∧ v25 = .int .i64 k ∧ wr.ownsRow W1.heap.size 67 6 v11 (keepE L a b (E.take k)).length ((keepE L a b (E.take k)).flatMap encEn) ∧ Below W1.heap.size W1 wr) (fun _ v25 _ => E.length - (intOf v25).toNat)
  case atStart => exact ⟨0, Nat.zero_le _, rfl, World.ownsRow_nil _ _ _ _, Below.refl _ _⟩
  case round =>
    obtain ⟨k, hkl, rfl, hown, hbr⟩ := hrel
    have hbw := hB3.trans (hbr.mono hB3.size)
    by_cases hlt : k < E.length
    · obtain ⟨g, off, hA, hg, hcg⟩ : ∃ g off, AE = some ⟨g, off, none⟩ ∧ g < wr.heap.size ∧ ∀ i u, (encEn E[k]!)[i]? = some u → wr.cell? ⟨g, off + k * 6 + i, none⟩ = some u := by
        rcases HR.out.on hbw with ⟨e, _⟩ | ⟨g, off, c2, hv, hg, hc⟩
        · rw [e] at hlt; simp at hlt
        · injection hv with e1 _ _
          exact ⟨g, off, e1, hg, fun i u hu => hc k hlt i u hu⟩
      subst hA
      have hln : (keepE L a b (E.take k)).length ≤ 1000 := by rw [keepE_len, List.length_take]; omega
      have HTK := Lib.hid (show keepE L a b (E.take (k + 1)) = keepE L a b (E.take k) ++ [keptF L a b E[k]!] by rw [take_at hlt, keepE_snoc])
      have HCX := Lib.hid (fun W hb => HC.out k E[k]! W hb)
      generalize keptF L a b E[k]! = m at *
      generalize keepE L a b (E.take k) = R at *
      generalize E[k]! = x at *
      have e0 := hcg 0 _ rfl
      have e1 := hcg 1 _ rfl
      have e2 := hcg 2 _ rfl
      have e3 := hcg 3 _ rfl
      have e4 := hcg 4 _ rfl
      have e5 := hcg 5 _ rfl
      rw [Nat.add_zero] at e0
      have bh := (b1.below hbr b1.lt).alloc (.cells #[.string x.nm, .int .i64 x.st.at_, .string x.st.zn, .int .i64 x.st.gap, .int .i64 x.st.fold, .int .i64 x.ln] 67)
      have h0 := blk_cl bh 0 _ rfl
      have hl := bh.lt
      have HOW := Lib.hid (hown.alloc (.cells #[.string x.nm, .int .i64 x.st.at_, .string x.st.zn, .int .i64 x.st.gap, .int .i64 x.st.fold, .int .i64 x.ln] 67))
      have hbx : Below W1.heap.size W1 (wr.alloc (.cells #[.string x.nm, .int .i64 x.st.at_, .string x.st.zn, .int .i64 x.st.gap, .int .i64 x.st.fold, .int .i64 x.ln] 67)) := hbr.alloc hbr.size _
      unfold encEn at HCX
      clear hown hcg
      go_wp2_with fail
      generalize wr.alloc (.cells #[.string x.nm, .int .i64 x.st.at_, .string x.st.zn, .int .i64 x.st.gap, .int .i64 x.st.fold, .int .i64 x.ln] 67) = wx at *
      clear e0 e1 e2 e3 e4 e5 h0 hl
      refine (HCX.out wx (hB3.trans (hbx.mono hB3.size))).mono ?_
      rintro e w5 ⟨rfl, hb5⟩
      have hb15 := hbx.trans (hb5.mono hbx.size)
      have HO5 := Lib.hid (own_on HOW.out hb5)
      have hsz := hb15.size
      clear HOW HCX
      go_wp2_with (at_builtin; go_loud (refine wpList_append_own_at _ rfl _ _ 59 rfl W1.heap.size 67 i0 _ 6 64 Tryz.underlying59 hi0 hz0 hz1 hz2 rfl (by decide) u11 _ _ rfl (HO5.out.alloc _) ⟨_, 0, none⟩ 1 1 (encEn m) rfl rfl (new_row_at (by simp) _) (encEn_one m) (by simp only [maxLen]; omega) (by omega) (by simp; omega) ?_); intro v' w7 hown7 hg7 _ hat7)
      go_roundw
      case rel =>
        refine ⟨k + 1, by omega, by go_num, ?_, ?_⟩
        · rw [HTK.out]
          exact own_snoc hown7
        · exact below_app HO5.out (Nat.le_refl _) (hb15.alloc hb15.size _) hg7
      case measure => simp [intOf]; omega
    · have hk' : k = E.length := by omega
      subst hk'
      rw [List.take_length] at hown
      have HOW := Lib.hid hown
      clear hown
      go_wp2
      go_ret2
      refine ⟨hbw, ?_⟩
      first | exact .inr ⟨rfl, _, rfl, own_base HOW.out hB3.size⟩ | exact ⟨_, rfl, own_base HOW.out hB3.size⟩

end Go.Proofs.YtoonaidpmahgcaaGreat

/- civiltimelaw24.many, great. -/
import Derived.Test.YtoonaidpmahgcaaGreatGHis
import Derived.Test.YtoonaidpmahgcaaGreatGFew
import Derived.Test.YtoonaidpmahgcaaGreatGVl
namespace Go.Proofs.YtoonaidpmahgcaaGreat
set_option linter.unusedSimpArgs false
set_option linter.unusedVariables false
open Go.ChangeShapes Go.WideShapes Go.ChangeAt Go.RowKit Go.Sort Go.Lib

theorem greats_any (l : List ZV) (v : Value) (w : World) (hl : l.length ≤ 1000000) (hR : Rd encZ 9 w v l) : Calls Tryz.prog 14 #[v] w fun e w' => e = .returned (.bool (l.any fun x => bigV x.z)) ∧ Below w.heap.size w w' := by
  have H := Lib.hid (cfZ_any (fun x => bigV x.z) 55 #[] (enters_of Tryz.func55 (by kernel_rfl) rfl) v l w (great1_any w) hl hR)
  obtain ⟨A, c, rfl⟩ := rd_vf hR
  clear hR
  go_enter Tryz.func14, Tryz.ntmps14
  go_wp2_with fail
  refine H.out.mono ?_
  rintro e w1 ⟨rfl, hb1⟩
  go_wp2
  go_ret
  exact ⟨rfl, hb1⟩
def mnyV (x : VV) : Bool := decide ((6 : Int) < (x.zs.length : Int)) || (decide ((6 : Int) < (x.ls.length : Int)) || x.zs.any fun y => bigV y.z)
def manyB (L : List VV) : Bool := decide ((6 : Int) < (L.length : Int)) || L.any mnyV
theorem many_parts {L : List VV} (h : manyB L = false) : L.length ≤ 6 ∧ ∀ x ∈ L, (x.zs.length ≤ 6 ∧ x.ls.length ≤ 6) ∧ ∀ y ∈ x.zs, y.z.table.length ≤ 60 ∧ y.z.tail.length ≤ 6 := by
  unfold manyB at h
  simp only [Bool.or_eq_false_iff, decide_eq_false_iff_not, List.any_eq_false] at h
  refine ⟨by omega, fun x hx => ?_⟩
  have h4 := h.2 x hx
  unfold mnyV at h4
  simp only [Bool.not_eq_true, Bool.or_eq_false_iff, decide_eq_false_iff_not, List.any_eq_false] at h4
  refine ⟨by omega, fun y hy => ?_⟩
  have h5 := h4.2.2 y hy
  unfold bigV at h5
  simp at h5
  omega
set_option maxRecDepth 100000 in
set_option maxHeartbeats 3000000 in
theorem mny1_any (w : World) : PredBelow Tryz.prog 104 #[] (fun x : {x : VV // GoodV w x} => .agg (encVV x.1).toArray) (fun x => mnyV x.1) w := by
  intro W x hb
  obtain ⟨⟨nm, zs, ls, vZ, vL, ⟨A, c, rfl⟩, ⟨A', c', rfl⟩⟩, hg⟩ := x
  have HZ := Lib.hid (fun (h : zs.length ≤ 1000000) W (hb : Below w.heap.size w W) => greats_any zs (.slice A zs.length c) W h (hg.z.on hb))
  show Calls Tryz.prog 104 #[.agg #[.string nm, .slice A zs.length c, .slice A' ls.length c']] W fun e w' => e = .returned (.bool (mnyV ⟨nm, zs, ls, .slice A zs.length c, .slice A' ls.length c', ⟨A, c, rfl⟩, ⟨A', c', rfl⟩⟩)) ∧ _
  clear hg
  have b0 := Blk.new W #[.string nm, .slice A zs.length c, .slice A' ls.length c'] 150
  have hB0 : Below w.heap.size w (W.alloc (.cells #[.string nm, .slice A zs.length c, .slice A' ls.length c'] 150)) := hb.alloc hb.size _
  unfold mnyV
  dsimp only
  have v1 := blk_cl b0 1 _ rfl
  have v2 := blk_cl b0 2 _ rfl
  have vl := b0.lt
  by_cases h1 : (6 : Int) < (zs.length : Int)
  · have d1 := decide_eq_true h1
    rw [d1]
    go_enter Tryz.func104, Tryz.ntmps104
    go_wp2
    go_ret
    exact ⟨rfl, hB0⟩
  have d1 := decide_eq_false h1
  rw [d1, Bool.false_or]
  by_cases h2 : (6 : Int) < (ls.length : Int)
  · have d2 := decide_eq_true h2
    rw [d2]
    go_enter Tryz.func104, Tryz.ntmps104
    go_wp2
    go_ret
    exact ⟨rfl, hB0⟩
  have d2 := decide_eq_false h2
  rw [d2, Bool.false_or]
  have HZ := Lib.hid (HZ.out (by omega))
  generalize (zs.any fun y => bigV y.z) = bZ at *
  go_enter Tryz.func104, Tryz.ntmps104
  go_wp2_with fail
  generalize W.alloc (.cells #[.string nm, .slice A zs.length c, .slice A' ls.length c'] 150) = W0 at *
  refine (HZ.out _ hB0).mono ?_
  rintro e w1 ⟨rfl, hb1⟩
  go_wp2
  go_ret
  exact ⟨rfl, hB0.trans (hb1.mono hB0.size)⟩
set_option maxRecDepth 100000 in
set_option maxHeartbeats 3000000 in
theorem many_any (L : List VV) (vH : Value) (w : World) (hg : GoodH w vH L) : Calls Tryz.prog 35 #[.agg #[vH]] w fun e w' => e = .returned (.bool (manyB L)) ∧ Below w.heap.size w w' := by
  have HV := Lib.hid (fun (h : L.length ≤ 1000000) W (hb : Below w.heap.size w W) => show Calls Tryz.prog 88 #[vH, .func (.func 104) #[] #[]] W fun e w' => e = .returned (.bool (L.any mnyV)) ∧ Below W.heap.size W w' from by
    have hgv : ∀ y ∈ L, GoodV W y := fun y hy => (hg.g y hy).on hb
    have := cfVg (fun x : {x : VV // GoodV W x} => encVV x.1) (fun x => encVV_len x.1) (fun x => mnyV x.1) 104 #[] (enters_of Tryz.func104 (by kernel_rfl) rfl) vH (lift L hgv) W (mny1_any W) (by rw [lift_len]; exact h) (lift_rd (hg.r.on hb) hgv)
    rwa [lift_any mnyV L hgv] at this)
  obtain ⟨A, c, rfl⟩ := rd_vf hg.r
  clear hg
  unfold manyB
  have b0 := Blk.new w #[.slice A L.length c] 58
  have hB0 : Below w.heap.size w (w.alloc (.cells #[.slice A L.length c] 58)) := (Below.refl _ _).alloc (Nat.le_refl _) _
  have v0 := blk_cl b0 0 _ rfl
  have vl := b0.lt
  by_cases h2 : (6 : Int) < (L.length : Int)
  · have d2 := decide_eq_true h2
    rw [d2]
    go_enter Tryz.func35, Tryz.ntmps35
    go_wp2
    go_ret
    exact ⟨rfl, hB0⟩
  have d2 := decide_eq_false h2
  rw [d2, Bool.false_or]
  have HV := Lib.hid (HV.out (by omega))
  generalize L.any mnyV = bV at *
  go_enter Tryz.func35, Tryz.ntmps35
  go_wp2_with fail
  refine (HV.out _ hB0).mono ?_
  rintro e w2 ⟨rfl, hb2⟩
  go_wp2
  go_ret
  exact ⟨rfl, hB0.trans (hb2.mono hB0.size)⟩

end Go.Proofs.YtoonaidpmahgcaaGreat

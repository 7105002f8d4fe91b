/- The law MigrateTexts. -/
import Derived.Test.YtdpbhjaicgkblaaGreatDoorGFew
import Derived.Test.YtdpbhjaicgkblaaGreatDoorGAm
import Derived.Test.YtdpbhjaicgkblaaGreatDoorJTxM
import Derived.Test.YtdpbhjaicgkblaaGreatDoorJRef53t
namespace Go.Proofs.YtdpbhjaicgkblaaGreatDoor
set_option linter.unusedSimpArgs false
set_option linter.unusedVariables false
open Go.ChangeShapes Go.WideShapes Go.ChangeAt Go.RowKit Go.Sort Go.Lib
theorem good_nil (w : World) : GoodH w (.slice none 0 0) [] := ⟨.inl ⟨rfl, none, 0, rfl⟩, fun y hy => by cases hy⟩
set_option maxRecDepth 100000 in
set_option maxHeartbeats 4000000 in
theorem law_MigrateTexts (E : List Ent) (vE : Value) (C : List Mig) (vC : Value) (w : World) (hE : Rd encEn 6 w vE E) (hC : Rd encM 4 w vC C) (hm : HasMax w) :
  Calls Tryz.prog 3 #[vE, vC] w fun e w' => e = .returned (.bool true) ∧ Below w.heap.size w w' := by
 have HA := Lib.hid (fun W (hb : Below w.heap.size w W) => awake53_any W (hm.on hb))
 have HF := Lib.hid (fun W (hb : Below w.heap.size w W) => few53_any [] E (.slice none 0 0) vE W (good_nil W) (hE.on hb))
 have HT := Lib.hid (fun (h1 : E.length ≤ 1000) (h2 : C.length ≤ 1000) W (hb : Below w.heap.size w W) => Text_any E vE C vC W (hE.on hb) (hC.on hb) h1 h2)
 have HR := Lib.hid (fun (h1 : E.length ≤ 1000) (h2 : C.length ≤ 1000) W (hb : Below w.heap.size w W) => r53_Text E vE C vC W (hE.on hb) (hC.on hb) h1 h2)
 obtain ⟨AE, cE, rfl⟩ := rd_vf hE
 obtain ⟨AC, cC, rfl⟩ := rd_vf hC
 clear hE hC hm
 go_enter Tryz.func3, Tryz.ntmps3
 go_wp2_with fail
 refine (HA.out w (Below.refl _ _)).mono ?_
 rintro e w1 ⟨rfl, hb1⟩
 go_wp2_with fail
 refine (HF.out w1 hb1).mono ?_
 rintro e w2 ⟨rfl, hb2⟩
 have hB2 := hb1.trans (hb2.mono hb1.size)
 clear hb1 hb2 HF
 cases hf : fewB [] E
 case false =>
  clear hf
  go_wp2_with (go_at_call 4; refine (HA.out w2 hB2).mono ?_; rintro e w3 ⟨rfl, hb3⟩)
  go_ret
  exact ⟨rfl, hB2.trans (hb3.mono hB2.size)⟩
 obtain ⟨_, _, hel, _⟩ := few_ok hf
 clear hf
 by_cases hc : (40 : Int) < (C.length : Int)
 ·have dc := decide_eq_true hc
  go_wp2_with (go_at_call 4; refine (HA.out w2 hB2).mono ?_; rintro e w3 ⟨rfl, hb3⟩)
  go_ret
  exact ⟨rfl, hB2.trans (hb3.mono hB2.size)⟩
 have dc := decide_eq_false hc
 have HT := Lib.hid (HT.out (by omega) (by omega) w2 hB2)
 have HR := Lib.hid (HR.out (by omega) (by omega))
 clear HA hc
 generalize textV E C = T at *
 obtain ⟨T1, T2⟩ := T
 dsimp only at HT HR
 go_wp2_with fail
 refine HT.out.mono ?_
 rintro e w3 ⟨rfl, hb3⟩
 have hB3 := hB2.trans (hb3.mono hB2.size)
 go_wp2_with fail
 refine (HR.out w3 hB3).mono ?_
 rintro e w4 ⟨rfl, hb4⟩
 have hB4 := hB3.trans (hb4.mono hB3.size)
 go_wp2
 go_ret
 exact ⟨ret1 (vbool (by simp)), hB4⟩
end Go.Proofs.YtdpbhjaicgkblaaGreatDoor

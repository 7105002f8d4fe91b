/- Plain: the text of changes. -/
import Derived.Test.YtdpbhjaicgkblaaGreatDoorGMig
import Derived.Test.YtdpbhjaicgkblaaGreatDoorGStm
import Derived.Test.YtdpbhjaicgkblaaGreatDoorJTxt2
import Derived.Test.YtdpbhjaicgkblaaGreatDoorJCntI
import Derived.Lib.AppendStr
namespace Go.Proofs.YtdpbhjaicgkblaaGreatDoor
set_option linter.unusedSimpArgs false
set_option linter.unusedVariables false
open Go.RowKit
theorem ins_ex (t : Int) : ∃ s, InsTxt t s := by
 by_cases h : insT t = true
 ·have ht : -62135596800 ≤ t ∧ t < 253402300800 := by
   unfold insT at h
   simpa using h
  obtain ⟨y, m, d, hv, hc, _, _⟩ := day_exists (D := t / 86400) (by omega) (by omega)
  exact ⟨momT y m d (t % 86400 / 3600) (t % 86400 / 60 % 60) (t % 86400 % 60) ++ ⟨#[90]⟩, by unfold InsTxt; rw [if_pos h]; exact ⟨y, m, d, hv, hc, rfl⟩⟩
 ·exact ⟨⟨#[]⟩, by unfold InsTxt; rw [if_neg h]⟩
noncomputable def insS (t : Int) : ByteArray := Classical.choose (ins_ex t)
theorem insS_is (t : Int) : InsTxt t (insS t) := Classical.choose_spec (ins_ex t)
theorem ins_eq {t : Int} {s : ByteArray} (h : InsTxt t s) : s = insS t := by
 have k := insS_is t
 unfold InsTxt at h k
 split at h
 ·rename_i hi
  rw [if_pos hi] at k
  obtain ⟨y, m, d, hv, hc, rfl⟩ := h
  obtain ⟨y', m', d', hv', hc', e⟩ := k
  obtain ⟨rfl, rfl, rfl⟩ := count_inj hv hv' (hc.trans hc'.symm)
  exact e.symm
 ·rename_i hi
  rw [if_neg hi] at k
  rw [h, k]
theorem momT_size (a b c d e f : Int) : (momT a b c d e f).size = 19 := by
 unfold momT
 simp [ByteArray.size_append, dateT_size, dig2_size]
 rfl
theorem insS_size (t : Int) : (insS t).size = if insT t = true then 20 else 0 := by
 have k := insS_is t
 unfold InsTxt at k
 split at k
 ·rename_i hi
  rw [if_pos hi]
  obtain ⟨y, m, d, _, _, e⟩ := k
  rw [e, ByteArray.size_append, momT_size]
  rfl
 ·rename_i hi
  rw [if_neg hi, k]
  rfl
theorem insS_no (t : Int) : emptyB (insS t) = !insT t := by
 have hs := insS_size t
 unfold emptyB
 cases hi : insT t
 ·rw [if_neg (by rw [hi]; decide)] at hs
  have : insS t = ⟨#[]⟩ := by
   have k := insS_is t
   unfold InsTxt at k
   rwa [if_neg (by rw [hi]; decide)] at k
  rw [this]
  have h0 : (⟨#[]⟩ : ByteArray).toList.isEmpty = true := by kernel_rfl
  exact h0
 ·rw [if_pos hi] at hs
  rw [Bool.not_true, ← Bool.not_eq_true, List.isEmpty_iff, ByteArray.toList_eq]
  intro h
  have h2 : (insS t).data.toList.length = 0 := by rw [h]; rfl
  rw [Array.length_toList] at h2
  have : (insS t).size = (insS t).data.size := rfl
  omega
def wordF (k : Int) : ByteArray := if k = 1 then ⟨#[109, 111, 118, 101, 100]⟩ else if k = 2 then ⟨#[103, 111, 110, 101]⟩ else ⟨#[97, 112, 112, 101, 97, 114, 101, 100]⟩
theorem wordF_size (k : Int) : (wordF k).size ≤ 8 := by
 unfold wordF
 split
 ·decide
 ·split <;> decide
noncomputable def spI (t : Int) : ByteArray := ⟨#[32]⟩ ++ insS t
theorem spI_size (t : Int) : (spI t).size ≤ 21 := by
 unfold spI
 rw [ByteArray.size_append, insS_size]
 have : (⟨#[32]⟩ : ByteArray).size = 1 := rfl
 split <;> omega
def headT (E : List Ent) (m : Mig) : ByteArray := (E[m.en.toNat]!).nm ++ ⟨#[32]⟩ ++ wordF m.kd
noncomputable def oldT (m : Mig) : ByteArray := if m.kd = 3 then ⟨#[]⟩ else spI m.od
noncomputable def newT (m : Mig) : ByteArray := if m.kd = 2 then ⟨#[]⟩ else spI m.nw
noncomputable def rowT (E : List Ent) (m : Mig) : ByteArray := headT E m ++ oldT m ++ newT m ++ ⟨#[10]⟩
noncomputable def txsF (E : List Ent) (C : List Mig) : Nat → ByteArray
 | 0 => ⟨#[]⟩
 | k + 1 => txsF E C k ++ rowT E C[k]!
def okM (E : List Ent) (m : Mig) : Bool := decide (0 ≤ m.en) && (decide (m.en < (E.length : Int)) && (decide (1 ≤ m.kd) && decide (m.kd ≤ 3)))
def oldW (m : Mig) : Bool := decide (m.kd ≠ 3) && !insT m.od
def newW (m : Mig) : Bool := decide (m.kd ≠ 2) && !insT m.nw
def okMs (E : List Ent) (C : List Mig) : Nat → Bool
 | 0 => true
 | k + 1 => okMs E C k && okM E C[k]!
def wrF (C : List Mig) : Nat → Bool
 | 0 => false
 | k + 1 => (wrF C k || oldW C[k]!) || newW C[k]!
theorem okMs_le (E : List Ent) (C : List Mig) : ∀ {k n : Nat}, k ≤ n → okMs E C k = false → okMs E C n = false
 | k, 0, h, h2 => by
           obtain rfl : k = 0 := by omega
           exact h2
 | k, n + 1, h, h2 => by
  rcases Nat.lt_or_ge n k with h3 | h3
  ·obtain rfl : k = n + 1 := by omega
   exact h2
  ·rw [okMs, okMs_le E C h3 h2]; rfl
theorem wrF_le (C : List Mig) : ∀ {k n : Nat}, k ≤ n → wrF C k = true → wrF C n = true
 | k, 0, h, h2 => by
           obtain rfl : k = 0 := by omega
           exact h2
 | k, n + 1, h, h2 => by
  rcases Nat.lt_or_ge n k with h3 | h3
  ·obtain rfl : k = n + 1 := by omega
   exact h2
  ·rw [wrF, wrF_le C h3 h2]; rfl
open Classical in
noncomputable def textV (E : List Ent) (C : List Mig) : ByteArray × Int := if okEs E = true ∧ C.length ≤ 1000 ∧ okMs E C C.length = true ∧ wrF C C.length = false then (txsF E C C.length, 0) else (⟨#[]⟩, 1)
theorem textV_ok {E : List Ent} {C : List Mig} (h : okEs E = true) (h1 : C.length ≤ 1000) (h2 : okMs E C C.length = true) (h3 : wrF C C.length = false) : textV E C = (txsF E C C.length, 0) := if_pos ⟨h, h1, h2, h3⟩
theorem textV_no {E : List Ent} {C : List Mig} (h : okEs E = false ∨ 1000 < C.length ∨ okMs E C C.length = false ∨ wrF C C.length = true) : textV E C = (⟨#[]⟩, 1) := by
 refine if_neg ?_
 rintro ⟨h1, h2, h3, h4⟩
 rcases h with h | h | h | h
 ·rw [h1] at h; cases h
 ·omega
 ·rw [h3] at h; cases h
 ·rw [h4] at h; cases h
theorem ok_name {E : List Ent} (h : okEs E = true) {i : Nat} (hi : i < E.length) : (E[i]!).nm.size ≤ 30 := by
 unfold okEs at h
 rw [Bool.and_eq_true, Bool.not_eq_true', List.any_eq_false] at h
 have hm : E[i]! ∈ E := by
  rw [getElem!_pos E i hi]
  exact List.getElem_mem hi
 have hb := h.2 _ hm
 unfold badE at hb
 cases ht : txtB (E[i]!).nm
 ·rw [ht] at hb
  simp at hb
 ·unfold txtB at ht
  rw [Bool.and_eq_true, decide_eq_true_iff] at ht
  omega
theorem headT_size {E : List Ent} {m : Mig} (h : okEs E = true) (hm : okM E m = true) : (headT E m).size ≤ 39 := by
 unfold okM at hm
 simp at hm
 have := ok_name h (i := m.en.toNat) (by omega)
 have := wordF_size m.kd
 unfold headT
 rw [ByteArray.size_append, ByteArray.size_append]
 have : (⟨#[32]⟩ : ByteArray).size = 1 := rfl
 omega
theorem oldT_size (m : Mig) : (oldT m).size ≤ 21 := by
 unfold oldT
 split
 ·exact Nat.zero_le _
 ·exact spI_size _
theorem newT_size (m : Mig) : (newT m).size ≤ 21 := by
 unfold newT
 split
 ·exact Nat.zero_le _
 ·exact spI_size _
theorem txsF_size {E : List Ent} {C : List Mig} (h : okEs E = true) : ∀ k, okMs E C k = true → (txsF E C k).size ≤ 82 * k
 | 0, _ => Nat.le_refl _
 | k + 1, hk => by
  rw [okMs, Bool.and_eq_true] at hk
  have h1 := txsF_size h k hk.1
  have h2 := headT_size h hk.2
  have h3 := oldT_size C[k]!
  have h4 := newT_size C[k]!
  rw [txsF, rowT, ByteArray.size_append, ByteArray.size_append, ByteArray.size_append, ByteArray.size_append]
  have : (⟨#[10]⟩ : ByteArray).size = 1 := rfl
  omega
theorem cells_app (a b : ByteArray) : Lib.strCells (a ++ b) = Lib.strCells a ++ Lib.strCells b := by
 unfold Lib.strCells
 simp [ByteArray.data_append]
end Go.Proofs.YtdpbhjaicgkblaaGreatDoor

/- Joined by merge.py: ChgP, SetR, ChgW, ChgE, EqTyB. -/
import Derived.Test.YtoonaidpmahgcaaGreatGHis
import Derived.Test.YtoonaidpmahgcaaGreatGMig
import Derived.Test.YtoonaidpmahgcaaGreatJVerW1
import Derived.Maps.RangeWalk
import Derived.Sort.KeysCollected
import Derived.Sort.OwnSorted
import Derived.Test.YtoonaidpmahgcaaGreatJVerW4
import Derived.BigQuiet
import Derived.Test.YtoonaidpmahgcaaGreatGZh
/- Which names have changed from a version to another, in plain words. -/
namespace Go.Proofs.YtoonaidpmahgcaaGreat
set_option linter.unusedSimpArgs false
set_option linter.unusedVariables false
open Go.ChangeShapes Go.WideShapes Go.ChangeAt Go.RowKit Go.Sort Go.Lib

def nmsZ : List ZV → List ByteArray
  | [] => []
  | y :: r => y.z.nm :: nmsZ r
def nmsK : List Lk → List ByteArray
  | [] => []
  | y :: r => y.nm :: nmsK r
theorem nmsZ_len : ∀ l : List ZV, (nmsZ l).length = l.length
  | [] => rfl
  | y :: r => by show (nmsZ r).length + 1 = r.length + 1; rw [nmsZ_len r]
theorem nmsK_len : ∀ l : List Lk, (nmsK l).length = l.length
  | [] => rfl
  | y :: r => by show (nmsK r).length + 1 = r.length + 1; rw [nmsK_len r]
theorem nmsZ_snoc (x : ZV) : ∀ l : List ZV, nmsZ (l ++ [x]) = nmsZ l ++ [x.z.nm]
  | [] => rfl
  | y :: r => by show y.z.nm :: nmsZ (r ++ [x]) = y.z.nm :: (nmsZ r ++ [x.z.nm]); rw [nmsZ_snoc x r]
theorem nmsK_snoc (x : Lk) : ∀ l : List Lk, nmsK (l ++ [x]) = nmsK l ++ [x.nm]
  | [] => rfl
  | y :: r => by show y.nm :: nmsK (r ++ [x]) = y.nm :: (nmsK r ++ [x.nm]); rw [nmsK_snoc x r]
theorem nmsZ_mem {y : ZV} : ∀ {l : List ZV}, y ∈ l → y.z.nm ∈ nmsZ l
  | [], h => by cases h
  | x :: r, h => by
    rcases List.mem_cons.1 h with rfl | h
    · exact List.mem_cons_self
    · exact List.mem_cons_of_mem _ (nmsZ_mem h)
theorem nmsK_mem {y : Lk} : ∀ {l : List Lk}, y ∈ l → y.nm ∈ nmsK l
  | [], h => by cases h
  | x :: r, h => by
    rcases List.mem_cons.1 h with rfl | h
    · exact List.mem_cons_self
    · exact List.mem_cons_of_mem _ (nmsK_mem h)
/-- the names of a version's zones and links -/
def namesV (x : VV) : List ByteArray := nmsZ x.zs ++ nmsK x.ls
theorem fnd_mem {zs : List ZV} {ls : List Lk} {nm : ByteArray} {y : ZV} (h : fndZ zs ls nm = some y) : y ∈ zs ∧ nm ∈ nmsZ zs ++ nmsK ls := by
  unfold fndZ at h
  by_cases h1 : 0 ≤ fndI zs ls nm
  · rw [if_pos h1] at h
    injection h with h
    obtain ⟨k, hk, hkl, hp⟩ := ixF_lt h1
    have hk : fndI zs ls nm = k := hk
    rw [hk, Int.toNat_natCast] at h
    have hy : y ∈ zs := by rw [← h, getElem!_pos zs k hkl]; exact List.getElem_mem hkl
    refine ⟨hy, ?_⟩
    rw [h] at hp
    have hp : y.z.nm = lnkF ls nm := of_decide_eq_true hp
    unfold lnkF at hp
    by_cases h2 : 0 ≤ ixF (fun k : Lk => decide (k.nm = nm)) ls
    · obtain ⟨j, hj, hjl, hq⟩ := ixF_lt h2
      have hq := of_decide_eq_true hq
      refine List.mem_append.2 (.inr ?_)
      rw [← hq]
      exact nmsK_mem (by rw [getElem!_pos ls j hjl]; exact List.getElem_mem hjl)
    · rw [if_neg h2] at hp
      refine List.mem_append.2 (.inl ?_)
      rw [← hp]
      exact nmsZ_mem hy
  · rw [if_neg h1] at h; cases h
theorem dupZ_valid : ∀ {S : List ByteArray} {zs : List ZV}, dupZ S zs = true → ∀ y ∈ zs, y.z.valid = true
  | _, [], _, y, hy => by cases hy
  | S, x :: r, h, y, hy => by
    rw [dupZ] at h
    simp only [Bool.and_eq_true] at h
    rcases List.mem_cons.1 hy with rfl | hy
    · exact h.1
    · exact dupZ_valid h.2.2 y hy
theorem right_valid {x : VV} (h : rightB x = true) : ∀ y ∈ x.zs, y.z.valid = true := by
  unfold rightB at h
  simp only [Bool.and_eq_true] at h
  exact dupZ_valid h.2.2.1
theorem hisB_right {L : List VV} : ∀ {i : Nat} {l : List VV}, hisB L i l = true → ∀ x ∈ l, rightB x = true
  | _, [], _, x, hx => by cases hx
  | i, y :: r, h, x, hx => by
    rw [hisB] at h
    simp only [Bool.and_eq_true] at h
    rcases List.mem_cons.1 hx with rfl | hx
    · exact h.1
    · exact hisB_right h.2.2 x hx
theorem his_valid {L : List VV} (h : validH L = true) {x : VV} (hx : x ∈ L) {y : ZV} (hy : y ∈ x.zs) : y.z.valid = true := by
  unfold validH at h
  rw [Bool.and_eq_true] at h
  exact right_valid (hisB_right h.2 x hx) y hy
/-- a name has changed -/
def chgQ (zs : List ZV) (ls : List Lk) (zs' : List ZV) (ls' : List Lk) (a b : Int) (nm : ByteArray) : Prop :=
  match fndZ zs ls nm, fndZ zs' ls' nm with
  | some x, some y => ∃ t, (a ≤ t ∧ t < b) ∧ x.z.typF t ≠ y.z.typF t
  | none, none => False
  | _, _ => True
def chgP (X Y : VV) (a b : Int) (nm : ByteArray) : Prop := chgQ X.zs X.ls Y.zs Y.ls a b nm
theorem chg_nn {zs zs' : List ZV} {ls ls' : List Lk} {a b : Int} {nm : ByteArray} (h1 : fndZ zs ls nm = none) (h2 : fndZ zs' ls' nm = none) : ¬ chgQ zs ls zs' ls' a b nm := by
  unfold chgQ
  rw [h1, h2]
  exact fun h => h
theorem chg_ns {zs zs' : List ZV} {ls ls' : List Lk} {a b : Int} {nm : ByteArray} {y : ZV} (h1 : fndZ zs ls nm = none) (h2 : fndZ zs' ls' nm = some y) : chgQ zs ls zs' ls' a b nm := by
  unfold chgQ
  rw [h1, h2]
  trivial
theorem chg_sn {zs zs' : List ZV} {ls ls' : List Lk} {a b : Int} {nm : ByteArray} {x : ZV} (h1 : fndZ zs ls nm = some x) (h2 : fndZ zs' ls' nm = none) : chgQ zs ls zs' ls' a b nm := by
  unfold chgQ
  rw [h1, h2]
  trivial
theorem chg_ss {zs zs' : List ZV} {ls ls' : List Lk} {a b : Int} {nm : ByteArray} {x y : ZV} (h1 : fndZ zs ls nm = some x) (h2 : fndZ zs' ls' nm = some y) : chgQ zs ls zs' ls' a b nm ↔ ∃ t, (a ≤ t ∧ t < b) ∧ x.z.typF t ≠ y.z.typF t := by
  unfold chgQ
  rw [h1, h2]
theorem chg_same {X : VV} {a b : Int} {nm : ByteArray} (h : chgP X X a b nm) : False := by
  unfold chgP at h
  cases hf : fndZ X.zs X.ls nm with
  | none => exact chg_nn hf hf h
  | some y => obtain ⟨t, _, h⟩ := (chg_ss hf hf).1 h; exact h rfl

end Go.Proofs.YtoonaidpmahgcaaGreat

/- A range over a set of names that the call has made; names that the call owns, sorted. -/
namespace Go.Proofs.YtoonaidpmahgcaaGreat
set_option linter.unusedSimpArgs false
set_option linter.unusedVariables false
open Go.ChangeShapes Go.WideShapes Go.ChangeAt Go.RowKit Go.Maps Go.Lib

/-- the loop over the set S: V: the names that have come -/
def RngM (w : World) (B r n : Nat) (S V : List ByteArray) (cnt : Nat) : Prop :=
  ∃ left, w.ranges Tryz.prog 9 (plainElem Tryz.prog 4) B r n (setB S) left cnt ∧ (∀ s ∈ S, s ∈ V ∨ left (keyB s) = true) ∧ (∀ s ∈ V, s ∈ S ∧ left (keyB s) = false) ∧ V.length + cnt ≤ S.length
theorem RngM.left {w : World} {B r n cnt : Nat} {S V : List ByteArray} (h : RngM w B r n S V cnt) : w.rangeLeft B r = cnt := by
  obtain ⟨left, h, _⟩ := h
  exact h.left_eq
theorem RngM.kept {w w' : World} {row : Option Nat} {B r n cnt : Nat} {S V : List ByteArray} (h : RngM w B r n S V cnt) (hg : w.grownBy w' row) (h1 : some B ≠ row) (h2 : some r ≠ row) : RngM w' B r n S V cnt := by
  obtain ⟨left, h, h3⟩ := h
  exact ⟨left, h.kept hg h1 h2, h3⟩
theorem RngM.below {w w' : World} {B r n cnt : Nat} {S V : List ByteArray} (h : RngM w B r n S V cnt) (hb : Below w.heap.size w w') : RngM w' B r n S V cnt := h.kept (row := none) (below_grown hb) (by simp) (by simp)
theorem RngM.alloc' {w : World} {B r n cnt : Nat} {S V : List ByteArray} (h : RngM w B r n S V cnt) (o : Obj) : RngM (w.alloc o) B r n S V cnt := h.kept (World.grownBy_alloc w o none) (by simp) (by simp)
theorem RngM.lt {w : World} {B r n cnt : Nat} {S V : List ByteArray} (h : RngM w B r n S V cnt) : B < w.heap.size ∧ r < w.heap.size := by
  obtain ⟨left, h, _⟩ := h
  exact ⟨h.owns.lt, h.lt⟩
theorem key_same (s t : ByteArray) : (keyB s).sameKey (keyB t) = decide (s = t) := by
  by_cases e : s = t
  · subst e
    rw [decide_eq_true rfl]
    unfold keyB Lit.sameKey; simp
  · rw [decide_eq_false e]
    exact sameKey_ne fun h => e (keyB_inj h)
theorem setB_has (S : List ByteArray) {s : ByteArray} (h : s ∈ S) : Maps.has (setB S) (keyB s) = true := by
  unfold setB
  rw [has_setOf _ _ _ (fun x hx => by obtain ⟨y, _, rfl⟩ := List.mem_map.1 hx; exact keyB_lit y), List.any_eq_true]
  exact ⟨_, List.mem_map_of_mem h, by rw [key_same]; simp⟩
theorem setB_size : ∀ n (S : List ByteArray), S.length = n → Maps.size (setB S) ≤ n
  | 0, S, h => by
    obtain rfl := List.length_eq_zero_iff.1 h
    exact Nat.le_refl _
  | n + 1, S, h => by
    have hne : S ≠ [] := by intro e; subst e; simp at h
    obtain ⟨T, t, rfl⟩ : ∃ T t, S = T ++ [t] := ⟨S.dropLast, S.getLast hne, (List.dropLast_concat_getLast hne).symm⟩
    have ih := setB_size n T (by simpa using h)
    unfold setB at *
    rw [List.map_append, List.map_cons, List.map_nil, setOf_snoc, size_put (tidy_setOf _ _ (fun x hx => by obtain ⟨y, _, rfl⟩ := List.mem_map.1 hx; exact keyB_lit y))]
    split <;> omega
theorem setB_hit {S : List ByteArray} {s : ByteArray} {y : DataW Unit} (h : ∀ z, (setB S).atKey (keyB s) z = y) : s ∈ S := by
  by_cases hm : memB s S = true
  · exact memB_iff.1 hm
  · exfalso
    have h1 := h (.lit (.bool true))
    have h2 := h (.lit (.bool false))
    rw [setB_at s _ _ S rfl, if_neg hm] at h1 h2
    rw [← h2] at h1
    cases h1
theorem wpList_range_set {ops : Array Oper} {rest : List Oper} {o : Oper} {a : Act} {Q : Exit → Act → World → Prop} (w : World) (hg : o.guard = none) (m : Operand) (hop : o.op = Op.range 169 m) (B n : Nat) (S : List ByteArray) (hm : a.eval m = .map (some B)) (h : SetM w B n S)
    (hK : ∀ w' cnt, RngM w' B w.heap.size n S [] cnt → w.grownBy w' none → w'.heap.size = w.heap.size + 1 → wpList Tryz.prog ops Q rest (a.put o.dst (.pointer (some ⟨w.heap.size, 0, none⟩))) w') : wpList Tryz.prog ops Q (o :: rest) a w :=
  wpList_range_own w hg m _ hop _ _ keyS Tryz.underlying169 (plainElem Tryz.prog 4) B n (setB S) hm h
    fun w' h1 h2 h3 => hK w' _ ⟨_, h1, fun s hs => .inr (setB_has S hs), (fun s hs => by cases hs), (by simpa using setB_size S.length S rfl)⟩ h2 h3
theorem wpList_next_set {ops : Array Oper} {rest : List Oper} {o : Oper} {a : Act} {Q : Exit → Act → World → Prop} (w : World) (hg : o.guard = none) (it : Operand) (hop : o.op = Op.next it false) (B r n cnt : Nat) (S V : List ByteArray)
    (hit : a.eval it = .pointer (some ⟨r, 0, none⟩)) (h : RngM w B r n S V cnt)
    (hDone : (∀ s ∈ S, s ∈ V) → wpList Tryz.prog ops Q rest (a.put o.dst (.tuple #[.bool false])) w)
    (hMore : ∀ (x : ByteArray) (c : Value) (w' : World) (cnt' : Nat), x ∈ S → x ∉ V → RngM w' B r n S (V ++ [x]) cnt' → cnt' < cnt → w.grownBy w' (some r) → w'.heap.size = w.heap.size →
      (Instr.entry (.pointer (some ⟨r, 0, none⟩))).run Tryz.prog w' = .ok (.tuple #[.string x, c]) w' → wpList Tryz.prog ops Q rest (a.put o.dst (.tuple #[.bool true, .string x, c])) w') :
    wpList Tryz.prog ops Q (o :: rest) a w := by
  obtain ⟨left, hr, h1, h2, hvl⟩ := h
  refine wpList_next_ranges (α := ByteArray) (β := Value) w hg it hop _ keyS (plainElem Tryz.prog 4) Value.string (fun v => v) (fun key kl hkey => ?_) (fun v y hv => ?_) B r n (setB S) left cnt hit hr ?_ ?_
  · obtain ⟨x, rfl, _⟩ := Maps.keyOf_str Tryz.underlying9 hkey
    exact ⟨_, rfl⟩
  · exact ⟨v, rfl⟩
  · intro _ hl
    refine hDone fun s hs => ?_
    rcases h1 s hs with h | h
    · exact h
    · rw [hl] at h; cases h
  · intro x c kl y w' cnt' hkey hlx _ hat hr' hlt hgr hsz hen
    obtain ⟨x', ex, rfl, _⟩ := Maps.keyOf_str Tryz.underlying9 hkey
    have ex : x = ⟨x'.toArray⟩ := by injection ex
    subst ex
    have ek : Lit.string x' = keyB ⟨x'.toArray⟩ := rfl
    generalize (⟨x'.toArray⟩ : ByteArray) = x at *
    rw [ek] at hlx hat hr'
    have hxS := setB_hit hat
    refine hMore x c w' cnt' hxS (fun hv => ?_) ⟨_, hr', fun s hs => ?_, fun s hs => ?_, by rw [List.length_append, List.length_singleton]; omega⟩ hlt hgr hsz hen
    · rw [(h2 x hv).2] at hlx; cases hlx
    · by_cases e : s = x
      · exact .inl (List.mem_append_right _ (by rw [e]; exact List.mem_singleton.2 rfl))
      · rcases h1 s hs with h | h
        · exact .inl (List.mem_append_left _ h)
        · refine .inr ?_
          show (left (keyB s) && !(keyB s).sameKey (keyB x)) = true
          rw [h, key_same, decide_eq_false e]
          rfl
    · show s ∈ S ∧ (left (keyB s) && !(keyB s).sameKey (keyB x)) = false
      rcases List.mem_append.1 hs with h | h
      · exact ⟨(h2 s h).1, by rw [(h2 s h).2]; rfl⟩
      · rw [List.mem_singleton.1 h, key_same]
        exact ⟨hxS, by simp⟩
theorem RngM.owns {w : World} {B r n cnt : Nat} {S V : List ByteArray} (h : RngM w B r n S V cnt) : SetM w B n S := by
  obtain ⟨left, h, _⟩ := h
  exact h.owns
theorem RngM.few {w : World} {B r n cnt : Nat} {S V : List ByteArray} (h : RngM w B r n S V cnt) : V.length ≤ S.length := by
  obtain ⟨left, _, _, _, h⟩ := h
  omega
theorem RngM.ne {w : World} {B r n cnt : Nat} {S V : List ByteArray} (h : RngM w B r n S V cnt) : r ≠ B := by
  obtain ⟨left, h, _⟩ := h
  exact h.ne
/-- names, sorted: some order of them -/
theorem nm_str (l : List ByteArray) : l.flatMap encNm = (l.map fun s => s.data.toList).map encStr := by
  induction l with
  | nil => rfl
  | cons x r ih =>
    rw [List.flatMap_cons, ih]
    rfl
theorem str_nm (l : List (List UInt8)) : (l.map fun s => (⟨s.toArray⟩ : ByteArray)).flatMap encNm = l.map encStr := by
  induction l with
  | nil => rfl
  | cons x r ih =>
    rw [List.map_cons, List.flatMap_cons, ih]
    rfl
theorem SortS_grown (base : Nat) (l : List ByteArray) (v : Value) (w : World) (h : w.ownsRow base 9 1 v l.length (l.flatMap encNm)) (hn2 : l.length ≤ 1000000) :
    Calls Tryz.prog 107 #[v] w fun e w' => e = .returned (.tuple #[]) ∧ (∃ out : List ByteArray, out.length = l.length ∧ (∀ s, s ∈ out ↔ s ∈ l) ∧ w'.ownsRow base 9 1 v out.length (out.flatMap encNm)) ∧ w.grownBy w' v.ownBlock := by
  by_cases hn : 0 < l.length
  · rw [nm_str] at h
    obtain ⟨g, cap, rfl, hg1, hg2, hg3, hg4, hg5, hH⟩ := Lib.holds_of_ownsRow h (not_nil h hn)
    have hlen : l.length = (l.map fun s => s.data.toList).length := by simp
    have hms : ((l.map fun s => s.data.toList).mergeSort fun x y => decide (x ≤ y)).length = l.length := by rw [List.length_mergeSort]; simp
    have hC := Tryz.slices_Sort_string g 0 cap (l.map fun s => s.data.toList) w hH hg2 (by rw [← hlen]; omega)
    rw [← hlen] at hC
    refine hC.mono ?_
    rintro e w' ⟨rfl, n, os, rfl⟩
    have h2 := Lib.ownsRow_putRow (q := n) h (ys := (l.map fun s => s.data.toList).mergeSort fun x y => decide (x ≤ y)) (hms) (Nat.le_refl _)
    rw [List.take_of_length_le (by rw [hms]; omega)] at h2
    refine ⟨rfl, ⟨((l.map fun s => s.data.toList).mergeSort fun x y => decide (x ≤ y)).map fun s => ⟨s.toArray⟩, by rw [List.length_map, hms], fun s => ?_, ?_⟩, grownBy_sorted _⟩
    · rw [List.mem_map]
      constructor
      · rintro ⟨x, hx, rfl⟩
        have hx := ((List.mergeSort_perm _ _).mem_iff).1 hx
        obtain ⟨y, hy, rfl⟩ := List.mem_map.1 hx
        exact hy
      · intro hs
        exact ⟨s.data.toList, ((List.mergeSort_perm _ _).mem_iff).2 (List.mem_map_of_mem hs), rfl⟩
    · rw [str_nm, List.length_map, hms]
      exact own_on h2 (grow_below _ _)
  · have hz : l.length = 0 := by omega
    have hl := List.length_eq_zero_iff.1 hz
    subst hl
    obtain ⟨A, c, rfl⟩ : ∃ A c, v = .slice A 0 c := by
      rcases h.2 with ⟨rfl, _⟩ | ⟨g, cap, cur, rfl, _⟩
      · exact ⟨_, _, rfl⟩
      · exact ⟨_, _, rfl⟩
    refine (Tryz.slices_Sort_string_none _ _ _).mono ?_
    rintro e w' ⟨rfl, rfl⟩
    exact ⟨rfl, ⟨[], rfl, fun s => Iff.rfl, h⟩, (below_grown (Below.refl _ _)).but _⟩

end Go.Proofs.YtoonaidpmahgcaaGreat

/- version.Changed. Printed by gen_chg.py. -/
namespace Go.Proofs.YtoonaidpmahgcaaGreat
set_option linter.unusedSimpArgs false
set_option linter.unusedVariables false
open Go.ChangeShapes Go.WideShapes Go.ChangeAt Go.RowKit Go.Maps Go.Lib

theorem optZ_cells : ∀ o : Option ZV, ∃ p0 p1 p2 p3 pA p4 pC pB p5 pD p6 p7 p8, optZ o = .agg #[.string p0, .int .i64 p1, .int .i64 p2, .string p3, .slice pA p4 pC, .slice pB p5 pD, .int .i64 p6, .string p7, .int .i64 p8]
  | none => ⟨_, _, _, _, _, _, _, _, _, _, _, _, _, rfl⟩
  | some ⟨z, vT, vR, ⟨A, c, hT⟩, ⟨A', c', hR⟩⟩ => by
    subst hT hR
    exact ⟨_, _, _, _, _, _, _, _, _, _, _, _, _, rfl⟩
theorem mem_yes {out V : List ByteArray} {x : ByteArray} {P : ByteArray → Prop} (h : ∀ nm, nm ∈ out ↔ nm ∈ V ∧ P nm) (hp : P x) : ∀ nm, nm ∈ out ++ [x] ↔ nm ∈ V ++ [x] ∧ P nm := fun nm => by
  rw [List.mem_append, List.mem_append, List.mem_singleton, h]
  constructor
  · rintro (⟨h1, h2⟩ | rfl)
    · exact ⟨.inl h1, h2⟩
    · exact ⟨.inr rfl, hp⟩
  · rintro ⟨h1 | h1, h2⟩
    · exact .inl ⟨h1, h2⟩
    · exact .inr h1
theorem mem_not {out V : List ByteArray} {x : ByteArray} {P : ByteArray → Prop} (h : ∀ nm, nm ∈ out ↔ nm ∈ V ∧ P nm) (hp : ¬ P x) : ∀ nm, nm ∈ out ↔ nm ∈ V ++ [x] ∧ P nm := fun nm => by
  rw [List.mem_append, List.mem_singleton, h]
  constructor
  · rintro ⟨h1, h2⟩
    exact ⟨.inl h1, h2⟩
  · rintro ⟨h1 | rfl, h2⟩
    · exact ⟨h1, h2⟩
    · exact absurd h2 hp
theorem mem_done {out V S : List ByteArray} {P : ByteArray → Prop} (h : ∀ nm, nm ∈ out ↔ nm ∈ V ∧ P nm) (h1 : ∀ s ∈ S, s ∈ V) (h2 : ∀ s ∈ V, s ∈ S) : ∀ nm, nm ∈ out ↔ nm ∈ S ∧ P nm := fun nm => by
  rw [h]
  exact ⟨fun ⟨a, b⟩ => ⟨h2 nm a, b⟩, fun ⟨a, b⟩ => ⟨h1 nm a, b⟩⟩
theorem own_not {w : World} {base k n : Nat} {T : TypeId} {v : Value} {xs : List Value} (h : w.ownsRow base T k v n xs) {b : Nat} (hb : b < base) : some b ≠ v.ownBlock := fun e => by
  have := (own_in h b e.symm).1
  omega
theorem own_shape {w : World} {base k n : Nat} {T : TypeId} {v : Value} {xs : List Value} (h : w.ownsRow base T k v n xs) : ∃ A c, v = .slice A n c := by
  rcases h.2 with ⟨rfl, h2⟩ | ⟨g, cap, cur, rfl, _⟩
  · subst h2; exact ⟨_, _, rfl⟩
  · exact ⟨_, _, rfl⟩
theorem RngM.sub {w : World} {B r n cnt : Nat} {S V : List ByteArray} (h : RngM w B r n S V cnt) : ∀ s ∈ V, s ∈ S := by
  obtain ⟨left, _, _, h, _⟩ := h
  exact fun s hs => (h s hs).1
theorem links_sz {x : VV} (h : rightB x = true) : ∀ k ∈ x.ls, k.nm.size ≤ 30 := by
  unfold rightB at h
  simp only [Bool.and_eq_true] at h
  have hg : ∀ (S : List ByteArray) (l : List Lk), dupL x.zs S l = true → ∀ k ∈ l, k.nm.size ≤ 30 := by
    intro S l
    induction l generalizing S with
    | nil => intro _ k hk; cases hk
    | cons y r ih =>
      intro h k hk
      rw [dupL] at h
      simp only [Bool.and_eq_true] at h
      rcases List.mem_cons.1 hk with rfl | hk
      · exact name_sz h.1
      · exact ih _ h.2.2.2 k hk
  exact hg _ _ h.2.2.2
theorem his_right {L : List VV} (h : validH L = true) {x : VV} (hx : x ∈ L) : rightB x = true := by
  unfold validH at h
  rw [Bool.and_eq_true] at h
  exact hisB_right h.2 x hx
set_option maxRecDepth 100000 in
set_option maxHeartbeats 8000000 in
theorem Changed_main (L : List VV) (vH : Value) (a b : ByteArray) (s t : Int) (w : World) (hm : HasMax w) (hg : GoodH w vH L) (hk : OkH L) (hval : validH L = true) (hsV : spanV s t = true) (hsp : t - s ≤ 1263000000) (hsm : ∀ x ∈ L, x.zs.length ≤ 6 ∧ x.ls.length ≤ 6) (i k : Nat) (hi : numF L a = i) (hk2 : numF L b = k) (hil : i < L.length) (hkl : k < L.length) :
    Calls Tryz.prog 36 #[.agg #[vH], .string a, .string b, .agg #[.int .i64 s, .int .i64 t]] w fun e w' => Below w.heap.size w w' ∧ ∃ out u, (∀ nm, nm ∈ out ↔ nm ∈ namesV L[i]! ++ namesV L[k]! ∧ chgP L[i]! L[k]! s t nm) ∧ out.length ≤ 100 ∧ e = .returned (.tuple #[u, .int .i64 0]) ∧ Rd encNm 1 w' u out := by
  suffices HPOST : ∀ Post : Ending → World → Prop, Hid (∀ out u w', Below w.heap.size w w' → (∀ nm, nm ∈ out ↔ nm ∈ namesV L[i]! ++ namesV L[k]! ∧ chgP L[i]! L[k]! s t nm) → out.length ≤ 100 → Rd encNm 1 w' u out → Post (.returned (.tuple #[u, .int .i64 0])) w') → Calls Tryz.prog 36 #[.agg #[vH], .string a, .string b, .agg #[.int .i64 s, .int .i64 t]] w Post from HPOST _ (Lib.hid fun out u w' h1 h2 h3 h4 => ⟨h1, out, u, h2, h3, rfl, h4⟩)
  intro Post HP
  have HV := Lib.hid (fun W (hb : Below w.heap.size w W) => Valid_his L vH W (hm.on hb) (hg.on hb) hk)
  rw [hval] at HV
  have HS := Lib.hid (fun W => vspan_any s t W)
  rw [hsV] at HS
  have HNA := Lib.hid (fun W (hb : Below w.heap.size w W) => number_any L vH a W (by have := hk.n; omega) (hg.r.on hb))
  have HNB := Lib.hid (fun W (hb : Below w.heap.size w W) => number_any L vH b W (by have := hk.n; omega) (hg.r.on hb))
  rw [hi] at HNA
  rw [hk2] at HNB
  have hX : L[i]! ∈ L := by rw [getElem!_pos L i hil]; exact List.getElem_mem hil
  have hY : L[k]! ∈ L := by rw [getElem!_pos L k hkl]; exact List.getElem_mem hkl
  have HRL := Lib.hid hg.r
  have HAT := Lib.hid (fun (j : Nat) (hj : j < L.length) W (hb : Below w.heap.size w W) (A : Option Addr) (c : Nat) (e : vH = .slice A L.length c) => show ∃ g off, A = some ⟨g, off, none⟩ ∧ g < W.heap.size ∧ ∀ i u, (encVV L[j]!)[i]? = some u → W.cell? ⟨g, off + j * 3 + i, none⟩ = some u from by
    rcases hg.r.on hb with ⟨e, _⟩ | ⟨g, off, c2, hv, hg, hc⟩
    · rw [e] at hj; simp at hj
    · rw [hv] at e
      injection e with e1 _ _
      exact ⟨g, off, e1.symm, hg, fun i u hu => hc j hj i u hu⟩)
  have HAX := Lib.hid (fun W hb A c e => HAT.out i hil W hb A c e)
  have HAY := Lib.hid (fun W hb A c e => HAT.out k hkl W hb A c e)
  have gX := hg.g _ hX
  have gY := hg.g _ hY
  have oX := hk.g _ hX
  have oY := hk.g _ hY
  have rX := his_right hval hX
  have rY := his_right hval hY
  have sX := hsm _ hX
  have sY := hsm _ hY
  have hn := hk.n
  obtain ⟨A, c, rfl⟩ := rd_vf hg.r
  have HM := Lib.hid hm
  clear hg hk hsm hX hY HAT HRL hval hi hk2 hm
  generalize L[i]! = X at *
  generalize L[k]! = Y at *
  have HFX := Lib.hid (fun nm W (hb : Below w.heap.size w W) => find_any X nm W (gX.z.on hb) (gX.l.on hb) oX.z oX.l)
  have HFY := Lib.hid (fun nm W (hb : Below w.heap.size w W) => find_any Y nm W (gY.z.on hb) (gY.l.on hb) oY.z oY.l)
  have HIN := Lib.hid (fun (x : ZV) (hx : x ∈ X.zs) (y : ZV) (hy : y ∈ Y.zs) W (hb : Below w.heap.size w W) => Instants_ver x.z y.z x.vT x.vR y.vT y.vR s t W (HM.out.on hb) ((gX.g x hx).1.on hb) ((gX.g x hx).2.on hb) ((gY.g y hy).1.on hb) ((gY.g y hy).2.on hb) (oX.g x hx).2.2 (oY.g y hy).2.2 (oX.g x hx).1 (oY.g y hy).1 (oX.g x hx).2.1 (oY.g y hy).2.1 (fun _ => hsp))
  have HVX := Lib.hid (right_valid rX)
  have HVY := Lib.hid (right_valid rY)
  have HSX := Lib.hid (fun y (hy : y ∈ X.zs) => show y.z.nm.size ≤ 1000 from by have := valid_nm (right_valid rX y hy); omega)
  have HSY := Lib.hid (fun y (hy : y ∈ Y.zs) => show y.z.nm.size ≤ 1000 from by have := valid_nm (right_valid rY y hy); omega)
  have HKX := Lib.hid (fun y (hy : y ∈ X.ls) => show y.nm.size ≤ 1000 from by have := links_sz rX y hy; omega)
  have HKY := Lib.hid (fun y (hy : y ∈ Y.ls) => show y.nm.size ≤ 1000 from by have := links_sz rY y hy; omega)
  have HZX := Lib.hid gX.z
  have HZY := Lib.hid gY.z
  have HLX := Lib.hid gX.l
  have HLY := Lib.hid gY.l
  obtain ⟨xn, zX, lX, vZX, vLX, ⟨AX, cX, rfl⟩, ⟨BX, dX, rfl⟩⟩ := X
  obtain ⟨yn, zY, lY, vZY, vLY, ⟨AY, cY, rfl⟩, ⟨BY, dY, rfl⟩⟩ := Y
  clear gX gY oX oY rX rY HM
  unfold encVV at HAX HAY HFX HFY
  unfold InstEnd at HIN
  unfold namesV chgP at HP
  dsimp only at HP HAX HAY HFX HFY HIN HVX HVY HSX HSY HKX HKY HZX HZY HLX HLY sX sY
  have b0 := (Blk.new w #[.slice A L.length c] 58).alloc (.cells #[.int .i64 s, .int .i64 t] 29)
  have b1 := Blk.new (w.alloc (.cells #[.slice A L.length c] 58)) #[.int .i64 s, .int .i64 t] 29
  rw [World.size_alloc] at b1
  have hB2 : Below w.heap.size w ((w.alloc (.cells #[.slice A L.length c] 58)).alloc (.cells #[.int .i64 s, .int .i64 t] 29)) := ((Below.refl _ _).alloc (Nat.le_refl _) _).alloc (by simp) _
  have h0 := blk_cl b0 0 _ rfl
  have hl := b0.lt
  go_enter Tryz.func36, Tryz.ntmps36
  go_wp2_with fail
  generalize (w.alloc (.cells #[.slice A L.length c] 58)).alloc (.cells #[.int .i64 s, .int .i64 t] 29) = W at *
  clear h0 hl
  refine (HV.out W hB2).mono ?_
  rintro e w1 ⟨rfl, hb1⟩
  have hB3 := hB2.trans (hb1.mono hB2.size)
  have b0 := b0.below hb1 b0.lt
  have b1 := b1.below hb1 b1.lt
  have i0 := blk_cl b1 0 _ rfl
  have i1 := blk_cl b1 1 _ rfl
  have il := b1.lt
  go_wp2_with fail
  clear i0 i1 il
  refine (HS.out w1).mono ?_
  rintro e w2 ⟨rfl, hb2⟩
  have hB4 := hB3.trans (hb2.mono hB3.size)
  have b0 := b0.below hb2 b0.lt
  have b1 := b1.below hb2 b1.lt
  clear hb1 hb2 hB2 hB3 HV HS
  go_wp2_with fail
  have h0 := blk_cl b0 0 _ rfl
  have hl := b0.lt
  have pz : ∀ q : Bel w2.heap.size w2, q.w1.cell? ⟨w.heap.size, 0, none⟩ = some (.slice A L.length c) := fun q => (bel_cell q _ _ hl).trans h0
  have HNAp := Lib.hid (fun q : Bel w2.heap.size w2 => HNA.out q.w1 (hB4.trans (q.h.mono hB4.size)))
  have HNBp := Lib.hid (fun q : Bel w2.heap.size w2 => HNB.out q.w1 (hB4.trans (q.h.mono hB4.size)))
  clear HNA HNB h0
  refine wp_region_bel (by kernel_rfl) (by kernel_rfl) ?_
  repeat (go_big_quiet_step ((first | (go_at_call 105; exact bel_of (Nat.le_refl _) (HNAp.out _)) | (go_at_call 105; exact bel_of (Nat.le_refl _) (HNBp.out _)))))
  refine wpQuiet_nil ?_
  intro w3 hw'
  obtain ⟨⟨w3', hb3⟩, e3⟩ := hw'
  subst e3
  have hB5 := hB4.trans (hb3.mono hB4.size)
  have b0 := b0.below hb3 b0.lt
  have b1 := b1.below hb3 b1.lt
  clear pz HNAp HNBp hl hb3 hB4
  have di : decide ((i : Int) < 0) = false := decide_eq_false (by omega)
  have dk : decide ((k : Int) < 0) = false := decide_eq_false (by omega)
  have hmm := @run_makeMap Tryz.prog
  go_upto_region 7 with fail
  have HS0 := Lib.hid (SetM.new w3)
  have hB6 : Below w.heap.size w (w3.alloc (.map #[] 0)) := hB5.alloc hB5.size _
  have b0 := b0.alloc (.map #[] 0)
  have b1l := b1
  have b1 := b1.alloc (.map #[] 0)
  obtain ⟨gL, oL, rfl, hgL, hcX⟩ := HAX.out _ hB6 A c rfl
  obtain ⟨gL2, oL2, hA2, _, hcY⟩ := HAY.out _ hB6 _ c rfl
  injection hA2 with hA2
  injection hA2 with e1 e2 _
  subst e1 e2
  have HEX := Lib.hid (fun W (hb : Below w.heap.size w W) => show gL < W.heap.size ∧ ∀ i' u, [Value.string xn, .slice AX zX.length cX, .slice BX lX.length dX][i']? = some u → W.cell? ⟨gL, oL + i * 3 + i', none⟩ = some u from by
    obtain ⟨g, o, e, hg, hc⟩ := HAX.out W hb _ c rfl
    injection e with e
    injection e with e1 e2 _
    subst e1 e2
    exact ⟨hg, hc⟩)
  have HEY := Lib.hid (fun W (hb : Below w.heap.size w W) => show ∀ i' u, [Value.string yn, .slice AY zY.length cY, .slice BY lY.length dY][i']? = some u → W.cell? ⟨gL, oL + k * 3 + i', none⟩ = some u from by
    obtain ⟨g, o, e, hg, hc⟩ := HAY.out W hb _ c rfl
    injection e with e
    injection e with e1 e2 _
    subst e1 e2
    exact hc)
  clear HAX HAY hmm
  have h0 := blk_cl b0 0 _ rfl
  have hl := b0.lt
  have e0 := hcX 0 _ rfl
  have e1 := hcX 1 _ rfl
  have e2 := hcX 2 _ rfl
  have f0 := hcY 0 _ rfl
  have f1 := hcY 1 _ rfl
  have f2 := hcY 2 _ rfl
  rw [Nat.add_zero] at e0 f0
  have i1 : (0 : Int) ≤ (i : Int) := by omega
  have i2 : (i : Int) < (L.length : Int) := by omega
  have k1 : (0 : Int) ≤ (k : Int) := by omega
  have k2 : (k : Int) < (L.length : Int) := by omega
  clear hcX hcY
  go_region
  have hb7 : Below (w3.alloc (.map #[] 0)).heap.size (w3.alloc (.map #[] 0)) ((w3.alloc (.map #[] 0)).alloc (.cells #[.string xn, .slice AX zX.length cX, .slice BX lX.length dX, .string yn, .slice AY zY.length cY, .slice BY lY.length dY] 150)).drew := ((Below.refl _ _).alloc (Nat.le_refl _) _).drew
  have HS7 := Lib.hid (HS0.out.below hb7)
  have b0 := b0.below hb7 b0.lt
  have b1 := b1.below hb7 b1.lt
  have bv := blk_n0 (w3.alloc (.map #[] 0)) #[.string xn, .slice AX zX.length cX, .slice BX lX.length dX, .string yn, .slice AY zY.length cY, .slice BY lY.length dY] 150
  have hB7 := hB6.trans (hb7.mono hB6.size)
  have hbl := b1l.lt
  have hW7s : ((w3.alloc (.map #[] 0)).alloc (.cells #[.string xn, .slice AX zX.length cX, .slice BX lX.length dX, .string yn, .slice AY zY.length cY, .slice BY lY.length dY] 150)).drew.heap.size = w3.heap.size + 2 := by show (((w3.alloc (.map #[] 0)).alloc (.cells #[.string xn, .slice AX zX.length cX, .slice BX lX.length dX, .string yn, .slice AY zY.length cY, .slice BY lY.length dY] 150))).heap.size = _; simp
  rw [World.size_alloc] at bv
  clear hb7 HS0 hB6 hB5 h0 hl e0 e1 e2 f0 f1 f2 hgL b1l
  generalize ((w3.alloc (.map #[] 0)).alloc (.cells #[.string xn, .slice AX zX.length cX, .slice BX lX.length dX, .string yn, .slice AY zY.length cY, .slice BY lY.length dY] 150)).drew = W7 at *
  generalize w3.heap.size = B at *
  go_wp2_with fail
  go_loopw [61] (fun v61 wr => ∃ (q : Nat) (S : List ByteArray), v61 = .int .i64 q ∧ ((q = 0 ∧ S = []) ∨ (q = 1 ∧ S = nmsZ zX ++ nmsK lX) ∨ (q = 2 ∧ S = (nmsZ zX ++ nmsK lX) ++ (nmsZ zY ++ nmsK lY))) ∧ SetM wr B S.length S ∧ W7.grownBy wr (some B)) (fun v61 _ => 2 - (intOf v61).toNat)
  case atStart => exact ⟨0, [], rfl, .inl ⟨rfl, rfl⟩, HS7.out, (below_grown (Below.refl _ _)).but _⟩
  case round =>
    obtain ⟨q, S, rfl, hqS, hset, hgr⟩ := hrel
    have hbw : Below w.heap.size w wr := hB7.grown hgr hB7.size fun r er => by injection er with er; omega
    have bv := bv.kept hgr (by intro e; injection e with e; omega)
    by_cases hlt : q < 2
    · obtain ⟨vn, zs, ls, A1, c1, A2, c2, g0, g1, g2, HZ, HL, hz6, hl6, HSZ, HSK, hSl, hnx⟩ : ∃ vn zs ls A1 c1 A2 c2, wr.cell? ⟨B + 1, q * 3, none⟩ = some (.string vn) ∧ wr.cell? ⟨B + 1, q * 3 + 1, none⟩ = some (.slice A1 zs.length c1) ∧ wr.cell? ⟨B + 1, q * 3 + 2, none⟩ = some (.slice A2 ls.length c2) ∧ Hid (Rd encZ 9 w (.slice A1 zs.length c1) zs) ∧ Hid (Rd encK 2 w (.slice A2 ls.length c2) ls) ∧ zs.length ≤ 6 ∧ ls.length ≤ 6 ∧ Hid (∀ y ∈ zs, y.z.nm.size ≤ 1000) ∧ Hid (∀ y ∈ ls, y.nm.size ≤ 1000) ∧ S.length ≤ 12 ∧
          ((q + 1 = 1 ∧ S ++ nmsZ zs ++ nmsK ls = nmsZ zX ++ nmsK lX) ∨ (q + 1 = 2 ∧ S ++ nmsZ zs ++ nmsK ls = (nmsZ zX ++ nmsK lX) ++ (nmsZ zY ++ nmsK lY))) := by
        rcases hqS with ⟨rfl, rfl⟩ | ⟨rfl, rfl⟩ | ⟨rfl, _⟩
        · exact ⟨_, zX, lX, _, _, _, _, blk_cl bv 0 _ rfl, blk_cl bv 1 _ rfl, blk_cl bv 2 _ rfl, HZX, HLX, sX.1, sX.2, HSX, HKX, Nat.zero_le _, .inl ⟨rfl, rfl⟩⟩
        · exact ⟨_, zY, lY, _, _, _, _, blk_cl bv 3 _ rfl, blk_cl bv 4 _ rfl, blk_cl bv 5 _ rfl, HZY, HLY, sY.1, sY.2, HSY, HKY, by rw [List.length_append, nmsZ_len, nmsK_len]; omega, .inr ⟨rfl, List.append_assoc _ _ _⟩⟩
        · omega
      have vl := bv.lt
      have hdq : decide ((q : Int) < 2) = true := decide_eq_true (by omega)
      have bx := Blk.new wr #[.string vn, .slice A1 zs.length c1, .slice A2 ls.length c2] 150
      have hgA : W7.grownBy (wr.alloc (.cells #[.string vn, .slice A1 zs.length c1, .slice A2 ls.length c2] 150)) (some B) := hgr.trans (World.grownBy_alloc wr _ _)
      have hSA := Lib.hid (hset.below (alloc_below' wr (.cells #[.string vn, .slice A1 zs.length c1, .slice A2 ls.length c2] 150)))
      have hBw : B < wr.heap.size := by have := hgr.size; omega
      go_wp2_with fail
      clear hset hgr g0 g1 g2 bv vl
      generalize wr.alloc (.cells #[.string vn, .slice A1 zs.length c1, .slice A2 ls.length c2] 150) = WA at *
      generalize hXq : wr.heap.size = X at *
      clear hXq
      have hBA : B < WA.heap.size := by have := bx.lt; omega
      generalize hq : wr = wq at *
      clear hq
      go_loopw [68] (fun v68 wv => ∃ j : Nat, j ≤ zs.length ∧ v68 = .int .i64 j ∧ SetM wv B (S.length + j) (S ++ nmsZ (zs.take j)) ∧ WA.grownBy wv (some B)) (fun v68 _ => zs.length - (intOf v68).toNat)
      case atStart => exact ⟨0, Nat.zero_le _, rfl, by simpa [nmsZ] using hSA.out, (below_grown (Below.refl _ _)).but _⟩
      case round =>
        obtain ⟨j, hjl, rfl, hset, hgv⟩ := hrel
        have hbv : Below w.heap.size w wr := hB7.grown (hgA.trans hgv) hB7.size fun r er => by injection er with er; omega
        by_cases hlt2 : j < zs.length
        · obtain ⟨g, off, hA, hg, hcg⟩ : ∃ g off, A1 = some ⟨g, off, none⟩ ∧ g < wr.heap.size ∧ ∀ i u, (encZ zs[j]!)[i]? = some u → wr.cell? ⟨g, off + j * 9 + i, none⟩ = some u := by
            rcases HZ.out.on hbv with ⟨e, _⟩ | ⟨g, off, c2, hv, hg, hc⟩
            · rw [e] at hlt2; simp at hlt2
            · injection hv with e1 _ _
              exact ⟨g, off, e1, hg, fun i u hu => hc j hlt2 i u hu⟩
          subst hA
          have HTK := Lib.hid (show nmsZ (zs.take (j + 1)) = nmsZ (zs.take j) ++ [(zs[j]!).z.nm] by rw [take_at hlt2, nmsZ_snoc])
          have hsz := HSZ.out zs[j]! (by rw [getElem!_pos zs j hlt2]; exact List.getElem_mem hlt2)
          generalize zs[j]! = y at *
          obtain ⟨z, vT, vR, ⟨AT, cT, rfl⟩, ⟨AR, cR, rfl⟩⟩ := y
          dsimp only at HTK hsz
          have e0 := hcg 0 _ rfl
          have e1 := hcg 1 _ rfl
          have e2 := hcg 2 _ rfl
          have e3 := hcg 3 _ rfl
          have e4 := hcg 4 _ rfl
          have e5 := hcg 5 _ rfl
          have e6 := hcg 6 _ rfl
          have e7 := hcg 7 _ rfl
          have e8 := hcg 8 _ rfl
          rw [Nat.add_zero] at e0
          clear hcg
          have bz := Blk.new wr #[.string z.nm, .int .i64 z.first.off, .int .i64 z.first.sv, .string z.first.nm, .slice AT z.table.length cT, .slice AR z.tail.length cR, .int .i64 z.off, .string z.form, .int .i64 z.year] 27
          have z0 := blk_cl bz 0 _ rfl
          have zl := bz.lt
          have hS2 := hset.below (alloc_below' wr (.cells #[.string z.nm, .int .i64 z.first.off, .int .i64 z.first.sv, .string z.first.nm, .slice AT z.table.length cT, .slice AR z.tail.length cR, .int .i64 z.off, .string z.form, .int .i64 z.year] 27))
          have hgz := hgv.trans (World.grownBy_alloc wr (.cells #[.string z.nm, .int .i64 z.first.off, .int .i64 z.first.sv, .string z.first.nm, .slice AT z.table.length cT, .slice AR z.tail.length cR, .int .i64 z.off, .string z.form, .int .i64 z.year] 27) (some B))
          go_wp2_with (at_mapUpdate; refine wpList_put_set _ rfl _ _ _ rfl B (S.length + j) _ rfl hS2 (by omega) z.nm rfl rfl (by omega) ?_; intro w4 hS4 hg4)
          go_roundw
          case rel =>
            refine ⟨j + 1, by omega, by go_num, ?_, hgz.trans hg4⟩
            rw [HTK.out, ← List.append_assoc]
            exact hS4
          case measure => simp [intOf]; omega
        · have hj' : j = zs.length := by omega
          subst hj'
          rw [List.take_length] at hset
          have bxv := bx.kept hgv (by intro e; injection e with e; omega)
          have x2 := blk_cl bxv 2 _ rfl
          have xl := bxv.lt
          have HSS := Lib.hid hset
          have HGV := Lib.hid hgv
          clear hset hgv hlt2 hjl hbv
          go_wp2_with fail
          clear x2 xl bxv
          generalize hq : wr = wq2 at *
          clear hq
          go_loopw [79] (fun v79 wv => ∃ j : Nat, j ≤ ls.length ∧ v79 = .int .i64 j ∧ SetM wv B (S.length + zs.length + j) (S ++ nmsZ zs ++ nmsK (ls.take j)) ∧ WA.grownBy wv (some B)) (fun v79 _ => ls.length - (intOf v79).toNat)
          case atStart => exact ⟨0, Nat.zero_le _, rfl, by simpa [nmsK] using HSS.out, HGV.out⟩
          case round =>
            obtain ⟨j, hjl, rfl, hset, hgv⟩ := hrel
            have hbv : Below w.heap.size w wr := hB7.grown (hgA.trans hgv) hB7.size fun r er => by injection er with er; omega
            by_cases hlt2 : j < ls.length
            · obtain ⟨g, off, hA, hg, hcg⟩ : ∃ g off, A2 = some ⟨g, off, none⟩ ∧ g < wr.heap.size ∧ ∀ i u, (encK ls[j]!)[i]? = some u → wr.cell? ⟨g, off + j * 2 + i, none⟩ = some u := by
                rcases HL.out.on hbv with ⟨e, _⟩ | ⟨g, off, c2, hv, hg, hc⟩
                · rw [e] at hlt2; simp at hlt2
                · injection hv with e1 _ _
                  exact ⟨g, off, e1, hg, fun i u hu => hc j hlt2 i u hu⟩
              subst hA
              have HTK := Lib.hid (show nmsK (ls.take (j + 1)) = nmsK (ls.take j) ++ [(ls[j]!).nm] by rw [take_at hlt2, nmsK_snoc])
              have hsz := HSK.out ls[j]! (by rw [getElem!_pos ls j hlt2]; exact List.getElem_mem hlt2)
              generalize ls[j]! = y at *
              have e0 := hcg 0 _ rfl
              have e1 := hcg 1 _ rfl
              rw [Nat.add_zero] at e0
              clear hcg
              have bz := Blk.new wr #[.string y.nm, .string y.zn] 153
              have z0 := blk_cl bz 0 _ rfl
              have zl := bz.lt
              have hS2 := hset.below (alloc_below' wr (.cells #[.string y.nm, .string y.zn] 153))
              have hgz := hgv.trans (World.grownBy_alloc wr (.cells #[.string y.nm, .string y.zn] 153) (some B))
              go_wp2_with (at_mapUpdate; refine wpList_put_set _ rfl _ _ _ rfl B (S.length + zs.length + j) _ rfl hS2 (by omega) y.nm rfl rfl (by omega) ?_; intro w4 hS4 hg4)
              go_roundw
              case rel =>
                refine ⟨j + 1, by omega, by go_num, ?_, hgz.trans hg4⟩
                rw [HTK.out, ← List.append_assoc]
                exact hS4
              case measure => simp [intOf]; omega
            · have hj' : j = ls.length := by omega
              subst hj'
              rw [List.take_length] at hset
              have HSS := Lib.hid hset
              have HGV := Lib.hid hgv
              clear hset hgv hlt2 hjl hbv
              go_wp2
              go_roundw
              case rel =>
                refine ⟨q + 1, _, by go_num, .inr hnx, ?_, hgA.trans HGV.out⟩
                rw [List.length_append, List.length_append, nmsZ_len, nmsK_len]
                exact HSS.out
              case measure => simp [intOf]; omega
    · have hq2 : q = 2 := by omega
      have hdq : decide ((q : Int) < 2) = false := decide_eq_false (by omega)
      have hS : S = (nmsZ zX ++ nmsK lX) ++ (nmsZ zY ++ nmsK lY) := by
        rcases hqS with ⟨h, _⟩ | ⟨h, _⟩ | ⟨_, h⟩
        · omega
        · omega
        · exact h
      have hSl : S.length ≤ 24 := by rw [hS]; simp only [List.length_append, nmsZ_len, nmsK_len]; omega
      rw [← hS] at HP
      clear hS hqS hlt hq2
      have hbw : Below w.heap.size w wr := hbw
      have b0 := b0.kept hgr (by intro e; injection e with e; omega)
      have b1 := b1.kept hgr (by intro e; injection e with e; omega)
      have hBR : B < wr.heap.size := by have := hgr.size; omega
      obtain ⟨i0, hi0, hz0, hz1, hz2⟩ := info_parts infoStr
      clear bv HS7 hgr
      generalize hq : wr = w4 at *
      clear hq
      go_wp2_with (at_range; refine wpList_range_set _ rfl _ rfl B S.length S rfl hset ?_; intro w8 cnt0 hrg0 hg8 hs8)
      go_frame
      obtain ⟨R, hR⟩ : ∃ R, R = w4.heap.size := ⟨_, rfl⟩
      rw [← hR] at hrg0 hs8 hBR ⊢
      have hwR : w.heap.size ≤ R := by rw [hR]; exact hbw.size
      have HR := Lib.hid hR
      clear hset hR
      go_loopw [19] (fun v19 wx => ∃ (V out : List ByteArray) (cnt : Nat), RngM wx B R S.length S V cnt ∧ wx.ownsRow (R + 1) 9 1 v19 out.length (out.flatMap encNm) ∧ Hid (∀ nm, nm ∈ out ↔ nm ∈ V ∧ chgQ zX lX zY lY s t nm) ∧ out.length ≤ V.length ∧ Below R w4 wx) (fun _ wx => wx.rangeLeft B R)
      case atStart => exact ⟨[], [], _, hrg0, World.ownsRow_nil _ _ _ _, Lib.hid (fun nm => by simp), Nat.le_refl _, (Below.refl R w4).grown hg8 (by have := HR.out; omega) (fun k hk => by cases hk)⟩
      case round =>
        obtain ⟨V, out, cnt, hrg, hown, hmem, hol, hbx⟩ := hrel
        have hVS := hrg.few
        have hrgL := hrg.left
        have HOW := Lib.hid hown
        have hszr := hrg.lt.2
        have hbwr : Below w.heap.size w wr := hbw.trans (hbx.mono hwR)
        clear hown
        go_wp2_with (at_next; refine wpList_next_set _ rfl _ rfl B R S.length cnt S V rfl hrg ?_ ?_)
        · intro hall
          go_wp2_with fail
          refine (SortS_grown (R + 1) out u19 wr HOW.out (by omega)).mono ?_
          rintro e w9 ⟨rfl, ⟨out2, hl2, hm2, hown2⟩, hg9⟩
          go_wp2
          change Post (.returned (.tuple #[u19, .int .i64 0])) w9
          refine HP.out out2 _ w9 ?_ ?_ (by omega) (rd_of_own encNm_len hown2 rfl)
          · exact hbwr.grown hg9 hbwr.size fun j hj => by have := (own_in HOW.out j hj).1; have := hbw.size; omega
          · intro nm
            rw [hm2]
            exact mem_done hmem.out hall hrg.sub nm
        · intro x cb w9 cnt9 hxS hxV hrg9 hlt9 hg9 hs9 hen
          have HB9 := Lib.hid (hbx.grown hg9 (by omega) (fun k hk => by injection hk with hk; omega))
          have hbw9 : Below w.heap.size w w9 := hbwr.grown hg9 hbwr.size (fun k hk => by injection hk with hk; have := hbw.size; omega)
          have HOW9 := Lib.hid (HOW.out.kept hg9 (.inr (Ne.symm (own_not HOW.out (by omega)))))
          have HRG9 := Lib.hid hrg9
          have b0 := b0.below HB9.out (by omega)
          have b1 := b1.below HB9.out (by omega)
          have h0 := blk_cl b0 0 _ rfl
          have hl := b0.lt
          obtain ⟨hgL9, hcX⟩ := HEX.out w9 hbw9
          have e0 := hcX 0 _ rfl
          have e1 := hcX 1 _ rfl
          have e2 := hcX 2 _ rfl
          rw [Nat.add_zero] at e0
          obtain ⟨p0, p1, p2, p3, pA, p4, pC, pB, p5, pD, p6, p7, p8, hp⟩ := optZ_cells (fndZ zX lX x)
          obtain ⟨q0, q1, q2, q3, qA, q4, qC, qB, q5, qD, q6, q7, q8, hq⟩ := optZ_cells (fndZ zY lY x)
          have HX := Lib.hid (HFX.out x w9 hbw9)
          rw [hp] at HX
          obtain ⟨bX, hbX⟩ : ∃ b, (fndZ zX lX x).isSome = b := ⟨_, rfl⟩
          obtain ⟨bY, hbY⟩ : ∃ b, (fndZ zY lY x).isSome = b := ⟨_, rfl⟩
          rw [hbX] at HX
          clear hcX hrg hbx hrg9 hg9 HOW
          go_wp2_with fail
          clear h0 hl e0 e1 e2 hgL9 hen
          refine HX.out.mono ?_
          rintro e w10 ⟨rfl, hb10⟩
          clear HX
          have b0 := (b0.below hb10 b0.lt).alloc (.cells #[.string p0, .int .i64 p1, .int .i64 p2, .string p3, .slice pA p4 pC, .slice pB p5 pD, .int .i64 p6, .string p7, .int .i64 p8] 27)
          have b1 := (b1.below hb10 b1.lt).alloc (.cells #[.string p0, .int .i64 p1, .int .i64 p2, .string p3, .slice pA p4 pC, .slice pB p5 pD, .int .i64 p6, .string p7, .int .i64 p8] 27)
          have bp := Blk.new w10 #[.string p0, .int .i64 p1, .int .i64 p2, .string p3, .slice pA p4 pC, .slice pB p5 pD, .int .i64 p6, .string p7, .int .i64 p8] 27
          have hbA : Below w9.heap.size w9 (w10.alloc (.cells #[.string p0, .int .i64 p1, .int .i64 p2, .string p3, .slice pA p4 pC, .slice pB p5 pD, .int .i64 p6, .string p7, .int .i64 p8] 27)) := hb10.alloc hb10.size _
          have hbwA := hbw9.trans (hbA.mono hbw9.size)
          have h0 := blk_cl b0 0 _ rfl
          have hl := b0.lt
          have hcY := HEY.out _ hbwA
          have hgLA := (HEX.out _ hbwA).1
          have f0 := hcY 0 _ rfl
          have f1 := hcY 1 _ rfl
          have f2 := hcY 2 _ rfl
          rw [Nat.add_zero] at f0
          have HY := Lib.hid (HFY.out x _ hbwA)
          rw [hq, hbY] at HY
          clear hcY
          go_wp2_with fail
          clear h0 hl f0 f1 f2 hgLA b0
          refine HY.out.mono ?_
          rintro e w12 ⟨rfl, hb12⟩
          clear HY
          have b1 := (b1.below hb12 b1.lt).alloc (.cells #[.string q0, .int .i64 q1, .int .i64 q2, .string q3, .slice qA q4 qC, .slice qB q5 qD, .int .i64 q6, .string q7, .int .i64 q8] 27)
          have bp := (bp.below hb12 bp.lt).alloc (.cells #[.string q0, .int .i64 q1, .int .i64 q2, .string q3, .slice qA q4 qC, .slice qB q5 qD, .int .i64 q6, .string q7, .int .i64 q8] 27)
          have bq := Blk.new w12 #[.string q0, .int .i64 q1, .int .i64 q2, .string q3, .slice qA q4 qC, .slice qB q5 qD, .int .i64 q6, .string q7, .int .i64 q8] 27
          have hb13 : Below w9.heap.size w9 (w12.alloc (.cells #[.string q0, .int .i64 q1, .int .i64 q2, .string q3, .slice qA q4 qC, .slice qB q5 qD, .int .i64 q6, .string q7, .int .i64 q8] 27)) := (hbA.trans (hb12.mono hbA.size)).alloc (by have := hbA.size; have := hb12.size; omega) _
          have hbw13 := hbw9.trans (hb13.mono hbw9.size)
          have HRG13 := Lib.hid (HRG9.out.below hb13)
          have HOW13 := Lib.hid (own_on HOW9.out hb13)
          have HB13 := Lib.hid (HB9.out.trans (hb13.mono (by have := HB9.out.size; have := HRG9.out.lt.2; omega)))
          have hs13 : R + 1 ≤ (w12.alloc (.cells #[.string q0, .int .i64 q1, .int .i64 q2, .string q3, .slice qA q4 qC, .slice qB q5 qD, .int .i64 q6, .string q7, .int .i64 q8] 27)).heap.size := by have := HRG13.out.lt.2; omega
          have hs12 : R + 1 ≤ w12.heap.size := by have := hbA.size; have := hb12.size; have := HRG9.out.lt.2; omega
          clear hb12 hbA hbwA hb10
          cases bX <;> cases bY
          · have hfX := Option.isSome_eq_false_iff.1 hbX
            have hfY := Option.isSome_eq_false_iff.1 hbY
            rw [Option.isNone_iff_eq_none] at hfX hfY
            clear bp bq b1 hbX hbY hp hq
            go_wp2
            go_roundw
            case rel => exact ⟨V ++ [x], out, cnt9, HRG13.out, HOW13.out, Lib.hid (mem_not hmem.out (chg_nn hfX hfY)), by simp only [List.length_append, List.length_singleton]; omega, HB13.out⟩
            case measure => rw [HRG13.out.left, hrgL]; exact hlt9

          · have hfX := Option.isSome_eq_false_iff.1 hbX
            obtain ⟨zy, hfY⟩ := Option.isSome_iff_exists.1 hbY
            rw [Option.isNone_iff_eq_none] at hfX
            clear bp bq b1 hbX hbY hp hq
            go_wp2_with (at_builtin; go_loud (refine wpList_append_own_at _ rfl _ _ 78 rfl (R + 1) 9 i0 _ 1 16 Tryz.underlying78 hi0 hz0 hz1 hz2 rfl (by decide) u19 _ _ rfl (HOW13.out.alloc _) ⟨_, 0, none⟩ 1 1 (encNm x) rfl rfl (new_row_at (by simp) _) (encNm_one x) (by simp only [maxLen]; omega) (by omega) (by simp; omega) ?_); intro v' w14 hown14 hg14 _ hat14)
            go_roundw
            case rel =>
              refine ⟨V ++ [x], out ++ [x], cnt9, (HRG13.out.alloc' _).kept hg14 (own_not HOW13.out (by omega)) (own_not HOW13.out (by omega)), own_snoc hown14, Lib.hid (mem_yes hmem.out (chg_ns hfX hfY)), by simp only [List.length_append, List.length_singleton]; omega, ?_⟩
              exact (HB13.out.alloc (by omega) _).grown hg14 (by simp; omega) fun j hj => by have := (own_in HOW13.out j hj).1; omega
            case measure => rw [RngM.left ((HRG13.out.alloc' _).kept hg14 (own_not HOW13.out (by omega)) (own_not HOW13.out (by omega))), hrgL]; exact hlt9

          · have hfY := Option.isSome_eq_false_iff.1 hbY
            obtain ⟨zx, hfX⟩ := Option.isSome_iff_exists.1 hbX
            rw [Option.isNone_iff_eq_none] at hfY
            clear bp bq b1 hbX hbY hp hq
            go_wp2_with (at_builtin; go_loud (refine wpList_append_own_at _ rfl _ _ 78 rfl (R + 1) 9 i0 _ 1 16 Tryz.underlying78 hi0 hz0 hz1 hz2 rfl (by decide) u19 _ _ rfl (HOW13.out.alloc _) ⟨_, 0, none⟩ 1 1 (encNm x) rfl rfl (new_row_at (by simp) _) (encNm_one x) (by simp only [maxLen]; omega) (by omega) (by simp; omega) ?_); intro v' w14 hown14 hg14 _ hat14)
            go_roundw
            case rel =>
              refine ⟨V ++ [x], out ++ [x], cnt9, (HRG13.out.alloc' _).kept hg14 (own_not HOW13.out (by omega)) (own_not HOW13.out (by omega)), own_snoc hown14, Lib.hid (mem_yes hmem.out (chg_sn hfX hfY)), by simp only [List.length_append, List.length_singleton]; omega, ?_⟩
              exact (HB13.out.alloc (by omega) _).grown hg14 (by simp; omega) fun j hj => by have := (own_in HOW13.out j hj).1; omega
            case measure => rw [RngM.left ((HRG13.out.alloc' _).kept hg14 (own_not HOW13.out (by omega)) (own_not HOW13.out (by omega))), hrgL]; exact hlt9

          · obtain ⟨zx, hfX⟩ := Option.isSome_iff_exists.1 hbX
            obtain ⟨zy, hfY⟩ := Option.isSome_iff_exists.1 hbY
            rw [hfX] at hp
            rw [hfY] at hq
            have hpv : zx.z.v zx.vT zx.vR = .agg #[.string p0, .int .i64 p1, .int .i64 p2, .string p3, .slice pA p4 pC, .slice pB p5 pD, .int .i64 p6, .string p7, .int .i64 p8] := hp
            have hqv : zy.z.v zy.vT zy.vR = .agg #[.string q0, .int .i64 q1, .int .i64 q2, .string q3, .slice qA q4 qC, .slice qB q5 qD, .int .i64 q6, .string q7, .int .i64 q8] := hq
            have hmX := (fnd_mem hfX).1
            have hmY := (fnd_mem hfY).1
            have HI := Lib.hid (HIN.out zx hmX zy hmY _ hbw13)
            rw [hpv, hqv] at HI
            have hvX := HVX.out zx hmX
            have hvY := HVY.out zy hmY
            have g0 := blk_cl bp 0 _ rfl
            have g1 := blk_cl bp 1 _ rfl
            have g2 := blk_cl bp 2 _ rfl
            have g3 := blk_cl bp 3 _ rfl
            have g4 := blk_cl bp 4 _ rfl
            have g5 := blk_cl bp 5 _ rfl
            have g6 := blk_cl bp 6 _ rfl
            have g7 := blk_cl bp 7 _ rfl
            have g8 := blk_cl bp 8 _ rfl
            have k0 := blk_cl bq 0 _ rfl
            have k1 := blk_cl bq 1 _ rfl
            have k2 := blk_cl bq 2 _ rfl
            have k3 := blk_cl bq 3 _ rfl
            have k4 := blk_cl bq 4 _ rfl
            have k5 := blk_cl bq 5 _ rfl
            have k6 := blk_cl bq 6 _ rfl
            have k7 := blk_cl bq 7 _ rfl
            have k8 := blk_cl bq 8 _ rfl
            have s0 := blk_cl b1 0 _ rfl
            have s1 := blk_cl b1 1 _ rfl
            have pl := bp.lt
            have ql := bq.lt
            have sl := b1.lt
            clear bp bq b1 hbX hbY hp hq
            go_wp2_with fail
            clear g0 g1 g2 g3 g4 g5 g6 g7 g8 k0 k1 k2 k3 k4 k5 k6 k7 k8 s0 s1
            refine HI.out.mono ?_
            rintro e w15 ⟨hb15, h15⟩
            clear HI
            rcases h15 with ⟨hno, _⟩ | ⟨_, _, _, outI, uI, hcan, hhas, hlen, rfl, hownI⟩
            · exfalso
              rcases hno with h | h | h
              · rw [hvX] at h; cases h
              · rw [hvY] at h; cases h
              · rw [hsV] at h; cases h
            obtain ⟨AI, cI, rfl⟩ := own_shape hownI
            have HRG15 := Lib.hid (HRG13.out.below hb15)
            have HOW15 := Lib.hid (own_on HOW13.out hb15)
            have HB15 := Lib.hid (HB13.out.trans (hb15.mono (by have := HRG13.out.lt.2; omega)))
            have hs15 : R + 1 ≤ w15.heap.size := by have := HRG15.out.lt.2; omega
            have hchg := (chg_ss (a := s) (b := t) hfX hfY).trans (exists_congr fun t' => (hhas t').symm)
            by_cases hz : outI.length = 0
            · have hzd : decide ((0 : Int) < (outI.length : Int)) = false := decide_eq_false (by omega)
              have hnil := List.length_eq_zero_iff.1 hz
              subst hnil
              have hnc : ¬ chgQ zX lX zY lY s t x := fun h => by
                obtain ⟨t', h⟩ := hchg.1 h
                exact hasL_nil t' h
              clear hhas hcan hownI hlen
              go_wp2
              go_roundw
              case rel => exact ⟨V ++ [x], out, cnt9, HRG15.out, HOW15.out, Lib.hid (mem_not hmem.out hnc), by simp only [List.length_append, List.length_singleton]; omega, HB15.out⟩
              case measure => rw [HRG15.out.left, hrgL]; exact hlt9

            · have hzd : decide ((0 : Int) < (outI.length : Int)) = true := decide_eq_true (by omega)
              have hyc : chgQ zX lX zY lY s t x := hchg.2 (by
                cases outI with
                | nil => exact absurd rfl hz
                | cons r l => exact ⟨r.fr, r, List.mem_cons_self, by have := hcan.ne r List.mem_cons_self; unfold Spn.has; omega⟩)
              clear hhas hcan hownI
              go_wp2_with (at_builtin; go_loud (refine wpList_append_own_at _ rfl _ _ 78 rfl (R + 1) 9 i0 _ 1 16 Tryz.underlying78 hi0 hz0 hz1 hz2 rfl (by decide) u19 _ _ rfl (HOW15.out.alloc _) ⟨_, 0, none⟩ 1 1 (encNm x) rfl rfl (new_row_at (by simp) _) (encNm_one x) (by simp only [maxLen]; omega) (by omega) (by simp; omega) ?_); intro v' w14 hown14 hg14 _ hat14)
              go_roundw
              case rel =>
                refine ⟨V ++ [x], out ++ [x], cnt9, (HRG15.out.alloc' _).kept hg14 (own_not HOW15.out (by omega)) (own_not HOW15.out (by omega)), own_snoc hown14, Lib.hid (mem_yes hmem.out hyc), by simp only [List.length_append, List.length_singleton]; omega, ?_⟩
                exact (HB15.out.alloc (by omega) _).grown hg14 (by simp; omega) fun j hj => by have := (own_in HOW15.out j hj).1; omega
              case measure => rw [RngM.left ((HRG15.out.alloc' _).kept hg14 (own_not HOW15.out (by omega)) (own_not HOW15.out (by omega))), hrgL]; exact hlt9


end Go.Proofs.YtoonaidpmahgcaaGreat

/- version.Changed with its errors. -/
namespace Go.Proofs.YtoonaidpmahgcaaGreat
set_option linter.unusedSimpArgs false
set_option linter.unusedVariables false
open Go.ChangeShapes Go.WideShapes Go.ChangeAt Go.RowKit Go.Maps Go.Lib

def ChgEnd (L : List VV) (a b : ByteArray) (s t : Int) (w : World) (e : Ending) (w' : World) : Prop := Below w.heap.size w w' ∧
  ((∃ n : Int, n ≠ 0 ∧ (n = 1 ∨ n = 7) ∧ e = .returned (.tuple #[.slice none 0 0, .int .i64 n])) ∨
   (validH L = true ∧ spanV s t = true ∧ ∃ i k : Nat, numF L a = i ∧ numF L b = k ∧ i < L.length ∧ k < L.length ∧
     ∃ out u, (∀ nm, nm ∈ out ↔ nm ∈ namesV L[i]! ++ namesV L[k]! ∧ chgP L[i]! L[k]! s t nm) ∧ out.length ≤ 100 ∧ e = .returned (.tuple #[u, .int .i64 0]) ∧ Rd encNm 1 w' u out))
theorem num_at {L : List VV} {nm : ByteArray} (h : 0 ≤ numF L nm) : ∃ k : Nat, numF L nm = k ∧ k < L.length := by
  obtain ⟨k, h1, h2, _⟩ := ixF_lt h
  exact ⟨k, h1, h2⟩
set_option maxRecDepth 100000 in
set_option maxHeartbeats 4000000 in
theorem Changed_any (L : List VV) (vH : Value) (a b : ByteArray) (s t : Int) (w : World) (hm : HasMax w) (hg : GoodH w vH L) (hk : OkH L) (hsp : spanV s t = true → t - s ≤ 1263000000) (hsm : ∀ x ∈ L, x.zs.length ≤ 6 ∧ x.ls.length ≤ 6) :
    Calls Tryz.prog 36 #[.agg #[vH], .string a, .string b, .agg #[.int .i64 s, .int .i64 t]] w (ChgEnd L a b s t w) := by
  by_cases hok : (validH L = true ∧ spanV s t = true) ∧ 0 ≤ numF L a ∧ 0 ≤ numF L b
  · obtain ⟨⟨hv, hs⟩, ha, hb⟩ := hok
    obtain ⟨i, hi, hil⟩ := num_at ha
    obtain ⟨k, hkk, hkl⟩ := num_at hb
    refine (Changed_main L vH a b s t w hm hg hk hv hs (hsp hs) hsm i k hi hkk hil hkl).mono ?_
    rintro e w' ⟨h1, out, u, h2, h3, h4, h5⟩
    exact ⟨h1, .inr ⟨hv, hs, i, k, hi, hkk, hil, hkl, out, u, h2, h3, h4, h5⟩⟩
  have HV := Lib.hid (fun W (hb : Below w.heap.size w W) => Valid_his L vH W (hm.on hb) (hg.on hb) hk)
  have HS := Lib.hid (fun W => vspan_any s t W)
  have HNA := Lib.hid (fun W (hb : Below w.heap.size w W) => number_any L vH a W (by have := hk.n; omega) (hg.r.on hb))
  have HNB := Lib.hid (fun W (hb : Below w.heap.size w W) => number_any L vH b W (by have := hk.n; omega) (hg.r.on hb))
  suffices HPOST : ∀ Post : Ending → World → Prop, Hid (∀ n w', Below w.heap.size w w' → n ≠ 0 → (n = 1 ∨ n = 7) → Post (.returned (.tuple #[.slice none 0 0, .int .i64 n])) w') → Calls Tryz.prog 36 #[.agg #[vH], .string a, .string b, .agg #[.int .i64 s, .int .i64 t]] w Post from HPOST _ (Lib.hid fun n w' h1 h2 h3 => ⟨h1, .inl ⟨n, h2, h3, rfl⟩⟩)
  intro Post HP
  obtain ⟨A, c, rfl⟩ := rd_vf hg.r
  clear hg hm hsm hsp hk
  have b0 := (Blk.new w #[.slice A L.length c] 58).alloc (.cells #[.int .i64 s, .int .i64 t] 29)
  have b1 := Blk.new (w.alloc (.cells #[.slice A L.length c] 58)) #[.int .i64 s, .int .i64 t] 29
  rw [World.size_alloc] at b1
  have hB2 : Below w.heap.size w ((w.alloc (.cells #[.slice A L.length c] 58)).alloc (.cells #[.int .i64 s, .int .i64 t] 29)) := ((Below.refl _ _).alloc (Nat.le_refl _) _).alloc (by simp) _
  have h0 := blk_cl b0 0 _ rfl
  have hl := b0.lt
  obtain ⟨vv, hvv⟩ : ∃ x, validH L = x := ⟨_, rfl⟩
  obtain ⟨vs, hvs⟩ : ∃ x, spanV s t = x := ⟨_, rfl⟩
  rw [hvv] at HV
  rw [hvs] at HS
  go_enter Tryz.func36, Tryz.ntmps36
  go_wp2_with fail
  generalize (w.alloc (.cells #[.slice A L.length c] 58)).alloc (.cells #[.int .i64 s, .int .i64 t] 29) = W at *
  clear h0 hl
  refine (HV.out W hB2).mono ?_
  rintro e w1 ⟨rfl, hb1⟩
  have hB3 := hB2.trans (hb1.mono hB2.size)
  have b0 := b0.below hb1 b0.lt
  have b1 := b1.below hb1 b1.lt
  cases vv
  · go_wp2
    exact HP.out 1 _ hB3 (by decide) (.inl rfl)
  have i0 := blk_cl b1 0 _ rfl
  have i1 := blk_cl b1 1 _ rfl
  have il := b1.lt
  go_wp2_with fail
  clear i0 i1 il
  refine (HS.out w1).mono ?_
  rintro e w2 ⟨rfl, hb2⟩
  have hB4 := hB3.trans (hb2.mono hB3.size)
  have b0 := b0.below hb2 b0.lt
  cases vs
  · go_wp2
    exact HP.out 1 _ hB4 (by decide) (.inl rfl)
  have hneg : ¬ (0 ≤ numF L a ∧ 0 ≤ numF L b) := fun h => hok ⟨⟨hvv, hvs⟩, h⟩
  clear hb1 hb2 hB2 hB3 HV HS hok hvv hvs b1
  have hsz : L.length < 2 ^ 62 ∨ True := .inr trivial
  generalize numF L a = i at *
  generalize numF L b = k at *
  go_wp2_with fail
  have h0 := blk_cl b0 0 _ rfl
  have hl := b0.lt
  have pz : ∀ q : Bel w2.heap.size w2, q.w1.cell? ⟨w.heap.size, 0, none⟩ = some (.slice A L.length c) := fun q => (bel_cell q _ _ hl).trans h0
  have HNAp := Lib.hid (fun q : Bel w2.heap.size w2 => HNA.out q.w1 (hB4.trans (q.h.mono hB4.size)))
  have HNBp := Lib.hid (fun q : Bel w2.heap.size w2 => HNB.out q.w1 (hB4.trans (q.h.mono hB4.size)))
  clear HNA HNB h0
  refine wp_region_bel (by kernel_rfl) (by kernel_rfl) ?_
  repeat (go_big_quiet_step ((first | (go_at_call 105; exact bel_of (Nat.le_refl _) (HNAp.out _)) | (go_at_call 105; exact bel_of (Nat.le_refl _) (HNBp.out _)))))
  refine wpQuiet_nil ?_
  intro w3 hw'
  obtain ⟨⟨w3', hb3⟩, e3⟩ := hw'
  subst e3
  have hB5 := hB4.trans (hb3.mono hB4.size)
  clear pz HNAp HNBp hl hb3 hB4 b0 hsz
  cases hdi : decide (i < 0)
  · have hdk : decide (k < 0) = true := decide_eq_true (by have := of_decide_eq_false hdi; omega)
    go_wp2
    exact HP.out 7 _ hB5 (by decide) (.inr rfl)
  · go_wp2
    exact HP.out 7 _ hB5 (by decide) (.inr rfl)

end Go.Proofs.YtoonaidpmahgcaaGreat

/- Two types that are one compare as equal. -/
namespace Go.Proofs.YtoonaidpmahgcaaGreat
set_option linter.unusedSimpArgs false
set_option linter.unusedVariables false
open Go.ChangeShapes Go.WideShapes Go.ChangeAt Go.RowKit

theorem eqTyS (a : Typ) (w : World) : (binOp .eql 23 (.agg #[.int .i64 a.off, .int .i64 a.sv, .string a.nm]) (.agg #[.int .i64 a.off, .int .i64 a.sv, .string a.nm])).run Tryz.prog w = .ok (.bool true) w := by
  rw [eqTy, decide_eq_true rfl]

end Go.Proofs.YtoonaidpmahgcaaGreat

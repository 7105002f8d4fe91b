/- Slices of elements of k cells, in memory: no function of the program in sight. -/
import Derived.Test.YtjpjmlljgcpbkaaGreatPlain
import Derived.Lib.OwnBridge
import Derived.Lib.AppendIntMem
import Derived.Maps.AppendAt
import Derived.Deep.AppendLies
import Derived.Shelf.SlSortCmp.NoneTotal
namespace Go.Proofs.YtjpjmlljgcpbkaaGreat
set_option linter.unusedSimpArgs false
set_option linter.unusedVariables false
open Go.RowKit Go.Sort Go.Lib
theorem only_of_below {a w : World} (h : Below a.heap.size a w) (row : Option Nat) : a.grownBy w row := ⟨h.os, h.tape, h.output, h.size, fun i hi _ => h.block i hi⟩
theorem own_on {w w' : World} {base : Nat} {e : TypeId} {size : Nat} {v : Value} {n : Nat} {xs : List Value} (h : w.ownsRow base e size v n xs) (hb : Below w.heap.size w w') : w'.ownsRow base e size v n xs := by
  cases hv : v.ownBlock with
  | none => exact h.kept (only_of_below hb none) (.inl hv)
  | some k => exact h.kept (only_of_below hb none) (.inr (by rw [hv]; simp))
theorem new_row (w : World) (e : TypeId) (cs : List Value) : ∀ j u, cs[j]? = some u → (w.alloc (.cells cs.toArray e)).cell? ((⟨w.heap.size, 0, none⟩ : Addr).add j) = some u := by
  intro j u hu
  have e1 : ((⟨w.heap.size, 0, none⟩ : Addr).add j) = ⟨w.heap.size, j, none⟩ := by
    unfold Addr.add; split
    · rename_i h; simp [h]
    · simp
  rw [e1]
  simp [hu]
/-- one append: what of the world it may have turned -/
theorem below_app {w wr w2 w3 : World} {base : Nat} {e : TypeId} {size : Nat} {v : Value} {n : Nat} {xs : List Value} (hown : wr.ownsRow base e size v n xs) (hbase : w.heap.size ≤ base) (h2 : Below w.heap.size w w2) (hg : w2.grownBy w3 v.ownBlock) : Below w.heap.size w w3 :=
  h2.grown hg h2.size fun k hk => Nat.le_trans hbase (hown.lt k hk).1
section
variable {α : Type} [Inhabited α]
omit [Inhabited α] in
theorem own_snoc {w : World} {base : Nat} {e : TypeId} {size : Nat} {v : Value} {enc : α → List Value} {es : List α} {x : α} (h : w.ownsRow base e size v (es.length + 1) (es.flatMap enc ++ enc x)) : w.ownsRow base e size v (es ++ [x]).length ((es ++ [x]).flatMap enc) := by
  simpa using h

/-- a slice value that reads as a list, each element of k cells -/
def Rd (enc : α → List Value) (k : Nat) (w : World) (v : Value) (es : List α) : Prop :=
  (es = [] ∧ ∃ A c, v = .slice A 0 c) ∨
  ∃ g off c, v = .slice (some ⟨g, off, none⟩) es.length c ∧ g < w.heap.size ∧ ∀ j, j < es.length → ∀ i u, (enc es[j]!)[i]? = some u → w.cell? ⟨g, off + j * k + i, none⟩ = some u

theorem Rd.on {enc : α → List Value} {k : Nat} {w w' : World} {v : Value} {es : List α} (h : Rd enc k w v es) (hb : Below w.heap.size w w') : Rd enc k w' v es := by
  rcases h with h | ⟨g, off, c, hv, hg, hc⟩
  · exact .inl h
  · exact .inr ⟨g, off, c, hv, Nat.lt_of_lt_of_le hg hb.size, fun j hj i u hu => (hb.cell (p := ⟨g, off + j * k + i, none⟩) hg).trans (hc j hj i u hu)⟩

theorem flat_get {enc : α → List Value} {k : Nat} (hk : ∀ x, (enc x).length = k) : ∀ (es : List α) (j i : Nat), j < es.length → i < k → (es.flatMap enc)[j * k + i]? = some (enc es[j]!)[i]!
  | [], j, i, hj, _ => absurd hj (by simp)
  | x :: es, 0, i, _, hi => by
    have hl : i < (enc x).length := by rw [hk]; exact hi
    simp [List.flatMap_cons, List.getElem?_append_left, hl, getElem!_pos (enc x) i hl]
  | x :: es, j + 1, i, hj, hi => by
    have e : (j + 1) * k + i = (enc x).length + (j * k + i) := by rw [hk, Nat.add_mul, Nat.one_mul]; omega
    rw [List.flatMap_cons, e, List.getElem?_append_right (by omega), Nat.add_sub_cancel_left, flat_get hk es j i (by simpa using hj) hi]
    simp
omit [Inhabited α] in
theorem flat_len {enc : α → List Value} {k : Nat} (hk : ∀ x, (enc x).length = k) (es : List α) : (es.flatMap enc).length = es.length * k := by
  induction es with
  | nil => simp
  | cons x es ih => simp [List.flatMap_cons, ih, hk, Nat.add_mul]; omega

/-- a row of the call's own that is not nil: where it lies, and what it holds -/
theorem holdsK_of_own {enc : α → List Value} {k : Nat} (hk : ∀ x, (enc x).length = k) {w : World} {base : Nat} {e : TypeId} {v : Value} {n : Nat} {es : List α} (h : w.ownsRow base e k v n (es.flatMap enc)) (hn : es.length = n) (hv : v ≠ .slice none 0 0) :
    ∃ g cap, v = .slice (some ⟨g, 0, none⟩) n cap ∧ base ≤ g ∧ g < w.heap.size ∧ n ≤ cap ∧ cap ≤ maxLen ∧ HoldsK enc k w g 0 es.toArray := by
  rcases h.2 with ⟨e0, _⟩ | ⟨g, cap, cur, rfl, hb, hg, hnc, hm, hs, ht⟩
  · exact absurd e0 hv
  · have hlt : g < w.heap.size := by
      rcases Nat.lt_or_ge g w.heap.size with h' | h'
      · exact h'
      · rw [Array.getElem?_eq_none h'] at hg; cases hg
    refine ⟨g, cap, rfl, hb, hlt, hnc, hm, fun t ht' => ?_⟩
    rw [size_flatK] at ht'
    have ht2 : t < es.length * k := by simpa using ht'
    have k0 : 0 < k := by
      rcases Nat.eq_zero_or_pos k with h | h
      · subst h; simp at ht2
      · exact h
    refine ⟨?_, by simp [World.frozen?, hg]⟩
    have hj : t / k < es.length := (Nat.div_lt_iff_lt_mul k0).2 ht2
    have hi : t % k < k := Nat.mod_lt _ k0
    have e1 := flat_get hk es (t / k) (t % k) hj hi
    rw [Nat.mul_comm, Nat.div_add_mod, ← ht, List.getElem?_take, if_pos (by rw [← hn]; exact ht2), Array.getElem?_toList] at e1
    rw [get_flatK _ _ _ _ ht']
    simp only [World.cell?, hg, Nat.zero_add, Option.isSome_none, Bool.false_eq_true, if_false]
    rw [e1]
    simp
theorem rd_of_own {enc : α → List Value} {k : Nat} (hk : ∀ x, (enc x).length = k) {w : World} {base : Nat} {e : TypeId} {v : Value} {n : Nat} {es : List α} (h : w.ownsRow base e k v n (es.flatMap enc)) (hn : es.length = n) : Rd enc k w v es := by
  by_cases hv : v = .slice none 0 0
  · left
    rcases h.2 with ⟨e0, e1⟩ | ⟨g, cap, cur, e0, _⟩
    · exact ⟨List.eq_nil_of_length_eq_zero (hn.trans e1), none, 0, hv⟩
    · rw [hv] at e0; cases e0
  · obtain ⟨g, cap, rfl, _, hg, _, _, hH⟩ := holdsK_of_own hk h hn hv
    right
    refine ⟨g, 0, cap, by rw [hn], hg, fun j hj i u hu => ?_⟩
    have hi : i < k := by
      have := (List.getElem?_eq_some_iff.1 hu).1
      rwa [hk] at this
    have := (HoldsK.cell hH (i := j) (c := i) (by simpa using hj) hi).1
    rw [this]
    have hl : i < (enc es[j]!).length := by rw [hk]; exact hi
    rw [← hu, List.getElem?_eq_getElem hl, getElem!_pos _ i (by simpa [hk] using hi)]
    simp
/-- behind the library's sort the row reads as what it was sorted to -/
theorem rd_sorted {enc : α → List Value} {k : Nat} (hk : ∀ x, (enc x).length = k) {w : World} {g off cap n : Nat} {es ys : List α} {os : Array Obj} (hH : HoldsK enc k w g off es.toArray) (hy : ys.length = es.length) (hg : g < w.heap.size) :
    Rd enc k (sortWorldK enc k w g off n ys.toArray os) (.slice (some ⟨g, off, none⟩) es.length cap) ys := by
  right
  have hH1 : HoldsK enc k (Sort.ahead w n) g off es.toArray := holdsK_ahead _ _ _ _ _ _ _ hH
  have hH2 := holdsK_putRowK enc k (Sort.ahead w n) g off es.toArray ys.toArray hH1 (by simpa using hy)
  have hg2 : g < (putRowK enc k (Sort.ahead w n) g off ys.toArray).heap.size := by
    simpa [putRowK, putRow, mapBlock, Sort.ahead] using hg
  have hH3 : HoldsK enc k (sortWorldK enc k w g off n ys.toArray os) g off ys.toArray := holdsK_grow _ _ _ os g off _ hg2 hH2
  refine ⟨g, off, cap, by rw [hy], ?_, fun j hj i u hu => ?_⟩
  · show g < (grow _ os).heap.size
    have : (grow (putRowK enc k (Sort.ahead w n) g off ys.toArray) os).heap.size = (putRowK enc k (Sort.ahead w n) g off ys.toArray).heap.size + os.size := by simp [grow]
    omega
  · have hi : i < k := by
      have := (List.getElem?_eq_some_iff.1 hu).1
      rwa [hk] at this
    have := (HoldsK.cell hH3 (i := j) (c := i) (by simpa using hj) hi).1
    rw [this]
    have hl : i < (enc ys[j]!).length := by rw [hk]; exact hi
    rw [← hu, List.getElem?_eq_getElem hl, getElem!_pos _ i (by simpa [hk] using hi)]
    simp
theorem below_sorted {enc : α → List Value} {k : Nat} {B : Nat} {w0 w : World} {g off n : Nat} {d : Array α} {os : Array Obj} (h : Below B w0 w) (hg : B ≤ g) (hB : B ≤ w.heap.size) : Below B w0 (sortWorldK enc k w g off n d os) := by
  refine ⟨h.os, h.tape, h.output, ?_, fun j hj => ?_⟩
  · show w0.heap.size ≤ ((mapBlock (Sort.ahead w n) g _).heap ++ os).size
    have := h.size
    simp [mapBlock, Sort.ahead]; omega
  · have e : (sortWorldK enc k w g off n d os).heap = (mapBlock (Sort.ahead w n) g (putCells id off (flatK enc k d))).heap ++ os := rfl
    rw [e]
    have hj' : j < w.heap.size := by omega
    rw [Array.getElem?_append_left (by simpa [mapBlock, Sort.ahead] using hj'), ← h.block j hj]
    simp [mapBlock, Sort.ahead, Array.getElem?_modify, show g ≠ j by omega]

variable {P : Program}
omit [Inhabited α] in
theorem run_append_of_nil (w : World) (base : Nat) (t ty e : TypeId) (i : TypeInfo) (size : Nat) (ht : P.underlying t = some (.slice e)) (hi : P.info? e = some i)
    (v : Value) (n : Nat) (xs : List Value) (hown : w.ownsRow base e size v n xs) (c : Nat) : (Builtin.append_ #[t, t] ty #[v, .slice none 0 c]).run P w = .ok v w := by
  rcases hown.2 with ⟨rfl, rfl⟩ | ⟨g, cap, cur, rfl, _, _, hnc, _⟩
  · simp [Builtin.append_, run_underlying ht, Go.sizeOf, typeInfo, hi, Builtin.lenOf, Builtin.firstCells]
  · simp [Builtin.append_, run_underlying ht, Go.sizeOf, typeInfo, hi, Builtin.lenOf, Builtin.firstCells, hnc, storeCells]
/-- append onto a row of the call's own, the source any slice that reads as a list -/
theorem run_append_rd (w : World) (base : Nat) (t ty e : TypeId) (i : TypeInfo) (z : Value) (size bytes : Nat) (ht : P.underlying t = some (.slice e)) (hi : P.info? e = some i) (hz : i.zero = some z)
    (hsize : i.size = size) (hby : i.bytes = bytes) (hzs : z.cells.size = size) (hsz : 0 < size)
    (v : Value) (n : Nat) (xs : List Value) (hown : w.ownsRow base e size v n xs)
    (enc : α → List Value) (hk : ∀ x, (enc x).length = size) (h1 : ∀ x, ∀ u ∈ enc x, u.oneCell' = true) (xv : Value) (es : List α) (hr : Rd enc size w xv es)
    (h63 : n + es.length ≤ maxLen) (hbytes : (n + es.length) * bytes ≤ 140737488355328) (hbase : base ≤ w.heap.size) :
    ∃ v' w', (Builtin.append_ #[t, t] ty #[v, xv]).run P w = .ok v' w' ∧ w'.ownsRow base e size v' (n + es.length) (xs ++ es.flatMap enc) ∧ w.grownBy w' v.ownBlock := by
  have h1' : ∀ u ∈ es.flatMap enc, u.oneCell' = true := fun u hu => by
    obtain ⟨x, _, hx⟩ := List.mem_flatMap.1 hu
    exact h1 x u hx
  rcases hr with ⟨rfl, A, c, rfl⟩ | ⟨g, off, c, rfl, hg, hc⟩
  · cases A with
    | none => exact ⟨v, w, run_append_of_nil w base t ty e i size ht hi v n xs hown c, by simpa using hown, World.grownBy.refl w _⟩
    | some ad =>
      obtain ⟨v', w', hrun, h2, h3, _, _⟩ := run_append_own_at (P := P) w base t ty e i z size bytes ht hi hz hsize hby hzs hsz v n xs hown ad 0 c [] (by simp) (fun j u hu => by simp at hu) (fun u hu => by simp at hu) h63 hbytes hbase
      exact ⟨v', w', hrun, by simpa using h2, h3⟩
  · obtain ⟨v', w', hrun, h2, h3, _, _⟩ := run_append_own_at (P := P) w base t ty e i z size bytes ht hi hz hsize hby hzs hsz v n xs hown ⟨g, off, none⟩ es.length c (es.flatMap enc) (flat_len hk es) (fun j u hu => by
      have hl := (List.getElem?_eq_some_iff.1 hu).1
      rw [flat_len hk] at hl
      have hj : j / size < es.length := (Nat.div_lt_iff_lt_mul hsz).2 hl
      have hi' : j % size < size := Nat.mod_lt _ hsz
      have e1 := flat_get hk es (j / size) (j % size) hj hi'
      rw [Nat.mul_comm, Nat.div_add_mod, hu] at e1
      injection e1 with e1
      have hl2 : j % size < (enc es[j / size]!).length := by rw [hk]; exact hi'
      have e2 := hc (j / size) hj (j % size) u (by rw [e1, List.getElem?_eq_getElem hl2, getElem!_pos (enc es[j / size]!) (j % size) hl2])
      rw [Nat.add_assoc, Nat.mul_comm, Nat.div_add_mod] at e2
      unfold Addr.add
      split
      · rename_i h; subst h; simpa using e2
      · exact e2) h1' h63 hbytes hbase
    exact ⟨v', w', hrun, h2, h3⟩
theorem wpList_append_rd {w : World} {ops : Array Oper} {rest : List Oper} {o : Oper} {a : Act} {Q : Exit → Act → World → Prop} (hgd : o.guard = none) (s x : Operand) (t : TypeId)
    (ho : o.op = .call { callee := .builtin .append, args := #[s, x], argTypes := #[t, t] })
    (base : Nat) (e : TypeId) (i : TypeInfo) (z : Value) (size bytes : Nat) (ht : P.underlying t = some (.slice e)) (hi : P.info? e = some i) (hz : i.zero = some z)
    (hsize : i.size = size) (hby : i.bytes = bytes) (hzs : z.cells.size = size) (hsz : 0 < size)
    (v : Value) (n : Nat) (xs : List Value) (hs : a.eval s = v) (hown : w.ownsRow base e size v n xs)
    (enc : α → List Value) (hk : ∀ x, (enc x).length = size) (h1 : ∀ x, ∀ u ∈ enc x, u.oneCell' = true) (xv : Value) (hx : a.eval x = xv) (es : List α) (hr : Rd enc size w xv es)
    (h63 : n + es.length ≤ maxLen) (hbytes : (n + es.length) * bytes ≤ 140737488355328) (hbase : base ≤ w.heap.size)
    (h : ∀ v' w', w'.ownsRow base e size v' (n + es.length) (xs ++ es.flatMap enc) → w.grownBy w' v.ownBlock → wpList P ops Q rest (a.put o.dst v') w') : wpList P ops Q (o :: rest) a w :=
  wpList_plain hgd fun _ hK => by
    obtain ⟨v', w', hrun, h2, h3⟩ := run_append_rd (P := P) w base t o.type e i z size bytes ht hi hz hsize hby hzs hsz v n xs hown enc hk h1 xv es hr h63 hbytes hbase
    unfold Oper.wp execOp
    simp only [ho, resolve, invoke, builtin, Sem.run_bind, Sem.run_pure, Result.andThen_ok, List.map_toArray, List.map_cons, List.map_nil, hs, hx, hrun]
    exact hK _ _ (h v' w' h2 h3)
end
end Go.Proofs.YtjpjmlljgcpbkaaGreat

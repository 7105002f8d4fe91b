/- zone.Saving and zone.Types: the spans with a saving, and the types, of a list of transitions. No program in sight. -/
import Derived.Test.YtdpkolnfbimheaaGreatGLa
namespace Go.Proofs.YtdpkolnfbimheaaGreat
set_option linter.unusedSimpArgs false
set_option linter.unusedVariables false
open Go.Sort

def stT : Int → Typ → List Trn → Int × Typ
  | f, o, [] => (f, o)
  | _, _, x :: xs => stT x.at_ x.ty xs
theorem stT_snoc : ∀ (f : Int) (o : Typ) (P : List Trn) (x : Trn), stT f o (P ++ [x]) = (x.at_, x.ty)
  | _, _, [], _ => rfl
  | _, _, y :: P, x => stT_snoc y.at_ y.ty P x
/-- the parts with a saving -/
def segF : Int → Typ → List Trn → List Spn
  | _, _, [] => []
  | f, o, x :: xs => (if o.sv ≠ 0 ∧ f < x.at_ then [⟨f, x.at_⟩] else []) ++ segF x.at_ x.ty xs
theorem segF_snoc : ∀ (f : Int) (o : Typ) (P : List Trn) (x : Trn), segF f o (P ++ [x]) = segF f o P ++ (if (stT f o P).2.sv ≠ 0 ∧ (stT f o P).1 < x.at_ then [⟨(stT f o P).1, x.at_⟩] else [])
  | f, o, [], x => by rw [List.nil_append, segF, segF, segF, List.append_nil, List.nil_append, stT]
  | f, o, y :: P, x => by rw [List.cons_append, segF, segF_snoc y.at_ y.ty P x, segF, stT, List.append_assoc]
theorem segF_len : ∀ (f : Int) (o : Typ) (P : List Trn), (segF f o P).length ≤ P.length
  | _, _, [] => Nat.zero_le _
  | f, o, x :: P => by
    rw [segF, List.length_append, List.length_cons]
    have h1 := segF_len x.at_ x.ty P
    have h2 : (if o.sv ≠ 0 ∧ f < x.at_ then [(⟨f, x.at_⟩ : Spn)] else []).length ≤ 1 := by split <;> simp
    omega
theorem segF_bd : ∀ {f : Int} {o : Typ} {P : List Trn}, P.Pairwise (fun x y => x.at_ ≤ y.at_) → (∀ x ∈ P, f ≤ x.at_) → (∀ s ∈ segF f o P, f ≤ s.fr ∧ s.fr < s.to ∧ ∃ x ∈ P, s.to = x.at_) ∧ (segF f o P).Pairwise (fun s t => s.to ≤ t.fr)
  | f, o, [], _, _ => ⟨fun s h => (by cases h), List.Pairwise.nil⟩
  | f, o, x :: P, hA, hf => by
    obtain ⟨h1, h2⟩ := List.pairwise_cons.1 hA
    have hx := hf x List.mem_cons_self
    obtain ⟨g1, g2⟩ := segF_bd (o := x.ty) h2 h1
    rw [segF]
    refine ⟨fun s hs => ?_, List.pairwise_append.2 ⟨by split <;> simp, g2, fun s hs t ht => ?_⟩⟩
    · rcases List.mem_append.1 hs with hs | hs
      · split at hs
        · rename_i hc
          rw [List.mem_singleton.1 hs]
          exact ⟨Int.le_refl _, hc.2, x, List.mem_cons_self, rfl⟩
        · cases hs
      · obtain ⟨k1, k2, y, hy, k3⟩ := g1 s hs
        exact ⟨by omega, k2, y, List.mem_cons_of_mem _ hy, k3⟩
    · split at hs
      · rw [List.mem_singleton.1 hs]
        exact (g1 t ht).1
      · cases hs
/-- an instant is in the parts exactly if its type has a saving -/
theorem segF_has {b : Int} {e : Typ} : ∀ {f : Int} {o : Typ} {L : List Trn}, L.Pairwise (fun x y => x.at_ < y.at_) → (∀ x ∈ L, f ≤ x.at_ ∧ x.at_ < b) → f ≤ b → ∀ t, hasL (segF f o (L ++ [⟨b, e⟩])) t ↔ (f ≤ t ∧ t < b) ∧ (typL o L t).sv ≠ 0
  | f, o, [], _, _, hfb => fun t => by
    rw [List.nil_append, segF, segF, List.append_nil, typL]
    split
    · rename_i hc
      rw [hasL_one]
      unfold Spn.has
      exact ⟨fun h => ⟨h, hc.1⟩, fun h => h.1⟩
    · rename_i hc
      refine ⟨fun h => absurd h (hasL_nil t), fun h => absurd ⟨h.2, ?_⟩ hc⟩
      dsimp only
      omega
  | f, o, x :: L, hA, hL, hfb => fun t => by
    obtain ⟨h1, h2⟩ := List.pairwise_cons.1 hA
    have hx := hL x List.mem_cons_self
    have ih := segF_has (e := e) (o := x.ty) (f := x.at_) h2 (fun y hy => ⟨Int.le_of_lt (h1 y hy), (hL y (List.mem_cons_of_mem _ hy)).2⟩) (by omega) t
    rw [List.cons_append, segF, hasL_append, ih, typL]
    have key : hasL (if o.sv ≠ 0 ∧ f < x.at_ then [(⟨f, x.at_⟩ : Spn)] else []) t ↔ (f ≤ t ∧ t < x.at_) ∧ o.sv ≠ 0 := by
      split
      · rename_i hc
        rw [hasL_one]
        unfold Spn.has
        exact ⟨fun h => ⟨h, hc.1⟩, fun h => h.1⟩
      · rename_i hc
        exact ⟨fun h => absurd h (hasL_nil t), fun h => absurd ⟨h.2, by omega⟩ hc⟩
    rw [key]
    by_cases ht : x.at_ ≤ t
    · rw [if_pos ht]
      constructor
      · rintro (⟨h3, _⟩ | ⟨h3, h4⟩)
        · omega
        · exact ⟨by omega, h4⟩
      · rintro ⟨h3, h4⟩
        exact .inr ⟨by omega, h4⟩
    · rw [if_neg ht, typL_late (o := o) fun y hy => by have := h1 y hy; omega]
      constructor
      · rintro (⟨h3, h4⟩ | ⟨h3, _⟩)
        · exact ⟨by omega, h4⟩
        · omega
      · rintro ⟨h3, h4⟩
        exact .inl ⟨by omega, h4⟩

/-- one more part behind others: joined where they touch -/
def addTo (out : List Spn) (s : Spn) : List Spn :=
  if 0 < out.length ∧ (out[out.length - 1]!).to = s.fr then out.set (out.length - 1) ⟨(out[out.length - 1]!).fr, s.to⟩ else out ++ [s]
def touchF (l : List Spn) : List Spn := l.foldl addTo []
theorem touchF_snoc (l : List Spn) (s : Spn) : touchF (l ++ [s]) = addTo (touchF l) s := by unfold touchF; rw [List.foldl_append]; rfl
theorem addTo_join {out : List Spn} {s : Spn} (h : ∀ r ∈ out, r.to ≤ s.fr) (hs : s.fr < s.to) : addTo out s = addRun out s := by
  rcases snoc_cases out with rfl | ⟨o, r, rfl⟩
  · unfold addTo addRun; rw [if_neg (by simp), if_neg (by simp)]
  · have e2 : (o ++ [r])[(o ++ [r]).length - 1]! = r := by
      rw [show (o ++ [r]).length - 1 = o.length by simp, getElem!_pos (o ++ [r]) o.length (by simp)]
      simp
    have hr := h r (by simp)
    unfold addTo addRun
    rw [e2]
    by_cases he : r.to = s.fr
    · rw [if_pos ⟨by simp, he⟩, if_pos ⟨by simp, by omega⟩, show max r.to s.to = s.to by omega]
    · rw [if_neg (fun h => he h.2), if_neg (fun h => he (by have := h.2; omega))]
theorem touch_join : ∀ {l : List Spn}, l.Pairwise (fun s t => s.to ≤ t.fr) → (∀ s ∈ l, s.fr < s.to) → touchF l = joinF l := by
  intro l hA hn
  have hB : l.Pairwise (fun s t => s.fr ≤ t.fr) := List.pairwise_iff_getElem.2 fun i j hi hj hij => by
    have h1 := List.pairwise_iff_getElem.1 hA i j hi hj hij
    have h2 := hn _ (List.getElem_mem hi)
    omega
  have : ∀ k, k ≤ l.length → touchF (l.take k) = joinF (l.take k) := by
    intro k
    induction k with
    | zero => intro _; rfl
    | succ k ih =>
      intro hk
      have hlt : k < l.length := hk
      rw [List.take_succ_eq_append_getElem hlt, touchF_snoc, joinF_snoc, ih (by omega)]
      have hj := joined (hB.sublist (List.take_sublist k l)) fun s hs => hn s (List.mem_of_mem_take hs)
      refine addTo_join (fun r hr => ?_) (hn _ (List.getElem_mem hlt))
      have hr2 := hj.c.ne r hr
      obtain ⟨s, hs, _, h2⟩ := (hj.m (r.to - 1)).1 ⟨r, hr, by omega, by omega⟩
      obtain ⟨i, hi, rfl⟩ := List.mem_take_iff_getElem.1 hs
      have := List.pairwise_iff_getElem.1 hA i k (by omega) hlt (by omega)
      omega
  have h := this l.length (Nat.le_refl _)
  rwa [List.take_length] at h
theorem addTo_len (out : List Spn) (s : Spn) : (addTo out s).length ≤ out.length + 1 := by unfold addTo; split <;> simp
/-- what zone.Saving returns of a valid zone -/
def Zn.savF (z : Zn) (a b : Int) : List Spn := touchF (segF a (z.typF a) (z.betF a b ++ [⟨b, default⟩]))
structure SavOk (z : Zn) (a b : Int) (out : List Spn) : Prop where
  c : Canon out
  ok : ∀ s ∈ out, s.ok = true
  m : ∀ t, a ≤ t → t < b → (hasL out t ↔ (z.typF t).sv ≠ 0)
theorem sav_ok {z : Zn} (hv : z.valid = true) {a b : Int} (h1 : -62135596800 ≤ a) (h2 : a < b) (h3 : b ≤ 253402300800) : SavOk z a b (z.savF a b) := by
  have hA := bet_asc hv a b
  have hP : (z.betF a b ++ [(⟨b, default⟩ : Trn)]).Pairwise (fun x y => x.at_ ≤ y.at_) := List.pairwise_append.2 ⟨hA.imp Int.le_of_lt, List.pairwise_singleton _ _, fun x hx y hy => by
    rw [List.mem_singleton.1 hy]
    exact Int.le_of_lt (bet_mem x hx).2⟩
  have hf : ∀ x ∈ z.betF a b ++ [(⟨b, default⟩ : Trn)], a ≤ x.at_ ∧ x.at_ ≤ b := fun x hx => by
    rcases List.mem_append.1 hx with hx | hx
    · have := bet_mem x hx; omega
    · rw [List.mem_singleton.1 hx]; dsimp only; omega
  obtain ⟨g1, g2⟩ := segF_bd (o := z.typF a) hP fun x hx => (hf x hx).1
  have e : z.savF a b = joinF (segF a (z.typF a) (z.betF a b ++ [⟨b, default⟩])) := touch_join g2 fun s hs => (g1 s hs).2.1
  have hB : (segF a (z.typF a) (z.betF a b ++ [(⟨b, default⟩ : Trn)])).Pairwise (fun s t => s.fr ≤ t.fr) := List.pairwise_iff_getElem.2 fun i j hi hj hij => by
    have h1 := List.pairwise_iff_getElem.1 g2 i j hi hj hij
    have h2 := (g1 _ (List.getElem_mem hi)).2.1
    omega
  have hj := joined hB fun s hs => (g1 s hs).2.1
  rw [e]
  refine ⟨hj.c, fun s hs => ?_, fun t ht1 ht2 => ?_⟩
  · have hn := hj.c.ne s hs
    obtain ⟨u, hu, hfr⟩ := hj.f s hs
    obtain ⟨v, hv2, _, h5⟩ := (hj.m (s.to - 1)).1 ⟨s, hs, by omega, by omega⟩
    have k1 := g1 u hu
    obtain ⟨_, _, x, hx, k2⟩ := g1 v hv2
    have := hf x hx
    exact Spn.ok_iff.2 ⟨by omega, by omega, hn⟩
  · rw [hj.m t, segF_has hA bet_mem (by omega) t, typF_bet hv ht1 ht2]
    exact ⟨fun h => h.2, fun h => ⟨⟨ht1, ht2⟩, h⟩⟩

/-! ### types -/
def addTy (out : List Typ) (x : Typ) : List Typ := if x ∈ out then out else out ++ [x]
def tysF (o : Typ) (L : List Trn) : List Typ := L.foldl (fun out x => addTy out x.ty) [o]
theorem tysF_snoc (o : Typ) (L : List Trn) (x : Trn) : tysF o (L ++ [x]) = addTy (tysF o L) x.ty := by unfold tysF; rw [List.foldl_append]; rfl
theorem addTy_len (out : List Typ) (x : Typ) : (addTy out x).length ≤ out.length + 1 := by unfold addTy; split <;> simp
theorem tysF_len (o : Typ) (L : List Trn) : (tysF o L).length ≤ L.length + 1 := by
  have : ∀ (L : List Trn) (out : List Typ), (L.foldl (fun out x => addTy out x.ty) out).length ≤ out.length + L.length := by
    intro L
    induction L with
    | nil => intro out; simp
    | cons x L ih =>
      intro out
      have h1 := ih (addTy out x.ty)
      have h2 := addTy_len out x.ty
      rw [List.foldl_cons, List.length_cons]
      omega
  have := this L [o]
  unfold tysF
  simp at this ⊢
  omega
theorem addTy_ok {out : List Typ} {x : Typ} (h : out.Nodup) : (addTy out x).Nodup ∧ ∀ y, y ∈ addTy out x ↔ y ∈ out ∨ y = x := by
  unfold addTy
  split
  · rename_i hm
    exact ⟨h, fun y => ⟨.inl, fun g => g.elim id fun e => e ▸ hm⟩⟩
  · rename_i hm
    refine ⟨List.nodup_append.2 ⟨h, (by simp), fun a ha b hb e => hm (by rw [List.mem_singleton.1 hb] at e; exact e ▸ ha)⟩, fun y => by simp⟩
theorem tysF_ok (o : Typ) (L : List Trn) : (tysF o L).Nodup ∧ o ∈ tysF o L ∧ ∀ x ∈ L, x.ty ∈ tysF o L := by
  have : ∀ (L : List Trn) (out : List Typ), out.Nodup → (L.foldl (fun out x => addTy out x.ty) out).Nodup ∧ (∀ y ∈ out, y ∈ L.foldl (fun out x => addTy out x.ty) out) ∧ ∀ x ∈ L, x.ty ∈ L.foldl (fun out x => addTy out x.ty) out := by
    intro L
    induction L with
    | nil => intro out h; exact ⟨h, fun y hy => hy, fun x hx => by cases hx⟩
    | cons x L ih =>
      intro out h
      obtain ⟨g1, g2⟩ := addTy_ok (x := x.ty) h
      obtain ⟨i1, i2, i3⟩ := ih (addTy out x.ty) g1
      rw [List.foldl_cons]
      refine ⟨i1, fun y hy => i2 y ((g2 y).2 (.inl hy)), fun y hy => ?_⟩
      rcases List.mem_cons.1 hy with rfl | hy
      · exact i2 _ ((g2 _).2 (.inr rfl))
      · exact i3 y hy
  obtain ⟨h1, h2, h3⟩ := this L [o] ((by simp))
  exact ⟨h1, h2 o (List.mem_singleton_self _), h3⟩
theorem typL_mem (o : Typ) (L : List Trn) (t : Int) : typL o L t = o ∨ ∃ x ∈ L, typL o L t = x.ty := by
  induction L generalizing o with
  | nil => exact .inl rfl
  | cons x L ih =>
    rw [typL]
    split
    · rcases ih x.ty with h | ⟨y, hy, h⟩
      · exact .inr ⟨x, List.mem_cons_self, h⟩
      · exact .inr ⟨y, List.mem_cons_of_mem _ hy, h⟩
    · rcases ih o with h | ⟨y, hy, h⟩
      · exact .inl h
      · exact .inr ⟨y, List.mem_cons_of_mem _ hy, h⟩
/-- what zone.Types returns of a valid zone -/
def Zn.tysV (z : Zn) (a b : Int) : List Typ := tysF (z.typF a) (z.betF a b)
theorem tys_has {z : Zn} (hv : z.valid = true) {a b t : Int} (h1 : a ≤ t) (h2 : t < b) : z.typF t ∈ z.tysV a b := by
  obtain ⟨_, g2, g3⟩ := tysF_ok (z.typF a) (z.betF a b)
  rw [typF_bet hv h1 h2]
  rcases typL_mem (z.typF a) (z.betF a b) t with h | ⟨x, hx, h⟩
  · rw [h]; exact g2
  · rw [h]; exact g3 x hx

end Go.Proofs.YtdpkolnfbimheaaGreat

/- Regions whose order is drawn, by an invariant: what has come, the frame. -/
import Derived.Test.YtndbmeedimhohaaOrdInv
import Derived.WalkKit
namespace Go.Proofs.Ytndbmeedimhohaa
open Go.RowKit
def seen (l : Array Bool) (i : Nat) : Prop := l.getD i false = true
theorem seen_set {l : Array Bool} {i j : Nat} (h : seen (l.setIfInBounds i true) j) : j = i ∨ seen l j := by
  by_cases e : i = j
  · exact .inl e.symm
  · exact .inr (by unfold seen at h ⊢; rwa [getD_set_ne false e] at h)
theorem seen_more {l : Array Bool} {i j : Nat} (h : seen l j) : seen (l.setIfInBounds i true) j := getD_set_true h
theorem seen_self {l : Array Bool} {i : Nat} (h : l.getD i true = false) : seen (l.setIfInBounds i true) i := by
  have hlt : i < l.size := by
    rcases Nat.lt_or_ge i l.size with h' | h'
    · exact h'
    · simp [Array.getElem?_eq_none h'] at h
  unfold seen
  simp [hlt]
theorem not_seen {l : Array Bool} {i : Nat} (h : l.getD i true = false) : ¬ seen l i := by
  have hlt : i < l.size := by
    rcases Nat.lt_or_ge i l.size with h' | h'
    · exact h'
    · simp [Array.getElem?_eq_none h'] at h
  intro hs
  unfold seen at hs
  simp [hlt] at h hs
  rw [h] at hs
  cases hs
theorem ready_seen {md : Region.Mode} {ops : Array Oper} {l : Array Bool} {i k : Nat} (h : i ∈ Region.ready md ops l) (hk : (ops[i]?.map fun o => o.after.any fun e => Region.binds md e && e.on == k) = some true) : seen l k := by
  obtain ⟨_, o, ho, hall⟩ := mem_ready.1 h
  rw [ho] at hk
  simp only [Option.map_some, Option.some.injEq] at hk
  obtain ⟨e, he, hb⟩ := Array.any_eq_true'.1 hk
  simp only [Bool.and_eq_true, beq_iff_eq] at hb
  have := hall e he hb.1
  rw [hb.2] at this
  exact this
theorem ready_lt {md : Region.Mode} {ops : Array Oper} {l : Array Bool} {i : Nat} (h : i ∈ Region.ready md ops l) : i < ops.size := by
  obtain ⟨_, o, ho, _⟩ := mem_ready.1 h
  exact (Array.getElem?_eq_some_iff.1 ho).1
/-- All are listed when none is ready, if each comes behind lesser ones. -/
theorem all_seen {md : Region.Mode} {ops : Array Oper} {l : Array Bool} (hs : l.size = ops.size) (hr : Region.ready md ops l = []) (hlt : ∀ (i : Nat) (o : Oper), ops[i]? = some o → ∀ e ∈ o.after, Region.binds md e = true → e.on < i) : ∀ i, i < ops.size → seen l i := fun i => by
  induction i using Nat.strongRecOn with
  | ind i ih =>
    intro hi
    cases hg : l.getD i true
    · have : i ∈ Region.ready md ops l := mem_ready.2 ⟨hg, ops[i], Array.getElem?_eq_getElem hi, fun e he hb => ih e.on (hlt i _ (Array.getElem?_eq_getElem hi) e he hb) (by have := hlt i _ (Array.getElem?_eq_getElem hi) e he hb; omega)⟩
      rw [hr] at this
      cases this
    · unfold seen
      have hl : i < l.size := by omega
      simpa [hl] using hg
/-- A region that draws its order, by an invariant. -/
theorem region_inv {P : Program} {ops : Array Oper} {Q : Exit → Act → World → Prop} {id : Nat} {a : Act} {w : World} (hm : P.follows .mixedOrders = true) (I : Act → Array Bool → Act → World → Prop)
    (h0 : I a (Array.replicate ops.size false) a w.drew)
    (hstep : ∀ l b w', I a l b w' → ∀ i, i ∈ Region.ready .any ops l → wpOp P ops Q i (fun b' w'' => I a (l.setIfInBounds i true) b' w'') b w')
    (hlt : ∀ (i : Nat) (o : Oper), ops[i]? = some o → ∀ e ∈ o.after, Region.binds .any e = true → e.on < i)
    (hend : ∀ l b w', I a l b w' → (∀ i, i < ops.size → seen l i) → Q .normal b w') : (Code.region id ops true).wp P Q a w := by
  refine wp_region_any hm (wpAny_inv (fun l b w' => l.size = ops.size ∧ I a l b w') (fun l b w' h i hi => wpOp_mono (fun b' w'' h' => ⟨by rw [Array.size_setIfInBounds]; exact h.1, h'⟩) (hstep l b w' h.2 i hi)) (fun l b w' h hr => hend l b w' h.2 (all_seen h.1 hr hlt)) ops.size _ a _ ⟨by simp, h0⟩ ?_)
  rw [Array.toList_replicate, List.count_replicate_self]
  exact Nat.le_refl _
/-- Each operation comes behind lesser ones. -/
def lesser (ops : Array Oper) : Bool := (List.range ops.size).all fun i => match ops[i]? with | some o => o.after.all fun e => decide (e.on < i) || !Region.binds .any e | none => true
theorem lesser_spec {ops : Array Oper} (h : lesser ops = true) : ∀ (i : Nat) (o : Oper), ops[i]? = some o → ∀ e ∈ o.after, Region.binds .any e = true → e.on < i := fun i o ho e he hb => by
  have hi := (Array.getElem?_eq_some_iff.1 ho).1
  have := List.all_eq_true.1 h i (List.mem_range.2 hi)
  rw [ho] at this
  have := Array.all_eq_true_iff_forall_mem.1 this e he
  simpa [hb] using this
theorem seen_none (n j : Nat) : ¬ seen (Array.replicate n false) j := by
  unfold seen
  simp [Array.getElem?_replicate]
  split <;> simp
/-- Frame b is a0 but for the slots of ds, which hold xs. -/
structure Fr (a0 b : Act) (ds : List Nat) (xs : Nat → Value) : Prop where
  df : b.defers = a0.defers
  sz : b.tmps.size = a0.tmps.size
  at_ : ∀ t, t < a0.tmps.size → b.tmps[t]? = if t ∈ ds then some (xs t) else a0.tmps[t]?
def updX (xs : Nat → Value) (s : Nat) (v : Value) (t : Nat) : Value := if t = s then v else xs t
theorem Fr.start (a : Act) (ds : List Nat) : Fr a a ds (fun t => a.tmps.getD t undef) := by
  refine ⟨rfl, rfl, fun t ht => ?_⟩
  split
  · simp [ht]
  · rfl
theorem Fr.put {a0 b : Act} {ds : List Nat} {xs : Nat → Value} (f : Fr a0 b ds xs) {s : Nat} (hs : s ∈ ds) (v : Value) : Fr a0 (b.put (some s) v) ds (updX xs s v) := by
  refine ⟨f.df, by simpa [Act.put] using f.sz, fun t ht => ?_⟩
  show (b.tmps.setIfInBounds s v)[t]? = _
  rw [Array.getElem?_setIfInBounds]
  by_cases e : s = t
  · subst e
    have : s < b.tmps.size := by rw [f.sz]; exact ht
    simp [this, hs, updX]
  · rw [if_neg e, f.at_ t ht]
    simp [updX, Ne.symm e]
theorem Fr.in_ {a0 b : Act} {ds : List Nat} {xs : Nat → Value} (f : Fr a0 b ds xs) {s : Nat} (hs : s ∈ ds) (ht : s < a0.tmps.size) : b.tmps[s]? = some (xs s) := by rw [f.at_ s ht, if_pos hs]
theorem Fr.ex {a0 b : Act} {ds : List Nat} {xs : Nat → Value} (f : Fr a0 b ds xs) {s : Nat} {v : Value} (hs : s ∉ ds) (h : a0.tmps[s]? = some v) : b.tmps[s]? = some v := by
  have ht : s < a0.tmps.size := (Array.getElem?_eq_some_iff.1 h).1
  rw [f.at_ s ht, if_neg hs]
  exact h
theorem foldl_size (ds : List Nat) (xs : Nat → Value) : ∀ (T : Array Value), (ds.foldl (fun T s => T.setIfInBounds s (xs s)) T).size = T.size := by
  induction ds with
  | nil => intro T; rfl
  | cons s r ih => intro T; rw [List.foldl_cons, ih]; simp
theorem foldl_at (ds : List Nat) (xs : Nat → Value) : ∀ (T : Array Value) (t : Nat), t < T.size → (ds.foldl (fun T s => T.setIfInBounds s (xs s)) T)[t]? = if t ∈ ds then some (xs t) else T[t]? := by
  induction ds with
  | nil => intro T t _; simp
  | cons s r ih =>
    intro T t ht
    rw [List.foldl_cons, ih _ t (by simpa using ht), Array.getElem?_setIfInBounds]
    by_cases e : s = t
    · subst e
      by_cases h2 : s ∈ r <;> simp [h2, ht]
    · by_cases h2 : t ∈ r <;> simp [h2, e, Ne.symm e]
theorem Fr.out {a0 b : Act} {ds : List Nat} {xs : Nat → Value} (f : Fr a0 b ds xs) : b = { tmps := ds.foldl (fun T s => T.setIfInBounds s (xs s)) a0.tmps, defers := a0.defers } := by
  obtain ⟨T, df⟩ := b
  obtain ⟨h1, h2, h3⟩ := f
  simp only at h1 h2 h3
  subst h1
  congr 1
  apply Array.ext_getElem?
  intro t
  by_cases ht : t < a0.tmps.size
  · rw [h3 t ht, foldl_at ds xs _ t ht]
  · rw [Array.getElem?_eq_none (by omega), Array.getElem?_eq_none (by rw [foldl_size]; omega)]
/-- A region that draws its order, by an invariant over a frame that is not written out. -/
theorem region_fr {P : Program} {ops : Array Oper} {Q : Exit → Act → World → Prop} {id : Nat} {a : Act} {w : World} (hm : P.follows .mixedOrders = true) (ds : List Nat) (E : Act → Prop) (J : Array Bool → (Nat → Value) → World → Prop)
    (hE : E a) (h0 : ∀ xs, J (Array.replicate ops.size false) xs w.drew)
    (hstep : ∀ (a0 b : Act) (xs : Nat → Value) (l : Array Bool) (w' : World), E a0 → Fr a0 b ds xs → J l xs w' → ∀ i, i ∈ Region.ready .any ops l → wpOp P ops Q i (fun b' w'' => ∃ xs', Fr a0 b' ds xs' ∧ J (l.setIfInBounds i true) xs' w'') b w')
    (hlt : lesser ops = true)
    (hend : ∀ (xs : Nat → Value) (l : Array Bool) (w' : World), J l xs w' → (∀ i, i < ops.size → seen l i) → Q .normal { tmps := ds.foldl (fun T s => T.setIfInBounds s (xs s)) a.tmps, defers := a.defers } w') : (Code.region id ops true).wp P Q a w :=
  region_inv hm (fun a0 l b w' => ∃ xs, Fr a0 b ds xs ∧ J l xs w') ⟨_, Fr.start a ds, h0 _⟩
    (fun l b w' ⟨xs, f, j⟩ i hi => hstep a b xs l w' hE f j i hi) (lesser_spec hlt) (fun l b w' ⟨xs, f, j⟩ hall => by rw [f.out]; exact hend xs l w' j hall)
end Go.Proofs.Ytndbmeedimhohaa

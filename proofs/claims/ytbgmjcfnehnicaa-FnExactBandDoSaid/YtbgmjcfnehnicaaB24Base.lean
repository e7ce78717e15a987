/- Regions whose order is drawn: the frame as a function of the slots that the region writes. -/
import Derived.Test.YtbgmjcfnehnicaaB23Base
namespace Go.Proofs.Ytbgmjcfnehnicaa
open Go.RowKit
/-- Frame b is a0 but for the slots of ds, which hold xs. -/
structure Fr (a0 b : Act) (ds : List Nat) (xs : Nat → Value) : Prop where
  df : b.defers = a0.defers
  sz : b.tmps.size = a0.tmps.size
  at_ : ∀ t, t < a0.tmps.size → b.tmps[t]? = if t ∈ ds then some (xs t) else a0.tmps[t]?
def updX (xs : Nat → Value) (s : Nat) (v : Value) (t : Nat) : Value := if t = s then v else xs t
theorem Fr.start (a : Act) (ds : List Nat) : Fr a a ds (fun t => a.tmps.getD t undef) := by
  refine ⟨rfl, rfl, fun t ht => ?_⟩
  split
  · simp [ht]
  · rfl
theorem Fr.put {a0 b : Act} {ds : List Nat} {xs : Nat → Value} (f : Fr a0 b ds xs) {s : Nat} (hs : s ∈ ds) (v : Value) : Fr a0 (b.put (some s) v) ds (updX xs s v) := by
  refine ⟨f.df, by simpa [Act.put] using f.sz, fun t ht => ?_⟩
  show (b.tmps.setIfInBounds s v)[t]? = _
  rw [Array.getElem?_setIfInBounds]
  by_cases e : s = t
  · subst e
    have : s < b.tmps.size := by rw [f.sz]; exact ht
    simp [this, hs, updX]
  · rw [if_neg e, f.at_ t ht]
    simp [updX, Ne.symm e]
theorem Fr.in_ {a0 b : Act} {ds : List Nat} {xs : Nat → Value} (f : Fr a0 b ds xs) {s : Nat} (hs : s ∈ ds) (ht : s < a0.tmps.size) : b.tmps[s]? = some (xs s) := by rw [f.at_ s ht, if_pos hs]
theorem Fr.ex {a0 b : Act} {ds : List Nat} {xs : Nat → Value} (f : Fr a0 b ds xs) {s : Nat} {v : Value} (hs : s ∉ ds) (h : a0.tmps[s]? = some v) : b.tmps[s]? = some v := by
  have ht : s < a0.tmps.size := (Array.getElem?_eq_some_iff.1 h).1
  rw [f.at_ s ht, if_neg hs]
  exact h
theorem foldl_size (ds : List Nat) (xs : Nat → Value) : ∀ (T : Array Value), (ds.foldl (fun T s => T.setIfInBounds s (xs s)) T).size = T.size := by
  induction ds with
  | nil => intro T; rfl
  | cons s r ih => intro T; rw [List.foldl_cons, ih]; simp
theorem foldl_at (ds : List Nat) (xs : Nat → Value) : ∀ (T : Array Value) (t : Nat), t < T.size → (ds.foldl (fun T s => T.setIfInBounds s (xs s)) T)[t]? = if t ∈ ds then some (xs t) else T[t]? := by
  induction ds with
  | nil => intro T t _; simp
  | cons s r ih =>
    intro T t ht
    rw [List.foldl_cons, ih _ t (by simpa using ht), Array.getElem?_setIfInBounds]
    by_cases e : s = t
    · subst e
      by_cases h2 : s ∈ r <;> simp [h2, ht]
    · by_cases h2 : t ∈ r <;> simp [h2, e, Ne.symm e]
theorem Fr.out {a0 b : Act} {ds : List Nat} {xs : Nat → Value} (f : Fr a0 b ds xs) : b = { tmps := ds.foldl (fun T s => T.setIfInBounds s (xs s)) a0.tmps, defers := a0.defers } := by
  obtain ⟨T, df⟩ := b
  obtain ⟨h1, h2, h3⟩ := f
  simp only at h1 h2 h3
  subst h1
  congr 1
  apply Array.ext_getElem?
  intro t
  by_cases ht : t < a0.tmps.size
  · rw [h3 t ht, foldl_at ds xs _ t ht]
  · rw [Array.getElem?_eq_none (by omega), Array.getElem?_eq_none (by rw [foldl_size]; omega)]
/-- A region that draws its order, by an invariant over a frame that is not written out. -/
theorem region_fr {P : Program} {ops : Array Oper} {Q : Exit → Act → World → Prop} {id : Nat} {a : Act} {w : World} (hm : P.follows .mixedOrders = true) (ds : List Nat) (E : Act → Prop) (J : Array Bool → (Nat → Value) → World → Prop)
    (hE : E a) (h0 : ∀ xs, J (Array.replicate ops.size false) xs w.drew)
    (hstep : ∀ (a0 b : Act) (xs : Nat → Value) (l : Array Bool) (w' : World), E a0 → Fr a0 b ds xs → J l xs w' → ∀ i, i ∈ Region.ready .any ops l → wpOp P ops Q i (fun b' w'' => ∃ xs', Fr a0 b' ds xs' ∧ J (l.setIfInBounds i true) xs' w'') b w')
    (hlt : lesser ops = true)
    (hend : ∀ (xs : Nat → Value) (l : Array Bool) (w' : World), J l xs w' → (∀ i, i < ops.size → seen l i) → Q .normal { tmps := ds.foldl (fun T s => T.setIfInBounds s (xs s)) a.tmps, defers := a.defers } w') : (Code.region id ops true).wp P Q a w :=
  region_inv hm (fun a0 l b w' => ∃ xs, Fr a0 b ds xs ∧ J l xs w') ⟨_, Fr.start a ds, h0 _⟩
    (fun l b w' ⟨xs, f, j⟩ i hi => hstep a b xs l w' hE f j i hi) (lesser_spec hlt) (fun l b w' ⟨xs, f, j⟩ hall => by rw [f.out]; exact hend xs l w' j hall)
/-- The list of what has come, one place further on. -/
def pad (l : Array Bool) : Array Bool := (false :: l.toList).toArray
theorem pad_set (l : Array Bool) (i : Nat) : pad (l.setIfInBounds i true) = (pad l).setIfInBounds (i + 1) true := by
  unfold pad
  simp
theorem pad_getD (l : Array Bool) (i : Nat) (x : Bool) : (pad l).getD (i + 1) x = l.getD i x := by
  unfold pad
  simp
theorem pad_seen {l : Array Bool} {i : Nat} (h : seen l i) : seen (pad l) (i + 1) := by
  unfold seen at h ⊢
  rw [pad_getD]
  exact h
theorem pad_new (k : Nat) : pad (Array.replicate k false) = Array.replicate (k + 1) false := by
  apply Array.toList_inj.1
  simp [pad, List.replicate_succ]
end Go.Proofs.Ytbgmjcfnehnicaa

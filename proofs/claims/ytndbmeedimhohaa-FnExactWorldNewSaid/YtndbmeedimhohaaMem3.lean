/- Memory words of my own: a slice of structs as a function of the index ('Rs'), rows of structs of the call's own ('OwnS'). -/
import Derived.Test.YtndbmeedimhohaaMem2
import Derived.Deep.MidRow
namespace Go.Proofs.Ytndbmeedimhohaa
open Go.RowKit

theorem rangeAt_below {w w' : World} {B g o : Nat} {cs : List Value} (h : w.rangeAt g o cs) (hb : Below B w w') (hg : g < B) : w'.rangeAt g o cs := fun j v hv =>
  (hb.cell (p := ⟨g, o + j, none⟩) hg).trans (h j v hv)
theorem there_below {w w' : World} {B g o n : Nat} (h : w.there g o n) (hb : Below B w w') (hg : g < B) : w'.there g o n := fun j hj => by
  obtain ⟨h1, h2⟩ := h j hj
  exact ⟨by rw [hb.cell (p := ⟨g, o + j, none⟩) hg]; exact h1, by rw [hb.frozen (p := ⟨g, o + j, none⟩) hg]; exact h2⟩
/-- The slice with head A and n elements of sz cells reads, element by element, as el; it lies below block B. -/
def Rs (w : World) (B : Nat) (A : Option Addr) (n sz : Nat) (el : Nat → List Value) : Prop :=
  0 < n → ∃ g o, A = some ⟨g, o, none⟩ ∧ g < B ∧ ∀ i, i < n → w.rangeAt g (o + i * sz) (el i)
theorem Rs.below {w w' : World} {B n sz : Nat} {A : Option Addr} {el : Nat → List Value} (h : Rs w B A n sz el) (hb : Below B w w') : Rs w' B A n sz el := fun hm => by
  obtain ⟨g, o, ha, hg, hc⟩ := h hm
  exact ⟨g, o, ha, hg, fun i hi => rangeAt_below (hc i hi) hb hg⟩
theorem Rs.more {w : World} {B B' n sz : Nat} {A : Option Addr} {el : Nat → List Value} (h : Rs w B A n sz el) (hB : B ≤ B') : Rs w B' A n sz el := fun hm => by
  obtain ⟨g, o, ha, hg, hc⟩ := h hm
  exact ⟨g, o, ha, by omega, hc⟩
theorem Rs.at_ {W w : World} {n sz : Nat} {A : Option Addr} {el : Nat → List Value} (h : Rs W W.heap.size A n sz el) (hb : Below W.heap.size W w) : Rs w w.heap.size A n sz el :=
  (h.below hb).more hb.size
/-- Block g holds n elements of sz cells that read as el, none frozen, and is there. -/
def OwnS (w : World) (g n sz : Nat) (el : Nat → List Value) : Prop := g < w.heap.size ∧ (∀ i, i < n → w.rangeAt g (i * sz) (el i)) ∧ w.there g 0 (n * sz)
theorem OwnS.rs {w : World} {g n sz : Nat} {el : Nat → List Value} (h : OwnS w g n sz el) : Rs w w.heap.size (some ⟨g, 0, none⟩) n sz el := fun _ =>
  ⟨g, 0, rfl, h.1, fun i hi => by rw [Nat.zero_add]; exact h.2.1 i hi⟩
theorem OwnS.below {w w' : World} {g n sz B : Nat} {el : Nat → List Value} (h : OwnS w g n sz el) (hb : Below B w w') (hg : g < B) : OwnS w' g n sz el :=
  ⟨Nat.lt_of_lt_of_le h.1 hb.size, fun i hi => rangeAt_below (h.2.1 i hi) hb hg, there_below h.2.2 hb hg⟩
theorem size_setCells (b : Nat) : ∀ (vs : List Value) (o : Nat) (w : World), (w.setCells b o vs).heap.size = w.heap.size
  | [], _, _ => rfl
  | v :: r, o, w => by
    rw [World.setCells, size_setCells b r (o + 1)]
    simp
theorem below_setCells {B : Nat} {a : World} (b : Nat) (hb : B ≤ b) : ∀ (vs : List Value) (o : Nat) (w : World), Below B a w → Below B a (w.setCells b o vs)
  | [], _, _, h => h
  | v :: r, o, w, h => by
    rw [World.setCells]
    exact below_setCells b hb r (o + 1) _ (h.setCell hb v)
/-- What a loop that fills such a block has done when k elements are there. -/
def Fill (w : World) (g n sz k : Nat) (el : Nat → List Value) : Prop := g < w.heap.size ∧ (∀ i, i < k → w.rangeAt g (i * sz) (el i)) ∧ w.there g 0 (n * sz)
theorem Fill.done {w : World} {g n sz : Nat} {el : Nat → List Value} (h : Fill w g n sz n el) : OwnS w g n sz el := h
theorem Fill.below {w w' : World} {g n sz k B : Nat} {el : Nat → List Value} (h : Fill w g n sz k el) (hb : Below B w w') (hg : g < B) : Fill w' g n sz k el :=
  ⟨Nat.lt_of_lt_of_le h.1 hb.size, fun i hi => rangeAt_below (h.2.1 i hi) hb hg, there_below h.2.2 hb hg⟩
theorem mul_succ_le {k n sz : Nat} (h : k < n) : k * sz + sz ≤ n * sz := by
  have := Nat.mul_le_mul_right sz h
  rw [Nat.succ_mul] at this
  exact this
theorem Fill.there_at {w : World} {g n sz k : Nat} {el : Nat → List Value} (h : Fill w g n sz k el) (hk : k < n) : w.there g (k * sz) sz := fun j hj => by
  have := h.2.2 (k * sz + j) (by have := mul_succ_le (sz := sz) hk; omega)
  rw [Nat.zero_add] at this
  exact this
theorem Fill.step {w : World} {g n sz k : Nat} {el : Nat → List Value} (h : Fill w g n sz k el) (hk : k < n) (hl : ∀ i, (el i).length = sz) : Fill (w.setCells g (k * sz) (el k)) g n sz (k + 1) el := by
  refine ⟨by rw [size_setCells]; exact h.1, fun i hi => ?_, World.there_setCells h.2.2 _ _ _⟩
  by_cases e : i = k
  · subst e
    exact World.rangeAt_setCells_same w g (i * sz) (el i) (by rw [hl i]; exact h.there_at hk)
  · have := mul_succ_le (sz := sz) (show i < k by omega)
    exact World.rangeAt_setCells_apart (h.2.1 i (by omega)) g (k * sz) (el k) (.inr (.inl (by rw [hl i]; exact this)))
/-- A new block of n * sz cells. -/
theorem Fill.new {w : World} {t : TypeId} {cs : Array Value} {n sz : Nat} (el : Nat → List Value) (hs : cs.size = n * sz) : Fill (w.alloc (.cells cs t)) w.heap.size n sz 0 el := by
  have hb := Bk.new w t cs
  refine ⟨by simp, fun i hi => by omega, fun j hj => ?_⟩
  rw [Nat.zero_add, hb.cell j, hb.free j, Array.getElem?_eq_getElem (by omega)]
  exact ⟨rfl, rfl⟩
end Go.Proofs.Ytndbmeedimhohaa

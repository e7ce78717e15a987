/- Memory words of my own: a slice that reads as a function of the index ('Rw'), a block of the call's own that does ('Own1'). -/
import Derived.Test.YtndbmeedimhohaaMem
import Derived.Laws.MakeOwn
import Derived.Laws.CopyOwn
import Derived.Handy
import Derived.RegionTactic
import Derived.ChangeAlike
import Derived.BigRegion
import Derived.Deep.QuietTactic
import Derived.BigQuiet
namespace Go.Proofs.Ytndbmeedimhohaa
open Go.RowKit

/-- The slice with head A and m cells reads, cell by cell, as f; it lies below block B. -/
def Rw (w : World) (B : Nat) (A : Option Addr) (m : Nat) (f : Nat → Value) : Prop :=
  0 < m → ∃ g o, A = some ⟨g, o, none⟩ ∧ g < B ∧ ∀ i, i < m → w.cell? ⟨g, o + i, none⟩ = some (f i)
theorem Rw.below {w w' : World} {B m : Nat} {A : Option Addr} {f : Nat → Value} (h : Rw w B A m f) (hb : Below B w w') : Rw w' B A m f := fun hm => by
  obtain ⟨g, o, ha, hg, hc⟩ := h hm
  exact ⟨g, o, ha, hg, fun i hi => (hb.cell (p := ⟨g, o + i, none⟩) hg).trans (hc i hi)⟩
theorem Rw.more {w : World} {B B' m : Nat} {A : Option Addr} {f : Nat → Value} (h : Rw w B A m f) (hB : B ≤ B') : Rw w B' A m f := fun hm => by
  obtain ⟨g, o, ha, hg, hc⟩ := h hm
  exact ⟨g, o, ha, by omega, hc⟩
theorem Rw.congr {w : World} {B m : Nat} {A : Option Addr} {f f' : Nat → Value} (h : Rw w B A m f) (he : ∀ i, i < m → f i = f' i) : Rw w B A m f' := fun hm => by
  obtain ⟨g, o, ha, hg, hc⟩ := h hm
  exact ⟨g, o, ha, hg, fun i hi => (hc i hi).trans (by rw [he i hi])⟩
/-- Rows known in a world W stay known in whatever world W becomes, below its own size. -/
theorem Rw.at_ {W w : World} {m : Nat} {A : Option Addr} {f : Nat → Value} (h : Rw W W.heap.size A m f) (hb : Below W.heap.size W w) : Rw w w.heap.size A m f :=
  (h.below hb).more hb.size

/-- Block g is a block of m cells, none frozen, that reads as f. -/
def Own1 (w : World) (g : Nat) (t : TypeId) (m : Nat) (f : Nat → Value) : Prop := ∃ cs : Array Value, Bk w g t cs ∧ cs.size = m ∧ ∀ i, i < m → cs[i]? = some (f i)
theorem Own1.rw_ {w : World} {g m : Nat} {t : TypeId} {f : Nat → Value} (h : Own1 w g t m f) : Rw w w.heap.size (some ⟨g, 0, none⟩) m f := fun _ => by
  obtain ⟨cs, hb, hs, hc⟩ := h
  exact ⟨g, 0, rfl, hb.lt, fun i hi => by rw [hb.cell, Nat.zero_add, hc i hi]⟩
theorem Own1.lt {w : World} {g m : Nat} {t : TypeId} {f : Nat → Value} (h : Own1 w g t m f) : g < w.heap.size := by
  obtain ⟨cs, hb, _⟩ := h
  exact hb.lt
theorem Own1.below {w w' : World} {g m B : Nat} {t : TypeId} {f : Nat → Value} (h : Own1 w g t m f) (hb : Below B w w') (hg : g < B) : Own1 w' g t m f := by
  obtain ⟨cs, h1, h2, h3⟩ := h
  exact ⟨cs, h1.below hb hg, h2, h3⟩
theorem bel {A B C : World} (h1 : Below A.heap.size A B) (h2 : Below B.heap.size B C) : Below A.heap.size A C := h1.trans (h2.mono h1.size)

/-- make([]T, n) of a one-cell element: the new block. -/
theorem made1 (v : Value) (n : Nat) : (madeCells #[v] n).size = n ∧ ∀ i, i < n → (madeCells #[v] n)[i]? = some v := by
  refine ⟨size_madeCells _ _, fun i hi => ?_⟩
  have := toList_madeCells_one v n
  rw [← Array.getElem?_toList, this]
  simp [hi]
theorem Bk.new' (w : World) (g : Nat) (t : TypeId) (cs : Array Value) (hg : w.heap.size = g) : Bk (w.alloc (.cells cs t)) g t cs := by
  subst hg
  exact Bk.new w t cs
theorem Bk.frees {w : World} {g : Nat} {t : TypeId} {cs : Array Value} (h : Bk w g t cs) : ∀ i, w.frozen? ⟨g, i, none⟩ = false := fun i => h.free i
theorem Bk.five {w : World} {g : Nat} {t : TypeId} {a b c d e : Value} (h : Bk w g t #[a, b, c, d, e]) :
    w.cell? ⟨g, 0, none⟩ = some a ∧ w.cell? ⟨g, 1, none⟩ = some b ∧ w.cell? ⟨g, 2, none⟩ = some c ∧ w.cell? ⟨g, 3, none⟩ = some d ∧ w.cell? ⟨g, 4, none⟩ = some e :=
  ⟨h.cell 0, h.cell 1, h.cell 2, h.cell 3, h.cell 4⟩
theorem Bk.four {w : World} {g : Nat} {t : TypeId} {a b c d : Value} (h : Bk w g t #[a, b, c, d]) :
    w.cell? ⟨g, 0, none⟩ = some a ∧ w.cell? ⟨g, 1, none⟩ = some b ∧ w.cell? ⟨g, 2, none⟩ = some c ∧ w.cell? ⟨g, 3, none⟩ = some d :=
  ⟨h.cell 0, h.cell 1, h.cell 2, h.cell 3⟩
theorem Bk.rowOff {w : World} {g g' : Nat} {t : TypeId} {cs : Array Value} (h : Bk w g t cs) (hp : g ≠ g') (xs : Array Value) : Bk (w.setRow g' xs) g t cs := (setRow_other w g' g xs hp).trans h
theorem Own1.off {w : World} {g m : Nat} {t : TypeId} {f : Nat → Value} (h : Own1 w g t m f) {p : Addr} (hp : g ≠ p.block) (u : Value) : Own1 (w.setCell p u) g t m f := by
  obtain ⟨cs, h1, h2, h3⟩ := h
  exact ⟨cs, h1.off hp u, h2, h3⟩
theorem Own1.rowOff {w : World} {g g' m : Nat} {t : TypeId} {f : Nat → Value} (h : Own1 w g t m f) (hp : g ≠ g') (xs : Array Value) : Own1 (w.setRow g' xs) g t m f := by
  obtain ⟨cs, h1, h2, h3⟩ := h
  exact ⟨cs, h1.rowOff hp xs, h2, h3⟩
theorem Own1.drew {w : World} {g m : Nat} {t : TypeId} {f : Nat → Value} (h : Own1 w g t m f) : Own1 w.drew g t m f := h
theorem Own1.alloc {w : World} {g m : Nat} {t : TypeId} {f : Nat → Value} (h : Own1 w g t m f) (o : Obj) : Own1 (w.alloc o) g t m f := by
  obtain ⟨cs, h1, h2, h3⟩ := h
  exact ⟨cs, h1.alloc o, h2, h3⟩
end Go.Proofs.Ytndbmeedimhohaa

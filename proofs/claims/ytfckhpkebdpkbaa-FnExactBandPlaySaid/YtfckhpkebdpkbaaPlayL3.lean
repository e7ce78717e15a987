/-
  Memory words of my own: a slice that reads as a function of the index ('Rw'), a block of the call's own that does ('Own1').
-/
import Derived.Test.YtfckhpkebdpkbaaPlayL2
import Derived.Laws.MakeOwn
import Derived.Laws.CopyOwn
import Derived.Handy
import Derived.RegionTactic
import Derived.ChangeAlike
import Derived.BigRegion
import Derived.Deep.QuietTactic
import Derived.BigQuiet
import Derived.Deep.MidRow
import Derived.WalkKit
import Derived.WalkSpells
import Derived.Lib.Hide
namespace Go.Proofs.Ytfckhpkebdpkbaa
open Go.RowKit

/-- The slice with head A and m cells reads, cell by cell, as f; it lies below block B. -/
def Rw (w : World) (B : Nat) (A : Option Addr) (m : Nat) (f : Nat → Value) : Prop :=
  0 < m → ∃ g o, A = some ⟨g, o, none⟩ ∧ g < B ∧ ∀ i, i < m → w.cell? ⟨g, o + i, none⟩ = some (f i)
theorem Rw.below {w w' : World} {B m : Nat} {A : Option Addr} {f : Nat → Value} (h : Rw w B A m f) (hb : Below B w w') : Rw w' B A m f := fun hm => by
  obtain ⟨g, o, ha, hg, hc⟩ := h hm
  exact ⟨g, o, ha, hg, fun i hi => (hb.cell (p := ⟨g, o + i, none⟩) hg).trans (hc i hi)⟩
theorem Rw.more {w : World} {B B' m : Nat} {A : Option Addr} {f : Nat → Value} (h : Rw w B A m f) (hB : B ≤ B') : Rw w B' A m f := fun hm => by
  obtain ⟨g, o, ha, hg, hc⟩ := h hm
  exact ⟨g, o, ha, by omega, hc⟩
theorem Rw.congr {w : World} {B m : Nat} {A : Option Addr} {f f' : Nat → Value} (h : Rw w B A m f) (he : ∀ i, i < m → f i = f' i) : Rw w B A m f' := fun hm => by
  obtain ⟨g, o, ha, hg, hc⟩ := h hm
  exact ⟨g, o, ha, hg, fun i hi => (hc i hi).trans (by rw [he i hi])⟩
/-- Rows known in a world W stay known in whatever world W becomes, below its own size. -/
theorem Rw.at_ {W w : World} {m : Nat} {A : Option Addr} {f : Nat → Value} (h : Rw W W.heap.size A m f) (hb : Below W.heap.size W w) : Rw w w.heap.size A m f :=
  (h.below hb).more hb.size

/-- Block g is a block of m cells, none frozen, that reads as f. -/
def Own1 (w : World) (g : Nat) (t : TypeId) (m : Nat) (f : Nat → Value) : Prop := ∃ cs : Array Value, Bk w g t cs ∧ cs.size = m ∧ ∀ i, i < m → cs[i]? = some (f i)
theorem Own1.rw_ {w : World} {g m : Nat} {t : TypeId} {f : Nat → Value} (h : Own1 w g t m f) : Rw w w.heap.size (some ⟨g, 0, none⟩) m f := fun _ => by
  obtain ⟨cs, hb, hs, hc⟩ := h
  exact ⟨g, 0, rfl, hb.lt, fun i hi => by rw [hb.cell, Nat.zero_add, hc i hi]⟩
theorem Own1.lt {w : World} {g m : Nat} {t : TypeId} {f : Nat → Value} (h : Own1 w g t m f) : g < w.heap.size := by
  obtain ⟨cs, hb, _⟩ := h
  exact hb.lt
theorem Own1.below {w w' : World} {g m B : Nat} {t : TypeId} {f : Nat → Value} (h : Own1 w g t m f) (hb : Below B w w') (hg : g < B) : Own1 w' g t m f := by
  obtain ⟨cs, h1, h2, h3⟩ := h
  exact ⟨cs, h1.below hb hg, h2, h3⟩
theorem bel {A B C : World} (h1 : Below A.heap.size A B) (h2 : Below B.heap.size B C) : Below A.heap.size A C := h1.trans (h2.mono h1.size)

/-- make([]T, n) of a one-cell element: the new block. -/
theorem made1 (v : Value) (n : Nat) : (madeCells #[v] n).size = n ∧ ∀ i, i < n → (madeCells #[v] n)[i]? = some v := by
  refine ⟨size_madeCells _ _, fun i hi => ?_⟩
  have := toList_madeCells_one v n
  rw [← Array.getElem?_toList, this]
  simp [hi]
theorem Bk.new' (w : World) (g : Nat) (t : TypeId) (cs : Array Value) (hg : w.heap.size = g) : Bk (w.alloc (.cells cs t)) g t cs := by
  subst hg
  exact Bk.new w t cs
theorem Bk.frees {w : World} {g : Nat} {t : TypeId} {cs : Array Value} (h : Bk w g t cs) : ∀ i, w.frozen? ⟨g, i, none⟩ = false := fun i => h.free i
theorem Bk.five {w : World} {g : Nat} {t : TypeId} {a b c d e : Value} (h : Bk w g t #[a, b, c, d, e]) :
    w.cell? ⟨g, 0, none⟩ = some a ∧ w.cell? ⟨g, 1, none⟩ = some b ∧ w.cell? ⟨g, 2, none⟩ = some c ∧ w.cell? ⟨g, 3, none⟩ = some d ∧ w.cell? ⟨g, 4, none⟩ = some e :=
  ⟨h.cell 0, h.cell 1, h.cell 2, h.cell 3, h.cell 4⟩
theorem Bk.four {w : World} {g : Nat} {t : TypeId} {a b c d : Value} (h : Bk w g t #[a, b, c, d]) :
    w.cell? ⟨g, 0, none⟩ = some a ∧ w.cell? ⟨g, 1, none⟩ = some b ∧ w.cell? ⟨g, 2, none⟩ = some c ∧ w.cell? ⟨g, 3, none⟩ = some d :=
  ⟨h.cell 0, h.cell 1, h.cell 2, h.cell 3⟩
theorem Bk.rowOff {w : World} {g g' : Nat} {t : TypeId} {cs : Array Value} (h : Bk w g t cs) (hp : g ≠ g') (xs : Array Value) : Bk (w.setRow g' xs) g t cs := (setRow_other w g' g xs hp).trans h
theorem Own1.off {w : World} {g m : Nat} {t : TypeId} {f : Nat → Value} (h : Own1 w g t m f) {p : Addr} (hp : g ≠ p.block) (u : Value) : Own1 (w.setCell p u) g t m f := by
  obtain ⟨cs, h1, h2, h3⟩ := h
  exact ⟨cs, h1.off hp u, h2, h3⟩
theorem Own1.rowOff {w : World} {g g' m : Nat} {t : TypeId} {f : Nat → Value} (h : Own1 w g t m f) (hp : g ≠ g') (xs : Array Value) : Own1 (w.setRow g' xs) g t m f := by
  obtain ⟨cs, h1, h2, h3⟩ := h
  exact ⟨cs, h1.rowOff hp xs, h2, h3⟩
theorem Own1.drew {w : World} {g m : Nat} {t : TypeId} {f : Nat → Value} (h : Own1 w g t m f) : Own1 w.drew g t m f := h
theorem Own1.alloc {w : World} {g m : Nat} {t : TypeId} {f : Nat → Value} (h : Own1 w g t m f) (o : Obj) : Own1 (w.alloc o) g t m f := by
  obtain ⟨cs, h1, h2, h3⟩ := h
  exact ⟨cs, h1.alloc o, h2, h3⟩
end Go.Proofs.Ytfckhpkebdpkbaa

/- Memory words of my own: a slice of structs as a function of the index ('Rs'), rows of structs of the call's own ('OwnS'). -/
namespace Go.Proofs.Ytfckhpkebdpkbaa
open Go.RowKit

theorem rangeAt_below {w w' : World} {B g o : Nat} {cs : List Value} (h : w.rangeAt g o cs) (hb : Below B w w') (hg : g < B) : w'.rangeAt g o cs := fun j v hv =>
  (hb.cell (p := ⟨g, o + j, none⟩) hg).trans (h j v hv)
theorem there_below {w w' : World} {B g o n : Nat} (h : w.there g o n) (hb : Below B w w') (hg : g < B) : w'.there g o n := fun j hj => by
  obtain ⟨h1, h2⟩ := h j hj
  exact ⟨by rw [hb.cell (p := ⟨g, o + j, none⟩) hg]; exact h1, by rw [hb.frozen (p := ⟨g, o + j, none⟩) hg]; exact h2⟩
/-- The slice with head A and n elements of sz cells reads, element by element, as el; it lies below block B. -/
def Rs (w : World) (B : Nat) (A : Option Addr) (n sz : Nat) (el : Nat → List Value) : Prop :=
  0 < n → ∃ g o, A = some ⟨g, o, none⟩ ∧ g < B ∧ ∀ i, i < n → w.rangeAt g (o + i * sz) (el i)
theorem Rs.below {w w' : World} {B n sz : Nat} {A : Option Addr} {el : Nat → List Value} (h : Rs w B A n sz el) (hb : Below B w w') : Rs w' B A n sz el := fun hm => by
  obtain ⟨g, o, ha, hg, hc⟩ := h hm
  exact ⟨g, o, ha, hg, fun i hi => rangeAt_below (hc i hi) hb hg⟩
theorem Rs.more {w : World} {B B' n sz : Nat} {A : Option Addr} {el : Nat → List Value} (h : Rs w B A n sz el) (hB : B ≤ B') : Rs w B' A n sz el := fun hm => by
  obtain ⟨g, o, ha, hg, hc⟩ := h hm
  exact ⟨g, o, ha, by omega, hc⟩
theorem Rs.at_ {W w : World} {n sz : Nat} {A : Option Addr} {el : Nat → List Value} (h : Rs W W.heap.size A n sz el) (hb : Below W.heap.size W w) : Rs w w.heap.size A n sz el :=
  (h.below hb).more hb.size
/-- Block g holds n elements of sz cells that read as el, none frozen, and is there. -/
def OwnS (w : World) (g n sz : Nat) (el : Nat → List Value) : Prop := g < w.heap.size ∧ (∀ i, i < n → w.rangeAt g (i * sz) (el i)) ∧ w.there g 0 (n * sz)
theorem OwnS.rs {w : World} {g n sz : Nat} {el : Nat → List Value} (h : OwnS w g n sz el) : Rs w w.heap.size (some ⟨g, 0, none⟩) n sz el := fun _ =>
  ⟨g, 0, rfl, h.1, fun i hi => by rw [Nat.zero_add]; exact h.2.1 i hi⟩
theorem OwnS.below {w w' : World} {g n sz B : Nat} {el : Nat → List Value} (h : OwnS w g n sz el) (hb : Below B w w') (hg : g < B) : OwnS w' g n sz el :=
  ⟨Nat.lt_of_lt_of_le h.1 hb.size, fun i hi => rangeAt_below (h.2.1 i hi) hb hg, there_below h.2.2 hb hg⟩
theorem size_setCells (b : Nat) : ∀ (vs : List Value) (o : Nat) (w : World), (w.setCells b o vs).heap.size = w.heap.size
  | [], _, _ => rfl
  | v :: r, o, w => by
    rw [World.setCells, size_setCells b r (o + 1)]
    simp
theorem below_setCells {B : Nat} {a : World} (b : Nat) (hb : B ≤ b) : ∀ (vs : List Value) (o : Nat) (w : World), Below B a w → Below B a (w.setCells b o vs)
  | [], _, _, h => h
  | v :: r, o, w, h => by
    rw [World.setCells]
    exact below_setCells b hb r (o + 1) _ (h.setCell hb v)
/-- What a loop that fills such a block has done when k elements are there. -/
def Fill (w : World) (g n sz k : Nat) (el : Nat → List Value) : Prop := g < w.heap.size ∧ (∀ i, i < k → w.rangeAt g (i * sz) (el i)) ∧ w.there g 0 (n * sz)
theorem Fill.done {w : World} {g n sz : Nat} {el : Nat → List Value} (h : Fill w g n sz n el) : OwnS w g n sz el := h
theorem Fill.below {w w' : World} {g n sz k B : Nat} {el : Nat → List Value} (h : Fill w g n sz k el) (hb : Below B w w') (hg : g < B) : Fill w' g n sz k el :=
  ⟨Nat.lt_of_lt_of_le h.1 hb.size, fun i hi => rangeAt_below (h.2.1 i hi) hb hg, there_below h.2.2 hb hg⟩
theorem mul_succ_le {k n sz : Nat} (h : k < n) : k * sz + sz ≤ n * sz := by
  have := Nat.mul_le_mul_right sz h
  rw [Nat.succ_mul] at this
  exact this
theorem Fill.there_at {w : World} {g n sz k : Nat} {el : Nat → List Value} (h : Fill w g n sz k el) (hk : k < n) : w.there g (k * sz) sz := fun j hj => by
  have := h.2.2 (k * sz + j) (by have := mul_succ_le (sz := sz) hk; omega)
  rw [Nat.zero_add] at this
  exact this
theorem Fill.step {w : World} {g n sz k : Nat} {el : Nat → List Value} (h : Fill w g n sz k el) (hk : k < n) (hl : ∀ i, (el i).length = sz) : Fill (w.setCells g (k * sz) (el k)) g n sz (k + 1) el := by
  refine ⟨by rw [size_setCells]; exact h.1, fun i hi => ?_, World.there_setCells h.2.2 _ _ _⟩
  by_cases e : i = k
  · subst e
    exact World.rangeAt_setCells_same w g (i * sz) (el i) (by rw [hl i]; exact h.there_at hk)
  · have := mul_succ_le (sz := sz) (show i < k by omega)
    exact World.rangeAt_setCells_apart (h.2.1 i (by omega)) g (k * sz) (el k) (.inr (.inl (by rw [hl i]; exact this)))
/-- A new block of n * sz cells. -/
theorem Fill.new {w : World} {t : TypeId} {cs : Array Value} {n sz : Nat} (el : Nat → List Value) (hs : cs.size = n * sz) : Fill (w.alloc (.cells cs t)) w.heap.size n sz 0 el := by
  have hb := Bk.new w t cs
  refine ⟨by simp, fun i hi => by omega, fun j hj => ?_⟩
  rw [Nat.zero_add, hb.cell j, hb.free j, Array.getElem?_eq_getElem (by omega)]
  exact ⟨rfl, rfl⟩
end Go.Proofs.Ytfckhpkebdpkbaa

/- Memory words of my own: what changes only the blocks of a set ('Kept'); own slices that may be written ('OwnR', 'OwnV'). -/
namespace Go.Proofs.Ytfckhpkebdpkbaa
open Go.RowKit

/-- Only blocks of p, and new ones, may differ. -/
structure Kept (p : Nat → Prop) (w w' : World) : Prop where
  os : w'.os = w.os
  tape : w'.tape = w.tape
  output : w'.output = w.output
  size : w.heap.size ≤ w'.heap.size
  block : ∀ k, k < w.heap.size → ¬ p k → w'.heap[k]? = w.heap[k]?
theorem Kept.refl (p : Nat → Prop) (w : World) : Kept p w w := ⟨rfl, rfl, rfl, Nat.le_refl _, fun _ _ _ => rfl⟩
theorem Kept.trans {p : Nat → Prop} {a b c : World} (h : Kept p a b) (k : Kept p b c) : Kept p a c :=
  ⟨k.os.trans h.os, k.tape.trans h.tape, k.output.trans h.output, Nat.le_trans h.size k.size, fun i hi hp => (k.block i (Nat.lt_of_lt_of_le hi h.size) hp).trans (h.block i hi hp)⟩
theorem Kept.mono {p q : Nat → Prop} {a b : World} (h : Kept p a b) (hp : ∀ k, k < a.heap.size → p k → q k) : Kept q a b :=
  ⟨h.os, h.tape, h.output, h.size, fun i hi hq => h.block i hi (fun hh => hq (hp i hi hh))⟩
theorem Kept.below {p : Nat → Prop} {B : Nat} {a b : World} (h : Kept p a b) (hB : B ≤ a.heap.size) (hp : ∀ k, p k → B ≤ k) : Below B a b :=
  ⟨h.os, h.tape, h.output, h.size, fun i hi => h.block i (by omega) (fun hh => by have := hp i hh; omega)⟩
theorem Kept.of {p : Nat → Prop} {a b : World} (h : Below a.heap.size a b) : Kept p a b := ⟨h.os, h.tape, h.output, h.size, fun i hi _ => h.block i hi⟩
theorem Kept.setCell {p : Nat → Prop} {a b : World} (h : Kept p a b) {q : Addr} (hq : p q.block) (v : Value) : Kept p a (b.setCell q v) :=
  ⟨h.os, h.tape, h.output, by simpa using h.size, fun i hi hp => (Below.heap_setCell b q v i (fun e => hp (e ▸ hq))).trans (h.block i hi hp)⟩
theorem Kept.alloc {p : Nat → Prop} {a b : World} (h : Kept p a b) (o : Obj) : Kept p a (b.alloc o) :=
  h.trans (Kept.of ((Below.refl _ b).alloc (Nat.le_refl _) o))
theorem Kept.drewN {p : Nat → Prop} {a b : World} (h : Kept p a b) (n : Nat) : Kept p a (b.drewN n) := ⟨h.os, h.tape, h.output, h.size, h.block⟩
theorem Kept.drew {p : Nat → Prop} {a b : World} (h : Kept p a b) : Kept p a b.drew := ⟨h.os, h.tape, h.output, h.size, h.block⟩
theorem Bk.kept {p : Nat → Prop} {w w' : World} {g : Nat} {t : TypeId} {cs : Array Value} (h : Bk w g t cs) (hk : Kept p w w') (hp : ¬ p g) : Bk w' g t cs := (hk.block g h.lt hp).trans h
theorem cell_kept {p : Nat → Prop} {w w' : World} {a : Addr} {v : Value} (h : w.cell? a = some v) (hk : Kept p w w') (hp : ¬ p a.block) : w'.cell? a = some v :=
  (World.cell?_of_block (hk.block _ (World.block_lt_of_cell? w a h) hp)).trans h

/-- The blocks of a slice's head. -/
def hd (A : Option Addr) (k : Nat) : Prop := ∃ o, A = some ⟨k, o, none⟩
/-- Block g has n cells that read as f and are not frozen. -/
def OwnV (w : World) (g n : Nat) (f : Nat → Value) : Prop := g < w.heap.size ∧ (∀ i, i < n → w.cell? ⟨g, i, none⟩ = some (f i)) ∧ ∀ i, i < n → w.frozen? ⟨g, i, none⟩ = false
theorem Own1.ownV {w : World} {g n : Nat} {t : TypeId} {f : Nat → Value} (h : Own1 w g t n f) : OwnV w g n f := by
  obtain ⟨cs, hb, hs, hc⟩ := h
  exact ⟨hb.lt, fun i hi => by rw [hb.cell, hc i hi], fun i _ => hb.free i⟩
theorem OwnV.same {w w' : World} {g n : Nat} {f : Nat → Value} (h : OwnV w g n f) (hh : w'.heap[g]? = w.heap[g]?) (hz : w.heap.size ≤ w'.heap.size) : OwnV w' g n f :=
  ⟨Nat.lt_of_lt_of_le h.1 hz, fun i hi => (World.cell?_of_block (a := ⟨g, i, none⟩) hh).trans (h.2.1 i hi), fun i hi => (World.frozen?_of_block (a := ⟨g, i, none⟩) hh).trans (h.2.2 i hi)⟩
theorem OwnV.congr {w : World} {g n : Nat} {f f' : Nat → Value} (h : OwnV w g n f) (he : ∀ i, i < n → f i = f' i) : OwnV w g n f' :=
  ⟨h.1, fun i hi => by rw [← he i hi]; exact h.2.1 i hi, h.2.2⟩
theorem OwnV.put {w : World} {g n k : Nat} {f : Nat → Value} (h : OwnV w g n f) (hk : k < n) (v : Value) : OwnV (w.setCell ⟨g, k, none⟩ v) g n (fun i => if i = k then v else f i) := by
  refine ⟨by simpa using h.1, fun i hi => ?_, fun i hi => ?_⟩
  · by_cases e : i = k
    · subst e
      simp only [if_pos]
      exact World.cell?_setCell_same _ _ _ (h.2.1 i hi)
    · simp only [if_neg e]
      exact (World.cell?_setCell_other _ _ _ _ (by first | (simp; done) | (simp; omega))).trans (h.2.1 i hi)
  · rw [World.frozen?_setCell]
    exact h.2.2 i hi
/-- A slice of n cells of the call's own: nothing if it is empty. -/
def OwnR (w : World) (B : Nat) (A : Option Addr) (n : Nat) (f : Nat → Value) : Prop := 0 < n → ∃ g, A = some ⟨g, 0, none⟩ ∧ B ≤ g ∧ OwnV w g n f
/-- The same with elements of sz cells. -/
def OwnQ (w : World) (B : Nat) (A : Option Addr) (n sz : Nat) (el : Nat → List Value) : Prop := 0 < n → ∃ g, A = some ⟨g, 0, none⟩ ∧ B ≤ g ∧ OwnS w g n sz el
theorem OwnS.kept {p : Nat → Prop} {w w' : World} {g n sz : Nat} {el : Nat → List Value} (h : OwnS w g n sz el) (hk : Kept p w w') (hp : ¬ p g) : OwnS w' g n sz el := by
  have hh := hk.block g h.1 hp
  exact ⟨Nat.lt_of_lt_of_le h.1 hk.size, fun i hi j v hv => (World.cell?_of_block (a := ⟨g, _, none⟩) hh).trans (h.2.1 i hi j v hv), fun j hj => by
    rw [World.cell?_of_block (a := ⟨g, _, none⟩) hh, World.frozen?_of_block (a := ⟨g, _, none⟩) hh]; exact h.2.2 j hj⟩
theorem OwnV.kept {p : Nat → Prop} {w w' : World} {g n : Nat} {f : Nat → Value} (h : OwnV w g n f) (hk : Kept p w w') (hp : ¬ p g) : OwnV w' g n f := h.same (hk.block g h.1 hp) hk.size
theorem OwnR.kept {p : Nat → Prop} {w w' : World} {B n : Nat} {A : Option Addr} {f : Nat → Value} (h : OwnR w B A n f) (hk : Kept p w w') (hp : 0 < n → ∀ k, B ≤ k → hd A k → ¬ p k) : OwnR w' B A n f := fun hn => by
  obtain ⟨g, ha, hB, ho⟩ := h hn
  exact ⟨g, ha, hB, ho.kept hk (hp hn g hB ⟨0, ha⟩)⟩
theorem OwnQ.kept {p : Nat → Prop} {w w' : World} {B n sz : Nat} {A : Option Addr} {el : Nat → List Value} (h : OwnQ w B A n sz el) (hk : Kept p w w') (hp : 0 < n → ∀ k, B ≤ k → hd A k → ¬ p k) : OwnQ w' B A n sz el := fun hn => by
  obtain ⟨g, ha, hB, ho⟩ := h hn
  exact ⟨g, ha, hB, ho.kept hk (hp hn g hB ⟨0, ha⟩)⟩
theorem OwnR.below {w w' : World} {B B' n : Nat} {A : Option Addr} {f : Nat → Value} (h : OwnR w B A n f) (hb : Below w.heap.size w w') (hB : B' ≤ B) : OwnR w' B' A n f := fun hn => by
  obtain ⟨g, ha, hB1, ho⟩ := h hn
  exact ⟨g, ha, by omega, ho.same (hb.block g ho.1) hb.size⟩
theorem OwnQ.below {w w' : World} {B B' n sz : Nat} {A : Option Addr} {el : Nat → List Value} (h : OwnQ w B A n sz el) (hb : Below w.heap.size w w') (hB : B' ≤ B) : OwnQ w' B' A n sz el := fun hn => by
  obtain ⟨g, ha, hB1, ho⟩ := h hn
  exact ⟨g, ha, by omega, ho.below hb ho.1⟩
theorem OwnQ.more {w : World} {B B' n sz : Nat} {A : Option Addr} {el : Nat → List Value} (h : OwnQ w B A n sz el) (hB : B' ≤ B) : OwnQ w B' A n sz el := fun hn => by
  obtain ⟨g, ha, hB1, ho⟩ := h hn
  exact ⟨g, ha, by omega, ho⟩
theorem OwnR.more {w : World} {B B' n : Nat} {A : Option Addr} {f : Nat → Value} (h : OwnR w B A n f) (hB : B' ≤ B) : OwnR w B' A n f := fun hn => by
  obtain ⟨g, ha, hB1, ho⟩ := h hn
  exact ⟨g, ha, by omega, ho⟩
/-- Writing to a block below the base changes nothing of it. -/
theorem OwnQ.off {w : World} {B n sz : Nat} {A : Option Addr} {el : Nat → List Value} (h : OwnQ w B A n sz el) {p : Addr} (hp : p.block < B) (u : Value) : OwnQ (w.setCell p u) B A n sz el :=
  h.kept (p := fun b => b = p.block) (Kept.setCell (p := fun b => b = p.block) (Kept.refl _ w) (q := p) rfl u) (fun _ k hk _ e => by omega)
theorem OwnR.off {w : World} {B n : Nat} {A : Option Addr} {f : Nat → Value} (h : OwnR w B A n f) {p : Addr} (hp : p.block < B) (u : Value) : OwnR (w.setCell p u) B A n f :=
  h.kept (p := fun b => b = p.block) (Kept.setCell (p := fun b => b = p.block) (Kept.refl _ w) (q := p) rfl u) (fun _ k hk _ e => by omega)
theorem OwnR.rw_ {w : World} {B n : Nat} {A : Option Addr} {f : Nat → Value} (h : OwnR w B A n f) : Rw w w.heap.size A n f := fun hn => by
  obtain ⟨g, ha, hB1, ho⟩ := h hn
  exact ⟨g, 0, ha, ho.1, fun i hi => by rw [Nat.zero_add]; exact ho.2.1 i hi⟩
theorem OwnQ.rs {w : World} {B n sz : Nat} {A : Option Addr} {el : Nat → List Value} (h : OwnQ w B A n sz el) : Rs w w.heap.size A n sz el := fun hn => by
  obtain ⟨g, ha, hB1, ho⟩ := h hn
  exact ⟨g, 0, ha, ho.1, fun i hi => by rw [Nat.zero_add]; exact ho.2.1 i hi⟩
theorem OwnS.there_at {w : World} {g n sz k : Nat} {el : Nat → List Value} (h : OwnS w g n sz el) (hk : k < n) : w.there g (k * sz) sz := fun j hj => by
  have := h.2.2 (k * sz + j) (by have := mul_succ_le (sz := sz) hk; omega)
  rw [Nat.zero_add] at this
  exact this
/-- Element k of such a row gets other cells. -/
theorem OwnS.put {w : World} {g n sz k : Nat} {el : Nat → List Value} (h : OwnS w g n sz el) (hk : k < n) (vs : List Value) (hl : vs.length = sz) (hel : ∀ i, (el i).length = sz) :
    OwnS (w.setCells g (k * sz) vs) g n sz (fun i => if i = k then vs else el i) := by
  refine ⟨by rw [size_setCells]; exact h.1, fun i hi => ?_, World.there_setCells h.2.2 _ _ _⟩
  by_cases e : i = k
  · subst e
    simp only [if_pos]
    exact World.rangeAt_setCells_same w g (i * sz) vs (by rw [hl]; exact OwnS.there_at h hk)
  · simp only [if_neg e]
    rcases Nat.lt_or_gt_of_ne e with h1 | h1
    · have := mul_succ_le (sz := sz) h1
      exact World.rangeAt_setCells_apart (h.2.1 i hi) g (k * sz) vs (.inr (.inl (by rw [hel i]; exact this)))
    · have := mul_succ_le (sz := sz) h1
      exact World.rangeAt_setCells_apart (h.2.1 i hi) g (k * sz) vs (.inr (.inr (by rw [hl]; exact this)))
theorem OwnS.congr {w : World} {g n sz : Nat} {el el' : Nat → List Value} (h : OwnS w g n sz el) (he : ∀ i, i < n → el i = el' i) : OwnS w g n sz el' :=
  ⟨h.1, fun i hi => by rw [← he i hi]; exact h.2.1 i hi, h.2.2⟩
theorem OwnS.cell {w : World} {g n sz : Nat} {el : Nat → List Value} (h : OwnS w g n sz el) (k : Nat) (hk : k < n) (j : Nat) (v : Value) (hv : (el k)[j]? = some v) : w.cell? ⟨g, k * sz + j, none⟩ = some v := h.2.1 k hk j v hv
theorem OwnS.free {w : World} {g n sz : Nat} {el : Nat → List Value} (h : OwnS w g n sz el) (k : Nat) (hk : k < n) (j : Nat) (hj : j < sz) : w.frozen? ⟨g, k * sz + j, none⟩ = false := by
  have := h.2.2 (k * sz + j) (by have := mul_succ_le (sz := sz) hk; omega)
  rw [Nat.zero_add] at this
  exact this.2
/-- The cells of n elements, one behind the other. -/
def flat (n : Nat) (el : Nat → List Value) : List Value := (List.range n).flatMap el
theorem flat_succ (n : Nat) (el : Nat → List Value) : flat (n + 1) el = flat n el ++ el n := by simp [flat, List.range_succ]
theorem flat_length (n sz : Nat) (el : Nat → List Value) (hel : ∀ i, (el i).length = sz) : (flat n el).length = n * sz := by
  induction n with
  | zero => simp [flat]
  | succ n ih => rw [flat_succ, List.length_append, ih, hel, Nat.succ_mul]
theorem flat_get (n sz : Nat) (el : Nat → List Value) (hel : ∀ i, (el i).length = sz) (i j : Nat) (hi : i < n) (hj : j < sz) : (flat n el)[i * sz + j]? = (el i)[j]? := by
  induction n with
  | zero => omega
  | succ n ih =>
    rw [flat_succ]
    have hl := flat_length n sz el hel
    by_cases e : i = n
    · subst e
      rw [List.getElem?_append_right (by omega), hl]
      congr 1
      omega
    · have := mul_succ_le (sz := sz) (show i < n by omega)
      rw [List.getElem?_append_left (by omega)]
      exact ih (by omega)
theorem owns_slice {w : World} {B sz m : Nat} {t : TypeId} {lv : Value} {L : List Value} (h : w.ownsRow B t sz lv m L) : (lv = .slice none 0 0 ∧ m = 0) ∨ ∃ b cap, lv = .slice (some ⟨b, 0, none⟩) m cap ∧ m ≤ cap := by
  obtain ⟨_, h | ⟨g, cap', cur, hv, hB, hg, h1, h2, h3, h4⟩⟩ := h
  · exact .inl h
  · exact .inr ⟨g, cap', hv, h1⟩
/-- A row that has grown by append: a slice of the call's own. -/
theorem owns_ownQ {w : World} {B sz m : Nat} {t : TypeId} {lv : Value} {el : Nat → List Value} (hel : ∀ i, (el i).length = sz) (h : w.ownsRow B t sz lv m (flat m el)) :
    ∃ A c, lv = .slice A m c ∧ OwnQ w B A m sz el := by
  obtain ⟨_, ⟨rfl, rfl⟩ | ⟨g, cap', cur, hv, hB, hg, h1, h2, h3, h4⟩⟩ := h
  · exact ⟨none, 0, rfl, fun h => absurd h (by omega)⟩
  · refine ⟨_, cap', hv, fun hm => ⟨g, rfl, hB, Bk.lt hg, fun i hi j v hv => ?_, fun j hj => ?_⟩⟩
    · have hj : j < sz := by
        have := (List.getElem?_eq_some_iff.1 hv).1
        rw [hel i] at this
        exact this
      have h5 := flat_get m sz el hel i j hi hj
      rw [hv, ← h4] at h5
      have h6 := mul_succ_le (sz := sz) hi
      rw [List.getElem?_take_of_lt (by omega)] at h5
      rw [Bk.cell hg]
      simpa using h5
    · have h7 := Nat.mul_le_mul_right sz h1
      rw [Nat.zero_add, Bk.cell hg, Bk.free hg, Array.getElem?_eq_getElem (by omega)]
      exact ⟨rfl, rfl⟩
end Go.Proofs.Ytfckhpkebdpkbaa

/- Marks: ints and bools of the call's own are marked, and the marks are held. -/
namespace Go.Proofs.Ytfckhpkebdpkbaa
open Go.RowKit
theorem ret_intM {k : IntKind} {a b : Int} (h : a = b) : Ending.returned (.int k a) = .returned (.int k b) := by rw [h]
theorem markStep {α : Type} {F el : Nat → α} {j i : Nat} {v : α} (hv : v = F j) : (if i = j then v else if i < j then F i else el i) = if i < j + 1 then F i else el i := by
  by_cases e : i = j
  · subst e; simp [hv]
  · simp only [if_neg e]
    by_cases h : i < j
    · rw [if_pos h, if_pos (by omega)]
    · rw [if_neg h, if_neg (by omega)]
theorem len4 {α : Type} {l : List α} (h : l.length = 4) : ∃ a b c d, l = [a, b, c, d] := by
  match l, h with
  | [a, b, c, d], _ => exact ⟨a, b, c, d, rfl⟩
theorem len5 {α : Type} {l : List α} (h : l.length = 5) : ∃ a b c d e, l = [a, b, c, d, e] := by
  match l, h with
  | [a, b, c, d, e], _ => exact ⟨a, b, c, d, e, rfl⟩
theorem len9 {α : Type} {l : List α} (h : l.length = 9) : ∃ a b c d e f g i j, l = [a, b, c, d, e, f, g, i, j] := by
  match l, h with
  | [a, b, c, d, e, f, g, i, j], _ => exact ⟨a, b, c, d, e, f, g, i, j, rfl⟩
theorem Kept.setCells {p : Nat → Prop} {a : World} {g : Nat} (hg : p g) : ∀ (vs : List Value) (o : Nat) {b : World}, Kept p a b → Kept p a (b.setCells g o vs)
  | [], _, _, h => h
  | v :: r, o, _, h => Kept.setCells hg r (o + 1) (h.setCell (q := ⟨g, o, none⟩) hg v)

def markVIntS (kk : Int) : Value := .int .i64 kk
set_option maxHeartbeats 400000 in
theorem markIntS_any (A : Option Addr) (n c B : Nat) (k : Int) (h0 : 0 ≤ k) (hk : k ≤ 1000000000) (hn : n ≤ 1048576) (f : Nat → Value) (w : World) (hA : OwnR w B A n f) :
    Calls Try.prog 15 #[.slice A n c, .int .i64 k] w fun e w' => e = .returned (.int .i64 (k + n)) ∧ Kept (fun b => 0 < n ∧ B ≤ b ∧ hd A b) w w' ∧ OwnR w' B A n (fun i => markVIntS (k + i)) := by
  rcases Nat.eq_zero_or_pos n with h1 | h1
  · subst h1
    go_enter Try.func15, Try.ntmps15
    go_wp2
    refine wp_loop_rounds 1 ?_
    rw [rounds_succ]
    go_wp2
    go_ret
    exact ⟨ret_intM (by omega), Kept.refl _ _, fun h => absurd h (by omega)⟩
  · obtain ⟨g, rfl, hB, ho⟩ := hA h1
    have HO := Lib.hid ho
    clear hA ho
    go_enter Try.func15, Try.ntmps15
    go_wp2
    go_loopw [1, 5] (fun t i wr => ∃ j : Nat, j ≤ n ∧ i = .int .i64 j ∧ t = .int .i64 (k + j) ∧ Hid (OwnV wr g n (fun i => if i < j then markVIntS (k + i) else f i)) ∧ Hid (Kept (fun b => 0 < n ∧ B ≤ b ∧ hd (some ⟨g, 0, none⟩) b) w wr)) (fun _ i _ => n - (intOf i).toNat)
    case atStart => exact ⟨0, Nat.zero_le _, rfl, by go_num, HO.out.congr (fun i _ => by simp), Kept.refl _ _⟩
    case round =>
      obtain ⟨j, hj, rfl, rfl, HV, HK⟩ := hrel
      by_cases hlt : j < n
      · have d0 := HV.out.2.1 j hlt
        have d1 := HV.out.2.2 j hlt
        obtain ⟨kk, hkk⟩ : ∃ kk : Int, kk = k + j := ⟨_, rfl⟩
        have hk0 : 0 ≤ kk := by omega
        have hk1 : kk ≤ 2000000000 := by omega
        have HN : Hid (OwnV (wr.setCell ⟨g, j, none⟩ (markVIntS kk)) g n (fun i => if i < j + 1 then markVIntS (k + i) else f i)) := (HV.out.put hlt _).congr (fun i _ => markStep (F := fun i => markVIntS (k + i)) (by rw [hkk]))
        have HK2 : Hid (Kept (fun b => 0 < n ∧ B ≤ b ∧ hd (some ⟨g, 0, none⟩) b) w (wr.setCell ⟨g, j, none⟩ (markVIntS kk))) := HK.out.setCell (q := ⟨g, j, none⟩) ⟨h1, hB, 0, rfl⟩ _
        have HE := Lib.hid hkk
        rw [← hkk]
        clear hkk HV HK HO
        go_wp2
        go_roundw
        case rel => exact ⟨j + 1, by omega, by go_num, by rw [HE.out]; go_num, HN, HK2⟩
        case measure => simp [intOf]; omega
      · obtain rfl : j = n := by omega
        go_wp2
        go_ret
        exact ⟨rfl, HK.out, fun _ => ⟨g, rfl, hB, HV.out.congr (fun i hi => by simp [hi])⟩⟩
set_option maxHeartbeats 400000 in
theorem heldIntS_any (A : Option Addr) (n c : Nat) (k : Int) (h0 : 0 ≤ k) (hk : k ≤ 1000000000) (hn : n ≤ 1048576) (w W : World) (hb : Below W.heap.size W w) (hA : Rw W W.heap.size A n (fun i => markVIntS (k + i))) :
    Calls Try.prog 17 #[.slice A n c, .int .i64 k] w fun e w' => e = .returned (.int .i64 (k + n)) ∧ w = w' := by
  rcases Nat.eq_zero_or_pos n with h1 | h1
  · subst h1
    go_enter Try.func17, Try.ntmps17
    go_wp2
    refine wp_loop_rounds 1 ?_
    rw [rounds_succ]
    go_wp2
    go_ret
    exact ⟨ret_intM (by omega), rfl⟩
  · obtain ⟨ga, oa, rfl, hga, hca⟩ := hA.at_ hb h1
    have HC := Lib.hid hca
    clear hca hA
    go_enter Try.func17, Try.ntmps17
    go_wp2
    go_loop [1, 5] (fun t i => ∃ j : Nat, j ≤ n ∧ i = .int .i64 j ∧ t = .int .i64 (k + j)) (fun _ i => n - (intOf i).toNat)
    case atStart => exact ⟨0, Nat.zero_le _, rfl, by go_num⟩
    case round =>
      obtain ⟨j, hj, rfl, rfl⟩ := hrel
      by_cases hlt : j < n
      · have d0 := HC.out j hlt
        obtain ⟨kk, hkk⟩ : ∃ kk : Int, kk = k + j := ⟨_, rfl⟩
        have hk0 : 0 ≤ kk := by omega
        have hk1 : kk ≤ 2000000000 := by omega
        have HE := Lib.hid hkk
        rw [← hkk] at d0 ⊢
        unfold markVIntS at d0
        clear hkk HC
        go_wp2
        go_round
        case rel => exact ⟨j + 1, by omega, by go_num, by rw [HE.out]; go_num⟩
        case measure => simp [intOf]; omega
      · obtain rfl : j = n := by omega
        go_wp2
        go_ret
        exact ⟨rfl, rfl⟩

def markVBoolS (kk : Int) : Value := .bool (kk % 3 == 0)
set_option maxHeartbeats 400000 in
theorem markBoolS_any (A : Option Addr) (n c B : Nat) (k : Int) (h0 : 0 ≤ k) (hk : k ≤ 1000000000) (hn : n ≤ 1048576) (f : Nat → Value) (w : World) (hA : OwnR w B A n f) :
    Calls Try.prog 35 #[.slice A n c, .int .i64 k] w fun e w' => e = .returned (.int .i64 (k + n)) ∧ Kept (fun b => 0 < n ∧ B ≤ b ∧ hd A b) w w' ∧ OwnR w' B A n (fun i => markVBoolS (k + i)) := by
  rcases Nat.eq_zero_or_pos n with h1 | h1
  · subst h1
    go_enter Try.func35, Try.ntmps35
    go_wp2
    refine wp_loop_rounds 1 ?_
    rw [rounds_succ]
    go_wp2
    go_ret
    exact ⟨ret_intM (by omega), Kept.refl _ _, fun h => absurd h (by omega)⟩
  · obtain ⟨g, rfl, hB, ho⟩ := hA h1
    have HO := Lib.hid ho
    clear hA ho
    go_enter Try.func35, Try.ntmps35
    go_wp2
    go_loopw [1, 5] (fun t i wr => ∃ j : Nat, j ≤ n ∧ i = .int .i64 j ∧ t = .int .i64 (k + j) ∧ Hid (OwnV wr g n (fun i => if i < j then markVBoolS (k + i) else f i)) ∧ Hid (Kept (fun b => 0 < n ∧ B ≤ b ∧ hd (some ⟨g, 0, none⟩) b) w wr)) (fun _ i _ => n - (intOf i).toNat)
    case atStart => exact ⟨0, Nat.zero_le _, rfl, by go_num, HO.out.congr (fun i _ => by simp), Kept.refl _ _⟩
    case round =>
      obtain ⟨j, hj, rfl, rfl, HV, HK⟩ := hrel
      by_cases hlt : j < n
      · have d0 := HV.out.2.1 j hlt
        have d1 := HV.out.2.2 j hlt
        obtain ⟨kk, hkk⟩ : ∃ kk : Int, kk = k + j := ⟨_, rfl⟩
        have hk0 : 0 ≤ kk := by omega
        have hk1 : kk ≤ 2000000000 := by omega
        have HN : Hid (OwnV (wr.setCell ⟨g, j, none⟩ (markVBoolS kk)) g n (fun i => if i < j + 1 then markVBoolS (k + i) else f i)) := (HV.out.put hlt _).congr (fun i _ => markStep (F := fun i => markVBoolS (k + i)) (by rw [hkk]))
        have HK2 : Hid (Kept (fun b => 0 < n ∧ B ≤ b ∧ hd (some ⟨g, 0, none⟩) b) w (wr.setCell ⟨g, j, none⟩ (markVBoolS kk))) := HK.out.setCell (q := ⟨g, j, none⟩) ⟨h1, hB, 0, rfl⟩ _
        have HE := Lib.hid hkk
        rw [← hkk]
        clear hkk HV HK HO
        go_wp2
        go_roundw
        case rel => exact ⟨j + 1, by omega, by go_num, by rw [HE.out]; go_num, HN, HK2⟩
        case measure => simp [intOf]; omega
      · obtain rfl : j = n := by omega
        go_wp2
        go_ret
        exact ⟨rfl, HK.out, fun _ => ⟨g, rfl, hB, HV.out.congr (fun i hi => by simp [hi])⟩⟩
set_option maxHeartbeats 400000 in
theorem heldBoolS_any (A : Option Addr) (n c : Nat) (k : Int) (h0 : 0 ≤ k) (hk : k ≤ 1000000000) (hn : n ≤ 1048576) (w W : World) (hb : Below W.heap.size W w) (hA : Rw W W.heap.size A n (fun i => markVBoolS (k + i))) :
    Calls Try.prog 36 #[.slice A n c, .int .i64 k] w fun e w' => e = .returned (.int .i64 (k + n)) ∧ w = w' := by
  rcases Nat.eq_zero_or_pos n with h1 | h1
  · subst h1
    go_enter Try.func36, Try.ntmps36
    go_wp2
    refine wp_loop_rounds 1 ?_
    rw [rounds_succ]
    go_wp2
    go_ret
    exact ⟨ret_intM (by omega), rfl⟩
  · obtain ⟨ga, oa, rfl, hga, hca⟩ := hA.at_ hb h1
    have HC := Lib.hid hca
    clear hca hA
    go_enter Try.func36, Try.ntmps36
    go_wp2
    go_loop [1, 5] (fun t i => ∃ j : Nat, j ≤ n ∧ i = .int .i64 j ∧ t = .int .i64 (k + j)) (fun _ i => n - (intOf i).toNat)
    case atStart => exact ⟨0, Nat.zero_le _, rfl, by go_num⟩
    case round =>
      obtain ⟨j, hj, rfl, rfl⟩ := hrel
      by_cases hlt : j < n
      · have d0 := HC.out j hlt
        obtain ⟨kk, hkk⟩ : ∃ kk : Int, kk = k + j := ⟨_, rfl⟩
        have hk0 : 0 ≤ kk := by omega
        have hk1 : kk ≤ 2000000000 := by omega
        have HE := Lib.hid hkk
        rw [← hkk] at d0 ⊢
        unfold markVBoolS at d0
        clear hkk HC
        go_wp2
        go_round
        case rel => exact ⟨j + 1, by omega, by go_num, by rw [HE.out]; go_num⟩
        case measure => simp [intOf]; omega
      · obtain rfl : j = n := by omega
        go_wp2
        go_ret
        exact ⟨rfl, rfl⟩
end Go.Proofs.Ytfckhpkebdpkbaa

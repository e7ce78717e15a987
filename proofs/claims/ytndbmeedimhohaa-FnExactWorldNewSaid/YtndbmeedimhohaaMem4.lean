/- Memory words of my own: what changes only the blocks of a set ('Kept'); own slices that may be written ('OwnR', 'OwnV'). -/
import Derived.Test.YtndbmeedimhohaaMem3
namespace Go.Proofs.Ytndbmeedimhohaa
open Go.RowKit

/-- Only blocks of p, and new ones, may differ. -/
structure Kept (p : Nat → Prop) (w w' : World) : Prop where
  os : w'.os = w.os
  tape : w'.tape = w.tape
  output : w'.output = w.output
  size : w.heap.size ≤ w'.heap.size
  block : ∀ k, k < w.heap.size → ¬ p k → w'.heap[k]? = w.heap[k]?
theorem Kept.refl (p : Nat → Prop) (w : World) : Kept p w w := ⟨rfl, rfl, rfl, Nat.le_refl _, fun _ _ _ => rfl⟩
theorem Kept.trans {p : Nat → Prop} {a b c : World} (h : Kept p a b) (k : Kept p b c) : Kept p a c :=
  ⟨k.os.trans h.os, k.tape.trans h.tape, k.output.trans h.output, Nat.le_trans h.size k.size, fun i hi hp => (k.block i (Nat.lt_of_lt_of_le hi h.size) hp).trans (h.block i hi hp)⟩
theorem Kept.mono {p q : Nat → Prop} {a b : World} (h : Kept p a b) (hp : ∀ k, k < a.heap.size → p k → q k) : Kept q a b :=
  ⟨h.os, h.tape, h.output, h.size, fun i hi hq => h.block i hi (fun hh => hq (hp i hi hh))⟩
theorem Kept.below {p : Nat → Prop} {B : Nat} {a b : World} (h : Kept p a b) (hB : B ≤ a.heap.size) (hp : ∀ k, p k → B ≤ k) : Below B a b :=
  ⟨h.os, h.tape, h.output, h.size, fun i hi => h.block i (by omega) (fun hh => by have := hp i hh; omega)⟩
theorem Kept.of {p : Nat → Prop} {a b : World} (h : Below a.heap.size a b) : Kept p a b := ⟨h.os, h.tape, h.output, h.size, fun i hi _ => h.block i hi⟩
theorem Kept.setCell {p : Nat → Prop} {a b : World} (h : Kept p a b) {q : Addr} (hq : p q.block) (v : Value) : Kept p a (b.setCell q v) :=
  ⟨h.os, h.tape, h.output, by simpa using h.size, fun i hi hp => (Below.heap_setCell b q v i (fun e => hp (e ▸ hq))).trans (h.block i hi hp)⟩
theorem Kept.alloc {p : Nat → Prop} {a b : World} (h : Kept p a b) (o : Obj) : Kept p a (b.alloc o) :=
  h.trans (Kept.of ((Below.refl _ b).alloc (Nat.le_refl _) o))
theorem Kept.drewN {p : Nat → Prop} {a b : World} (h : Kept p a b) (n : Nat) : Kept p a (b.drewN n) := ⟨h.os, h.tape, h.output, h.size, h.block⟩
theorem Kept.drew {p : Nat → Prop} {a b : World} (h : Kept p a b) : Kept p a b.drew := ⟨h.os, h.tape, h.output, h.size, h.block⟩
theorem Bk.kept {p : Nat → Prop} {w w' : World} {g : Nat} {t : TypeId} {cs : Array Value} (h : Bk w g t cs) (hk : Kept p w w') (hp : ¬ p g) : Bk w' g t cs := (hk.block g h.lt hp).trans h
theorem cell_kept {p : Nat → Prop} {w w' : World} {a : Addr} {v : Value} (h : w.cell? a = some v) (hk : Kept p w w') (hp : ¬ p a.block) : w'.cell? a = some v :=
  (World.cell?_of_block (hk.block _ (World.block_lt_of_cell? w a h) hp)).trans h

/-- The blocks of a slice's head. -/
def hd (A : Option Addr) (k : Nat) : Prop := ∃ o, A = some ⟨k, o, none⟩
/-- Block g has n cells that read as f and are not frozen. -/
def OwnV (w : World) (g n : Nat) (f : Nat → Value) : Prop := g < w.heap.size ∧ (∀ i, i < n → w.cell? ⟨g, i, none⟩ = some (f i)) ∧ ∀ i, i < n → w.frozen? ⟨g, i, none⟩ = false
theorem Own1.ownV {w : World} {g n : Nat} {t : TypeId} {f : Nat → Value} (h : Own1 w g t n f) : OwnV w g n f := by
  obtain ⟨cs, hb, hs, hc⟩ := h
  exact ⟨hb.lt, fun i hi => by rw [hb.cell, hc i hi], fun i _ => hb.free i⟩
theorem OwnV.same {w w' : World} {g n : Nat} {f : Nat → Value} (h : OwnV w g n f) (hh : w'.heap[g]? = w.heap[g]?) (hz : w.heap.size ≤ w'.heap.size) : OwnV w' g n f :=
  ⟨Nat.lt_of_lt_of_le h.1 hz, fun i hi => (World.cell?_of_block (a := ⟨g, i, none⟩) hh).trans (h.2.1 i hi), fun i hi => (World.frozen?_of_block (a := ⟨g, i, none⟩) hh).trans (h.2.2 i hi)⟩
theorem OwnV.congr {w : World} {g n : Nat} {f f' : Nat → Value} (h : OwnV w g n f) (he : ∀ i, i < n → f i = f' i) : OwnV w g n f' :=
  ⟨h.1, fun i hi => by rw [← he i hi]; exact h.2.1 i hi, h.2.2⟩
theorem OwnV.put {w : World} {g n k : Nat} {f : Nat → Value} (h : OwnV w g n f) (hk : k < n) (v : Value) : OwnV (w.setCell ⟨g, k, none⟩ v) g n (fun i => if i = k then v else f i) := by
  refine ⟨by simpa using h.1, fun i hi => ?_, fun i hi => ?_⟩
  · by_cases e : i = k
    · subst e
      simp only [if_pos]
      exact World.cell?_setCell_same _ _ _ (h.2.1 i hi)
    · simp only [if_neg e]
      exact (World.cell?_setCell_other _ _ _ _ (by first | (simp; done) | (simp; omega))).trans (h.2.1 i hi)
  · rw [World.frozen?_setCell]
    exact h.2.2 i hi
/-- A slice of n cells of the call's own: nothing if it is empty. -/
def OwnR (w : World) (B : Nat) (A : Option Addr) (n : Nat) (f : Nat → Value) : Prop := 0 < n → ∃ g, A = some ⟨g, 0, none⟩ ∧ B ≤ g ∧ OwnV w g n f
/-- The same with elements of sz cells. -/
def OwnQ (w : World) (B : Nat) (A : Option Addr) (n sz : Nat) (el : Nat → List Value) : Prop := 0 < n → ∃ g, A = some ⟨g, 0, none⟩ ∧ B ≤ g ∧ OwnS w g n sz el
theorem OwnS.kept {p : Nat → Prop} {w w' : World} {g n sz : Nat} {el : Nat → List Value} (h : OwnS w g n sz el) (hk : Kept p w w') (hp : ¬ p g) : OwnS w' g n sz el := by
  have hh := hk.block g h.1 hp
  exact ⟨Nat.lt_of_lt_of_le h.1 hk.size, fun i hi j v hv => (World.cell?_of_block (a := ⟨g, _, none⟩) hh).trans (h.2.1 i hi j v hv), fun j hj => by
    rw [World.cell?_of_block (a := ⟨g, _, none⟩) hh, World.frozen?_of_block (a := ⟨g, _, none⟩) hh]; exact h.2.2 j hj⟩
theorem OwnV.kept {p : Nat → Prop} {w w' : World} {g n : Nat} {f : Nat → Value} (h : OwnV w g n f) (hk : Kept p w w') (hp : ¬ p g) : OwnV w' g n f := h.same (hk.block g h.1 hp) hk.size
theorem OwnR.kept {p : Nat → Prop} {w w' : World} {B n : Nat} {A : Option Addr} {f : Nat → Value} (h : OwnR w B A n f) (hk : Kept p w w') (hp : 0 < n → ∀ k, B ≤ k → hd A k → ¬ p k) : OwnR w' B A n f := fun hn => by
  obtain ⟨g, ha, hB, ho⟩ := h hn
  exact ⟨g, ha, hB, ho.kept hk (hp hn g hB ⟨0, ha⟩)⟩
theorem OwnQ.kept {p : Nat → Prop} {w w' : World} {B n sz : Nat} {A : Option Addr} {el : Nat → List Value} (h : OwnQ w B A n sz el) (hk : Kept p w w') (hp : 0 < n → ∀ k, B ≤ k → hd A k → ¬ p k) : OwnQ w' B A n sz el := fun hn => by
  obtain ⟨g, ha, hB, ho⟩ := h hn
  exact ⟨g, ha, hB, ho.kept hk (hp hn g hB ⟨0, ha⟩)⟩
theorem OwnR.below {w w' : World} {B B' n : Nat} {A : Option Addr} {f : Nat → Value} (h : OwnR w B A n f) (hb : Below w.heap.size w w') (hB : B' ≤ B) : OwnR w' B' A n f := fun hn => by
  obtain ⟨g, ha, hB1, ho⟩ := h hn
  exact ⟨g, ha, by omega, ho.same (hb.block g ho.1) hb.size⟩
theorem OwnQ.below {w w' : World} {B B' n sz : Nat} {A : Option Addr} {el : Nat → List Value} (h : OwnQ w B A n sz el) (hb : Below w.heap.size w w') (hB : B' ≤ B) : OwnQ w' B' A n sz el := fun hn => by
  obtain ⟨g, ha, hB1, ho⟩ := h hn
  exact ⟨g, ha, by omega, ho.below hb ho.1⟩
theorem OwnQ.more {w : World} {B B' n sz : Nat} {A : Option Addr} {el : Nat → List Value} (h : OwnQ w B A n sz el) (hB : B' ≤ B) : OwnQ w B' A n sz el := fun hn => by
  obtain ⟨g, ha, hB1, ho⟩ := h hn
  exact ⟨g, ha, by omega, ho⟩
theorem OwnR.more {w : World} {B B' n : Nat} {A : Option Addr} {f : Nat → Value} (h : OwnR w B A n f) (hB : B' ≤ B) : OwnR w B' A n f := fun hn => by
  obtain ⟨g, ha, hB1, ho⟩ := h hn
  exact ⟨g, ha, by omega, ho⟩
/-- Writing to a block below the base changes nothing of it. -/
theorem OwnQ.off {w : World} {B n sz : Nat} {A : Option Addr} {el : Nat → List Value} (h : OwnQ w B A n sz el) {p : Addr} (hp : p.block < B) (u : Value) : OwnQ (w.setCell p u) B A n sz el :=
  h.kept (p := fun b => b = p.block) (Kept.setCell (p := fun b => b = p.block) (Kept.refl _ w) (q := p) rfl u) (fun _ k hk _ e => by omega)
theorem OwnR.off {w : World} {B n : Nat} {A : Option Addr} {f : Nat → Value} (h : OwnR w B A n f) {p : Addr} (hp : p.block < B) (u : Value) : OwnR (w.setCell p u) B A n f :=
  h.kept (p := fun b => b = p.block) (Kept.setCell (p := fun b => b = p.block) (Kept.refl _ w) (q := p) rfl u) (fun _ k hk _ e => by omega)
theorem OwnR.rw_ {w : World} {B n : Nat} {A : Option Addr} {f : Nat → Value} (h : OwnR w B A n f) : Rw w w.heap.size A n f := fun hn => by
  obtain ⟨g, ha, hB1, ho⟩ := h hn
  exact ⟨g, 0, ha, ho.1, fun i hi => by rw [Nat.zero_add]; exact ho.2.1 i hi⟩
theorem OwnQ.rs {w : World} {B n sz : Nat} {A : Option Addr} {el : Nat → List Value} (h : OwnQ w B A n sz el) : Rs w w.heap.size A n sz el := fun hn => by
  obtain ⟨g, ha, hB1, ho⟩ := h hn
  exact ⟨g, 0, ha, ho.1, fun i hi => by rw [Nat.zero_add]; exact ho.2.1 i hi⟩
theorem OwnS.there_at {w : World} {g n sz k : Nat} {el : Nat → List Value} (h : OwnS w g n sz el) (hk : k < n) : w.there g (k * sz) sz := fun j hj => by
  have := h.2.2 (k * sz + j) (by have := mul_succ_le (sz := sz) hk; omega)
  rw [Nat.zero_add] at this
  exact this
/-- Element k of such a row gets other cells. -/
theorem OwnS.put {w : World} {g n sz k : Nat} {el : Nat → List Value} (h : OwnS w g n sz el) (hk : k < n) (vs : List Value) (hl : vs.length = sz) (hel : ∀ i, (el i).length = sz) :
    OwnS (w.setCells g (k * sz) vs) g n sz (fun i => if i = k then vs else el i) := by
  refine ⟨by rw [size_setCells]; exact h.1, fun i hi => ?_, World.there_setCells h.2.2 _ _ _⟩
  by_cases e : i = k
  · subst e
    simp only [if_pos]
    exact World.rangeAt_setCells_same w g (i * sz) vs (by rw [hl]; exact OwnS.there_at h hk)
  · simp only [if_neg e]
    rcases Nat.lt_or_gt_of_ne e with h1 | h1
    · have := mul_succ_le (sz := sz) h1
      exact World.rangeAt_setCells_apart (h.2.1 i hi) g (k * sz) vs (.inr (.inl (by rw [hel i]; exact this)))
    · have := mul_succ_le (sz := sz) h1
      exact World.rangeAt_setCells_apart (h.2.1 i hi) g (k * sz) vs (.inr (.inr (by rw [hl]; exact this)))
theorem OwnS.congr {w : World} {g n sz : Nat} {el el' : Nat → List Value} (h : OwnS w g n sz el) (he : ∀ i, i < n → el i = el' i) : OwnS w g n sz el' :=
  ⟨h.1, fun i hi => by rw [← he i hi]; exact h.2.1 i hi, h.2.2⟩
theorem OwnS.cell {w : World} {g n sz : Nat} {el : Nat → List Value} (h : OwnS w g n sz el) (k : Nat) (hk : k < n) (j : Nat) (v : Value) (hv : (el k)[j]? = some v) : w.cell? ⟨g, k * sz + j, none⟩ = some v := h.2.1 k hk j v hv
theorem OwnS.free {w : World} {g n sz : Nat} {el : Nat → List Value} (h : OwnS w g n sz el) (k : Nat) (hk : k < n) (j : Nat) (hj : j < sz) : w.frozen? ⟨g, k * sz + j, none⟩ = false := by
  have := h.2.2 (k * sz + j) (by have := mul_succ_le (sz := sz) hk; omega)
  rw [Nat.zero_add] at this
  exact this.2
/-- The cells of n elements, one behind the other. -/
def flat (n : Nat) (el : Nat → List Value) : List Value := (List.range n).flatMap el
theorem flat_succ (n : Nat) (el : Nat → List Value) : flat (n + 1) el = flat n el ++ el n := by simp [flat, List.range_succ]
theorem flat_length (n sz : Nat) (el : Nat → List Value) (hel : ∀ i, (el i).length = sz) : (flat n el).length = n * sz := by
  induction n with
  | zero => simp [flat]
  | succ n ih => rw [flat_succ, List.length_append, ih, hel, Nat.succ_mul]
theorem flat_get (n sz : Nat) (el : Nat → List Value) (hel : ∀ i, (el i).length = sz) (i j : Nat) (hi : i < n) (hj : j < sz) : (flat n el)[i * sz + j]? = (el i)[j]? := by
  induction n with
  | zero => omega
  | succ n ih =>
    rw [flat_succ]
    have hl := flat_length n sz el hel
    by_cases e : i = n
    · subst e
      rw [List.getElem?_append_right (by omega), hl]
      congr 1
      omega
    · have := mul_succ_le (sz := sz) (show i < n by omega)
      rw [List.getElem?_append_left (by omega)]
      exact ih (by omega)
theorem owns_slice {w : World} {B sz m : Nat} {t : TypeId} {lv : Value} {L : List Value} (h : w.ownsRow B t sz lv m L) : (lv = .slice none 0 0 ∧ m = 0) ∨ ∃ b cap, lv = .slice (some ⟨b, 0, none⟩) m cap ∧ m ≤ cap := by
  obtain ⟨_, h | ⟨g, cap', cur, hv, hB, hg, h1, h2, h3, h4⟩⟩ := h
  · exact .inl h
  · exact .inr ⟨g, cap', hv, h1⟩
/-- A row that has grown by append: a slice of the call's own. -/
theorem owns_ownQ {w : World} {B sz m : Nat} {t : TypeId} {lv : Value} {el : Nat → List Value} (hel : ∀ i, (el i).length = sz) (h : w.ownsRow B t sz lv m (flat m el)) :
    ∃ A c, lv = .slice A m c ∧ OwnQ w B A m sz el := by
  obtain ⟨_, ⟨rfl, rfl⟩ | ⟨g, cap', cur, hv, hB, hg, h1, h2, h3, h4⟩⟩ := h
  · exact ⟨none, 0, rfl, fun h => absurd h (by omega)⟩
  · refine ⟨_, cap', hv, fun hm => ⟨g, rfl, hB, Bk.lt hg, fun i hi j v hv => ?_, fun j hj => ?_⟩⟩
    · have hj : j < sz := by
        have := (List.getElem?_eq_some_iff.1 hv).1
        rw [hel i] at this
        exact this
      have h5 := flat_get m sz el hel i j hi hj
      rw [hv, ← h4] at h5
      have h6 := mul_succ_le (sz := sz) hi
      rw [List.getElem?_take_of_lt (by omega)] at h5
      rw [Bk.cell hg]
      simpa using h5
    · have h7 := Nat.mul_le_mul_right sz h1
      rw [Nat.zero_add, Bk.cell hg, Bk.free hg, Array.getElem?_eq_getElem (by omega)]
      exact ⟨rfl, rfl⟩
end Go.Proofs.Ytndbmeedimhohaa

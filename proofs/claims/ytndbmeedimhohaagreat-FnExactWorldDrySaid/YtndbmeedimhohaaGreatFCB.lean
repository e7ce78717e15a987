/- Memory words of my own: what changes only the blocks of a set ('Kept'); own slices that may be written ('OwnR', 'OwnV'). -/
import Derived.Test.YtndbmeedimhohaaGreatFCA
import Derived.Test.YtndbmeedimhohaaGreatFG1Base
import Derived.Test.YtndbmeedimhohaaGreatFB2Base
import Derived.Test.YtndbmeedimhohaaGreatFW1Base
namespace Go.Proofs.YtndbmeedimhohaaGreat
open Go.RowKit

/-- Only blocks of p, and new ones, may differ. -/
structure Kept (p : Nat → Prop) (w w' : World) : Prop where
  os : w'.os = w.os
  tape : w'.tape = w.tape
  output : w'.output = w.output
  size : w.heap.size ≤ w'.heap.size
  block : ∀ k, k < w.heap.size → ¬ p k → w'.heap[k]? = w.heap[k]?
theorem Kept.refl (p : Nat → Prop) (w : World) : Kept p w w := ⟨rfl, rfl, rfl, Nat.le_refl _, fun _ _ _ => rfl⟩
theorem Kept.trans {p : Nat → Prop} {a b c : World} (h : Kept p a b) (k : Kept p b c) : Kept p a c :=
  ⟨k.os.trans h.os, k.tape.trans h.tape, k.output.trans h.output, Nat.le_trans h.size k.size, fun i hi hp => (k.block i (Nat.lt_of_lt_of_le hi h.size) hp).trans (h.block i hi hp)⟩
theorem Kept.mono {p q : Nat → Prop} {a b : World} (h : Kept p a b) (hp : ∀ k, k < a.heap.size → p k → q k) : Kept q a b :=
  ⟨h.os, h.tape, h.output, h.size, fun i hi hq => h.block i hi (fun hh => hq (hp i hi hh))⟩
theorem Kept.below {p : Nat → Prop} {B : Nat} {a b : World} (h : Kept p a b) (hB : B ≤ a.heap.size) (hp : ∀ k, p k → B ≤ k) : Below B a b :=
  ⟨h.os, h.tape, h.output, h.size, fun i hi => h.block i (by omega) (fun hh => by have := hp i hh; omega)⟩
theorem Kept.of {p : Nat → Prop} {a b : World} (h : Below a.heap.size a b) : Kept p a b := ⟨h.os, h.tape, h.output, h.size, fun i hi _ => h.block i hi⟩
theorem Kept.setCell {p : Nat → Prop} {a b : World} (h : Kept p a b) {q : Addr} (hq : p q.block) (v : Value) : Kept p a (b.setCell q v) :=
  ⟨h.os, h.tape, h.output, by simpa using h.size, fun i hi hp => (Below.heap_setCell b q v i (fun e => hp (e ▸ hq))).trans (h.block i hi hp)⟩
theorem Kept.alloc {p : Nat → Prop} {a b : World} (h : Kept p a b) (o : Obj) : Kept p a (b.alloc o) :=
  h.trans (Kept.of ((Below.refl _ b).alloc (Nat.le_refl _) o))
theorem Kept.drewN {p : Nat → Prop} {a b : World} (h : Kept p a b) (n : Nat) : Kept p a (b.drewN n) := ⟨h.os, h.tape, h.output, h.size, h.block⟩
theorem Kept.drew {p : Nat → Prop} {a b : World} (h : Kept p a b) : Kept p a b.drew := ⟨h.os, h.tape, h.output, h.size, h.block⟩
theorem Bk.kept {p : Nat → Prop} {w w' : World} {g : Nat} {t : TypeId} {cs : Array Value} (h : Bk w g t cs) (hk : Kept p w w') (hp : ¬ p g) : Bk w' g t cs := (hk.block g h.lt hp).trans h
theorem cell_kept {p : Nat → Prop} {w w' : World} {a : Addr} {v : Value} (h : w.cell? a = some v) (hk : Kept p w w') (hp : ¬ p a.block) : w'.cell? a = some v :=
  (World.cell?_of_block (hk.block _ (World.block_lt_of_cell? w a h) hp)).trans h

/-- The blocks of a slice's head. -/
def hd (A : Option Addr) (k : Nat) : Prop := ∃ o, A = some ⟨k, o, none⟩
/-- Block g has n cells that read as f and are not frozen. -/
def OwnV (w : World) (g n : Nat) (f : Nat → Value) : Prop := g < w.heap.size ∧ (∀ i, i < n → w.cell? ⟨g, i, none⟩ = some (f i)) ∧ ∀ i, i < n → w.frozen? ⟨g, i, none⟩ = false
theorem Own1.ownV {w : World} {g n : Nat} {t : TypeId} {f : Nat → Value} (h : Own1 w g t n f) : OwnV w g n f := by
  obtain ⟨cs, hb, hs, hc⟩ := h
  exact ⟨hb.lt, fun i hi => by rw [hb.cell, hc i hi], fun i _ => hb.free i⟩
theorem OwnV.same {w w' : World} {g n : Nat} {f : Nat → Value} (h : OwnV w g n f) (hh : w'.heap[g]? = w.heap[g]?) (hz : w.heap.size ≤ w'.heap.size) : OwnV w' g n f :=
  ⟨Nat.lt_of_lt_of_le h.1 hz, fun i hi => (World.cell?_of_block (a := ⟨g, i, none⟩) hh).trans (h.2.1 i hi), fun i hi => (World.frozen?_of_block (a := ⟨g, i, none⟩) hh).trans (h.2.2 i hi)⟩
theorem OwnV.congr {w : World} {g n : Nat} {f f' : Nat → Value} (h : OwnV w g n f) (he : ∀ i, i < n → f i = f' i) : OwnV w g n f' :=
  ⟨h.1, fun i hi => by rw [← he i hi]; exact h.2.1 i hi, h.2.2⟩
theorem OwnV.put {w : World} {g n k : Nat} {f : Nat → Value} (h : OwnV w g n f) (hk : k < n) (v : Value) : OwnV (w.setCell ⟨g, k, none⟩ v) g n (fun i => if i = k then v else f i) := by
  refine ⟨by simpa using h.1, fun i hi => ?_, fun i hi => ?_⟩
  · by_cases e : i = k
    · subst e
      simp only [if_pos]
      exact World.cell?_setCell_same _ _ _ (h.2.1 i hi)
    · simp only [if_neg e]
      exact (World.cell?_setCell_other _ _ _ _ (by first | (simp; done) | (simp; omega))).trans (h.2.1 i hi)
  · rw [World.frozen?_setCell]
    exact h.2.2 i hi
/-- A slice of n cells of the call's own: nothing if it is empty. -/
def OwnR (w : World) (B : Nat) (A : Option Addr) (n : Nat) (f : Nat → Value) : Prop := 0 < n → ∃ g, A = some ⟨g, 0, none⟩ ∧ B ≤ g ∧ OwnV w g n f
/-- The same with elements of sz cells. -/
def OwnQ (w : World) (B : Nat) (A : Option Addr) (n sz : Nat) (el : Nat → List Value) : Prop := 0 < n → ∃ g, A = some ⟨g, 0, none⟩ ∧ B ≤ g ∧ OwnS w g n sz el
theorem OwnS.kept {p : Nat → Prop} {w w' : World} {g n sz : Nat} {el : Nat → List Value} (h : OwnS w g n sz el) (hk : Kept p w w') (hp : ¬ p g) : OwnS w' g n sz el := by
  have hh := hk.block g h.1 hp
  exact ⟨Nat.lt_of_lt_of_le h.1 hk.size, fun i hi j v hv => (World.cell?_of_block (a := ⟨g, _, none⟩) hh).trans (h.2.1 i hi j v hv), fun j hj => by
    rw [World.cell?_of_block (a := ⟨g, _, none⟩) hh, World.frozen?_of_block (a := ⟨g, _, none⟩) hh]; exact h.2.2 j hj⟩
theorem OwnV.kept {p : Nat → Prop} {w w' : World} {g n : Nat} {f : Nat → Value} (h : OwnV w g n f) (hk : Kept p w w') (hp : ¬ p g) : OwnV w' g n f := h.same (hk.block g h.1 hp) hk.size
theorem OwnR.kept {p : Nat → Prop} {w w' : World} {B n : Nat} {A : Option Addr} {f : Nat → Value} (h : OwnR w B A n f) (hk : Kept p w w') (hp : 0 < n → ∀ k, B ≤ k → hd A k → ¬ p k) : OwnR w' B A n f := fun hn => by
  obtain ⟨g, ha, hB, ho⟩ := h hn
  exact ⟨g, ha, hB, ho.kept hk (hp hn g hB ⟨0, ha⟩)⟩
theorem OwnQ.kept {p : Nat → Prop} {w w' : World} {B n sz : Nat} {A : Option Addr} {el : Nat → List Value} (h : OwnQ w B A n sz el) (hk : Kept p w w') (hp : 0 < n → ∀ k, B ≤ k → hd A k → ¬ p k) : OwnQ w' B A n sz el := fun hn => by
  obtain ⟨g, ha, hB, ho⟩ := h hn
  exact ⟨g, ha, hB, ho.kept hk (hp hn g hB ⟨0, ha⟩)⟩
theorem OwnR.below {w w' : World} {B B' n : Nat} {A : Option Addr} {f : Nat → Value} (h : OwnR w B A n f) (hb : Below w.heap.size w w') (hB : B' ≤ B) : OwnR w' B' A n f := fun hn => by
  obtain ⟨g, ha, hB1, ho⟩ := h hn
  exact ⟨g, ha, by omega, ho.same (hb.block g ho.1) hb.size⟩
theorem OwnQ.below {w w' : World} {B B' n sz : Nat} {A : Option Addr} {el : Nat → List Value} (h : OwnQ w B A n sz el) (hb : Below w.heap.size w w') (hB : B' ≤ B) : OwnQ w' B' A n sz el := fun hn => by
  obtain ⟨g, ha, hB1, ho⟩ := h hn
  exact ⟨g, ha, by omega, ho.below hb ho.1⟩
theorem OwnQ.more {w : World} {B B' n sz : Nat} {A : Option Addr} {el : Nat → List Value} (h : OwnQ w B A n sz el) (hB : B' ≤ B) : OwnQ w B' A n sz el := fun hn => by
  obtain ⟨g, ha, hB1, ho⟩ := h hn
  exact ⟨g, ha, by omega, ho⟩
theorem OwnR.more {w : World} {B B' n : Nat} {A : Option Addr} {f : Nat → Value} (h : OwnR w B A n f) (hB : B' ≤ B) : OwnR w B' A n f := fun hn => by
  obtain ⟨g, ha, hB1, ho⟩ := h hn
  exact ⟨g, ha, by omega, ho⟩
/-- Writing to a block below the base changes nothing of it. -/
theorem OwnQ.off {w : World} {B n sz : Nat} {A : Option Addr} {el : Nat → List Value} (h : OwnQ w B A n sz el) {p : Addr} (hp : p.block < B) (u : Value) : OwnQ (w.setCell p u) B A n sz el :=
  h.kept (p := fun b => b = p.block) (Kept.setCell (p := fun b => b = p.block) (Kept.refl _ w) (q := p) rfl u) (fun _ k hk _ e => by omega)
theorem OwnR.off {w : World} {B n : Nat} {A : Option Addr} {f : Nat → Value} (h : OwnR w B A n f) {p : Addr} (hp : p.block < B) (u : Value) : OwnR (w.setCell p u) B A n f :=
  h.kept (p := fun b => b = p.block) (Kept.setCell (p := fun b => b = p.block) (Kept.refl _ w) (q := p) rfl u) (fun _ k hk _ e => by omega)
theorem OwnR.rw_ {w : World} {B n : Nat} {A : Option Addr} {f : Nat → Value} (h : OwnR w B A n f) : Rw w w.heap.size A n f := fun hn => by
  obtain ⟨g, ha, hB1, ho⟩ := h hn
  exact ⟨g, 0, ha, ho.1, fun i hi => by rw [Nat.zero_add]; exact ho.2.1 i hi⟩
theorem OwnQ.rs {w : World} {B n sz : Nat} {A : Option Addr} {el : Nat → List Value} (h : OwnQ w B A n sz el) : Rs w w.heap.size A n sz el := fun hn => by
  obtain ⟨g, ha, hB1, ho⟩ := h hn
  exact ⟨g, 0, ha, ho.1, fun i hi => by rw [Nat.zero_add]; exact ho.2.1 i hi⟩
theorem OwnS.there_at {w : World} {g n sz k : Nat} {el : Nat → List Value} (h : OwnS w g n sz el) (hk : k < n) : w.there g (k * sz) sz := fun j hj => by
  have := h.2.2 (k * sz + j) (by have := mul_succ_le (sz := sz) hk; omega)
  rw [Nat.zero_add] at this
  exact this
/-- Element k of such a row gets other cells. -/
theorem OwnS.put {w : World} {g n sz k : Nat} {el : Nat → List Value} (h : OwnS w g n sz el) (hk : k < n) (vs : List Value) (hl : vs.length = sz) (hel : ∀ i, (el i).length = sz) :
    OwnS (w.setCells g (k * sz) vs) g n sz (fun i => if i = k then vs else el i) := by
  refine ⟨by rw [size_setCells]; exact h.1, fun i hi => ?_, World.there_setCells h.2.2 _ _ _⟩
  by_cases e : i = k
  · subst e
    simp only [if_pos]
    exact World.rangeAt_setCells_same w g (i * sz) vs (by rw [hl]; exact OwnS.there_at h hk)
  · simp only [if_neg e]
    rcases Nat.lt_or_gt_of_ne e with h1 | h1
    · have := mul_succ_le (sz := sz) h1
      exact World.rangeAt_setCells_apart (h.2.1 i hi) g (k * sz) vs (.inr (.inl (by rw [hel i]; exact this)))
    · have := mul_succ_le (sz := sz) h1
      exact World.rangeAt_setCells_apart (h.2.1 i hi) g (k * sz) vs (.inr (.inr (by rw [hl]; exact this)))
theorem OwnS.congr {w : World} {g n sz : Nat} {el el' : Nat → List Value} (h : OwnS w g n sz el) (he : ∀ i, i < n → el i = el' i) : OwnS w g n sz el' :=
  ⟨h.1, fun i hi => by rw [← he i hi]; exact h.2.1 i hi, h.2.2⟩
theorem OwnS.cell {w : World} {g n sz : Nat} {el : Nat → List Value} (h : OwnS w g n sz el) (k : Nat) (hk : k < n) (j : Nat) (v : Value) (hv : (el k)[j]? = some v) : w.cell? ⟨g, k * sz + j, none⟩ = some v := h.2.1 k hk j v hv
theorem OwnS.free {w : World} {g n sz : Nat} {el : Nat → List Value} (h : OwnS w g n sz el) (k : Nat) (hk : k < n) (j : Nat) (hj : j < sz) : w.frozen? ⟨g, k * sz + j, none⟩ = false := by
  have := h.2.2 (k * sz + j) (by have := mul_succ_le (sz := sz) hk; omega)
  rw [Nat.zero_add] at this
  exact this.2
/-- The cells of n elements, one behind the other. -/
def flat (n : Nat) (el : Nat → List Value) : List Value := (List.range n).flatMap el
theorem flat_succ (n : Nat) (el : Nat → List Value) : flat (n + 1) el = flat n el ++ el n := by simp [flat, List.range_succ]
theorem flat_length (n sz : Nat) (el : Nat → List Value) (hel : ∀ i, (el i).length = sz) : (flat n el).length = n * sz := by
  induction n with
  | zero => simp [flat]
  | succ n ih => rw [flat_succ, List.length_append, ih, hel, Nat.succ_mul]
theorem flat_get (n sz : Nat) (el : Nat → List Value) (hel : ∀ i, (el i).length = sz) (i j : Nat) (hi : i < n) (hj : j < sz) : (flat n el)[i * sz + j]? = (el i)[j]? := by
  induction n with
  | zero => omega
  | succ n ih =>
    rw [flat_succ]
    have hl := flat_length n sz el hel
    by_cases e : i = n
    · subst e
      rw [List.getElem?_append_right (by omega), hl]
      congr 1
      omega
    · have := mul_succ_le (sz := sz) (show i < n by omega)
      rw [List.getElem?_append_left (by omega)]
      exact ih (by omega)
theorem owns_slice {w : World} {B sz m : Nat} {t : TypeId} {lv : Value} {L : List Value} (h : w.ownsRow B t sz lv m L) : (lv = .slice none 0 0 ∧ m = 0) ∨ ∃ b cap, lv = .slice (some ⟨b, 0, none⟩) m cap ∧ m ≤ cap := by
  obtain ⟨_, h | ⟨g, cap', cur, hv, hB, hg, h1, h2, h3, h4⟩⟩ := h
  · exact .inl h
  · exact .inr ⟨g, cap', hv, h1⟩
/-- A row that has grown by append: a slice of the call's own. -/
theorem owns_ownQ {w : World} {B sz m : Nat} {t : TypeId} {lv : Value} {el : Nat → List Value} (hel : ∀ i, (el i).length = sz) (h : w.ownsRow B t sz lv m (flat m el)) :
    ∃ A c, lv = .slice A m c ∧ OwnQ w B A m sz el := by
  obtain ⟨_, ⟨rfl, rfl⟩ | ⟨g, cap', cur, hv, hB, hg, h1, h2, h3, h4⟩⟩ := h
  · exact ⟨none, 0, rfl, fun h => absurd h (by omega)⟩
  · refine ⟨_, cap', hv, fun hm => ⟨g, rfl, hB, Bk.lt hg, fun i hi j v hv => ?_, fun j hj => ?_⟩⟩
    · have hj : j < sz := by
        have := (List.getElem?_eq_some_iff.1 hv).1
        rw [hel i] at this
        exact this
      have h5 := flat_get m sz el hel i j hi hj
      rw [hv, ← h4] at h5
      have h6 := mul_succ_le (sz := sz) hi
      rw [List.getElem?_take_of_lt (by omega)] at h5
      rw [Bk.cell hg]
      simpa using h5
    · have h7 := Nat.mul_le_mul_right sz h1
      rw [Nat.zero_add, Bk.cell hg, Bk.free hg, Array.getElem?_eq_getElem (by omega)]
      exact ⟨rfl, rfl⟩
end Go.Proofs.YtndbmeedimhohaaGreat
namespace Go.Proofs.YtndbmeedimhohaaGreat
open Go.RowKit
theorem OwnS.same {w w' : World} {g n sz : Nat} {el : Nat → List Value} (h : OwnS w g n sz el) (hh : w'.heap[g]? = w.heap[g]?) (hz : w.heap.size ≤ w'.heap.size) : OwnS w' g n sz el :=
  ⟨Nat.lt_of_lt_of_le h.1 hz, fun i hi j v hv => (World.cell?_of_block (a := ⟨g, _, none⟩) hh).trans (h.2.1 i hi j v hv), fun j hj => by
    rw [World.cell?_of_block (a := ⟨g, _, none⟩) hh, World.frozen?_of_block (a := ⟨g, _, none⟩) hh]; exact h.2.2 j hj⟩
theorem OwnS.off {w : World} {g n sz : Nat} {el : Nat → List Value} (h : OwnS w g n sz el) {p : Addr} (hp : g ≠ p.block) (u : Value) : OwnS (w.setCell p u) g n sz el :=
  h.same (Below.heap_setCell w p u g hp) (by simp)
theorem OwnS.rowOff {w : World} {g g' n sz : Nat} {el : Nat → List Value} (h : OwnS w g n sz el) (hp : g ≠ g') (xs : Array Value) : OwnS (w.setRow g' xs) g n sz el :=
  h.same (setRow_other w g' g xs hp) (by simp)
/-- What a group holds. -/
structure GV where
  us : Bool
  pa : Int
  nm : ByteArray
  we : Int
  cp : Int
  pe : Int
  ne : Int
  su : Int
  qu : Int
  po : Int
  sp : Int
  ln : Nat
  lf : Nat → Int
  dn : Nat
  df : Nat → Bool
  sn : Nat
  s0 : Nat → Int
  s1 : Nat → Bool
  s2 : Nat → Int
  s3 : Nat → Int
  s4 : Nat → Int
/-- Where the rows of a group lie. -/
structure GH where
  la : Option Addr
  lc : Nat
  da : Option Addr
  dc : Nat
  sa : Option Addr
  sc : Nat
instance : Inhabited GV := ⟨⟨false, 0, ByteArray.empty, 0, 0, 0, 0, 0, 0, 0, 0, 0, fun _ => 0, 0, fun _ => false, 0, fun _ => 0, fun _ => false, fun _ => 0, fun _ => 0, fun _ => 0⟩⟩
instance : Inhabited GH := ⟨⟨none, 0, none, 0, none, 0⟩⟩
def shC (g : GV) (i : Nat) : List Value := [.int .i64 (g.s0 i), .bool (g.s1 i), .int .i64 (g.s2 i), .int .i64 (g.s3 i), .int .i64 (g.s4 i)]
def grC (g : GV) (h : GH) : List Value := [.bool g.us, .int .i64 g.pa, .string g.nm, .int .i64 g.we, .int .i64 g.cp, .int .i64 g.pe, .int .i64 g.ne, .int .i64 g.su, .int .i64 g.qu, .int .i64 g.po, .int .i64 g.sp, .slice h.la g.ln h.lc, .slice h.da g.dn h.dc, .slice h.sa g.sn h.sc]
def grV (g : GV) (h : GH) : Value := .agg #[.bool g.us, .int .i64 g.pa, .string g.nm, .int .i64 g.we, .int .i64 g.cp, .int .i64 g.pe, .int .i64 g.ne, .int .i64 g.su, .int .i64 g.qu, .int .i64 g.po, .int .i64 g.sp, .slice h.la g.ln h.lc, .slice h.da g.dn h.dc, .slice h.sa g.sn h.sc]
/-- The rows of a group read as it says, below block B. -/
structure GRd (w : World) (B : Nat) (g : GV) (h : GH) : Prop where
  l : Rw w B h.la g.ln (fun j => .int .i64 (g.lf j))
  d : Rw w B h.da g.dn (fun j => .bool (g.df j))
  s : Rs w B h.sa g.sn 5 (shC g)
theorem GRd.below {w w' : World} {B : Nat} {g : GV} {h : GH} (r : GRd w B g h) (hb : Below B w w') : GRd w' B g h := ⟨r.l.below hb, r.d.below hb, r.s.below hb⟩
theorem GRd.more {w : World} {B B' : Nat} {g : GV} {h : GH} (r : GRd w B g h) (hB : B ≤ B') : GRd w B' g h := ⟨r.l.more hB, r.d.more hB, r.s.more hB⟩
theorem GRd.at_ {W w : World} {g : GV} {h : GH} (r : GRd W W.heap.size g h) (hb : Below W.heap.size W w) : GRd w w.heap.size g h := (r.below hb).more hb.size
/-- The slice with head A and n groups reads as g, its rows at h, all below block B. -/
structure GsRd (w : World) (B : Nat) (A : Option Addr) (n : Nat) (g : Nat → GV) (h : Nat → GH) : Prop where
  r : Rs w B A n 14 (fun i => grC (g i) (h i))
  d : ∀ i, i < n → GRd w B (g i) (h i)
theorem GsRd.below {w w' : World} {B n : Nat} {A : Option Addr} {g : Nat → GV} {h : Nat → GH} (r : GsRd w B A n g h) (hb : Below B w w') : GsRd w' B A n g h := ⟨r.r.below hb, fun i hi => (r.d i hi).below hb⟩
theorem GsRd.more {w : World} {B B' n : Nat} {A : Option Addr} {g : Nat → GV} {h : Nat → GH} (r : GsRd w B A n g h) (hB : B ≤ B') : GsRd w B' A n g h := ⟨r.r.more hB, fun i hi => (r.d i hi).more hB⟩
theorem GsRd.at_ {W w : World} {n : Nat} {A : Option Addr} {g : Nat → GV} {h : Nat → GH} (r : GsRd W W.heap.size A n g h) (hb : Below W.heap.size W w) : GsRd w w.heap.size A n g h := (r.below hb).more hb.size
/-- How long the rows of a group are. -/
structure GLen (g : GV) : Prop where
  nm : g.nm.size ≤ 1048576
  l : g.ln ≤ 1048576
  d : g.dn ≤ 1048576
  s : g.sn ≤ 1048576
/-- No row is longer than a length. -/
structure GBig (g : GV) : Prop where
  nm : (g.nm.size : Int) ≤ 9223372036854775807
  l : (g.ln : Int) ≤ 9223372036854775807
  d : (g.dn : Int) ≤ 9223372036854775807
  s : (g.sn : Int) ≤ 9223372036854775807
/-- A group's rows of the call's own, none two alike. -/
structure GOwn (w : World) (B : Nat) (g : GV) (h : GH) : Prop where
  l : OwnR w B h.la g.ln (fun j => .int .i64 (g.lf j))
  d : OwnR w B h.da g.dn (fun j => .bool (g.df j))
  s : OwnQ w B h.sa g.sn 5 (shC g)
theorem GOwn.rd {w : World} {B : Nat} {g : GV} {h : GH} (o : GOwn w B g h) : GRd w w.heap.size g h := ⟨o.l.rw_, o.d.rw_, o.s.rs⟩
theorem GOwn.below {w w' : World} {B B' : Nat} {g : GV} {h : GH} (o : GOwn w B g h) (hb : Below w.heap.size w w') (hB : B' ≤ B) : GOwn w' B' g h := ⟨o.l.below hb hB, o.d.below hb hB, o.s.below hb hB⟩
theorem GOwn.more {w : World} {B B' : Nat} {g : GV} {h : GH} (o : GOwn w B g h) (hB : B' ≤ B) : GOwn w B' g h := ⟨o.l.more hB, o.d.more hB, o.s.more hB⟩
theorem GOwn.off {w : World} {B : Nat} {g : GV} {h : GH} (o : GOwn w B g h) {p : Addr} (hp : p.block < B) (u : Value) : GOwn (w.setCell p u) B g h := ⟨o.l.off hp u, o.d.off hp u, o.s.off hp u⟩
theorem GOwn.kept {p : Nat → Prop} {w w' : World} {B : Nat} {g : GV} {h : GH} (o : GOwn w B g h) (hk : Kept p w w') (hp : ∀ k, B ≤ k → ¬ p k) : GOwn w' B g h :=
  ⟨o.l.kept hk (fun _ k hk _ => hp k hk), o.d.kept hk (fun _ k hk _ => hp k hk), o.s.kept hk (fun _ k hk _ => hp k hk)⟩
theorem Kept.setCells {p : Nat → Prop} {a : World} (b : Nat) (hq : p b) : ∀ (vs : List Value) (o : Nat) (w : World), Kept p a w → Kept p a (w.setCells b o vs)
  | [], _, _, h => h
  | v :: r, o, w, h => by
    rw [World.setCells]
    exact Kept.setCells b hq r (o + 1) _ (h.setCell (q := ⟨b, o, none⟩) hq v)
theorem GOwn.rowsOff {w : World} {B b : Nat} {g : GV} {h : GH} (o : GOwn w B g h) (hb : b < B) (k : Nat) (vs : List Value) : GOwn (w.setCells b k vs) B g h :=
  o.kept (p := fun x => x = b) (Kept.setCells (p := fun x => x = b) b rfl vs k w (Kept.refl _ w)) (fun k hk e => by omega)
theorem OwnV.ownR {w : World} {B g n : Nat} {f : Nat → Value} (o : OwnV w g n f) (hB : B ≤ g) : OwnR w B (some ⟨g, 0, none⟩) n f := fun _ => ⟨g, rfl, hB, o⟩
theorem OwnS.ownQ {w : World} {B g n sz : Nat} {el : Nat → List Value} (o : OwnS w g n sz el) (hB : B ≤ g) : OwnQ w B (some ⟨g, 0, none⟩) n sz el := fun _ => ⟨g, rfl, hB, o⟩
theorem grC_length (g : GV) (h : GH) : (grC g h).length = 14 := rfl
theorem shC_length (g : GV) (i : Nat) : (shC g i).length = 5 := rfl
end Go.Proofs.YtndbmeedimhohaaGreat
namespace Go.Proofs.YtndbmeedimhohaaGreat
open Go.RowKit
theorem OwnV.off {w : World} {g n : Nat} {f : Nat → Value} (h : OwnV w g n f) {p : Addr} (hp : g ≠ p.block) (u : Value) : OwnV (w.setCell p u) g n f :=
  h.same (Below.heap_setCell w p u g hp) (by simp)
theorem OwnV.rowOff {w : World} {g g' n : Nat} {f : Nat → Value} (h : OwnV w g n f) (hp : g ≠ g') (xs : Array Value) : OwnV (w.setRow g' xs) g n f :=
  h.same (setRow_other w g' g xs hp) (by simp [World.setRow])
set_option maxHeartbeats 1000000 in
theorem toGroup_core (us : Bool) (pa we cp pe ne su q p s : Int) (nm : ByteArray) (A A' A2 : Option Addr) (n m c c' k d : Nat) (hn : n ≤ 1048576) (hm : m ≤ 1048576) (hk : k ≤ 1048576) (f : Nat → Int) (f' : Nat → Bool)
    (x0 : Nat → Int) (x1 : Nat → Bool) (x2 x3 x4 : Nat → Int) (w W : World) (hb : Below W.heap.size W w)
    (hA : Rw W W.heap.size A n fun i => .int .i64 (f i)) (hA' : Rw W W.heap.size A' m fun i => .bool (f' i)) (hA2 : Rs W W.heap.size A2 k 5 fun i => [.int .i64 (x0 i), .bool (x1 i), .int .i64 (x2 i), .int .i64 (x3 i), .int .i64 (x4 i)]) :
    Calls Tryz.prog 60 #[.agg #[.bool us, .int .i64 pa, .string nm, .int .i64 we, .int .i64 cp, .int .i64 pe, .int .i64 ne, .int .i64 su, .int .i64 q, .int .i64 p, .int .i64 s, .slice A n c, .slice A' m c', .slice A2 k d]] w fun e w' =>
      ∃ g g' g2, e = .returned (.agg #[.bool us, .int .i64 pa, .string nm, .int .i64 we, .int .i64 cp, .int .i64 pe, .int .i64 ne, .int .i64 su, .int .i64 q, .int .i64 p, .int .i64 s, .slice (some ⟨g, 0, none⟩) n n, .slice (some ⟨g', 0, none⟩) m m, .slice (some ⟨g2, 0, none⟩) k k]) ∧
      w.heap.size ≤ g ∧ g < g' ∧ g' < g2 ∧ OwnV w' g n (fun i => .int .i64 (f i)) ∧ OwnV w' g' m (fun i => .bool (f' i)) ∧ OwnS w' g2 k 5 (fun i => [.int .i64 (x0 i), .bool (x1 i), .int .i64 (x2 i), .int .i64 (x3 i), .int .i64 (x4 i)]) ∧ Below w.heap.size w w' := by
  have hA0 := Lib.hid (hA.at_ hb)
  have hA1 := Lib.hid (hA'.at_ hb)
  have hA2 := Lib.hid (hA2.at_ hb)
  clear hA hA'
  go_enter Tryz.func60, Tryz.ntmps60
  go_wp2_with fail
  refine (toBand_any q p s A A' n m c c' hn hm f f' _ w (by go_grown) hA0.out hA1.out).mono ?_
  rintro e w1 ⟨g, g', rfl, hg, hg', hO, hO', hb1⟩
  have hz1 := hb1.size
  simp only [World.size_alloc] at hz1 hg
  have hB1 : Below w.heap.size w w1 := (by go_grown : Below w.heap.size w _).trans (hb1.mono (by simp only [World.size_alloc]; omega))
  have kb := ((Bk.new' w w.heap.size _ _ rfl).alloc _).alloc _ |>.below hb1 (by simp only [World.size_alloc]; omega)
  have kr := (Bk.new' _ (w.heap.size + 1) _ _ (by simp)).alloc _ |>.below hb1 (by simp only [World.size_alloc]; omega)
  have ko := (Bk.new' _ (w.heap.size + 1 + 1) _ _ (by simp)).below hb1 (by simp only [World.size_alloc]; omega)
  have cb : w1.cell? ⟨w.heap.size, 13, none⟩ = some (.slice A2 k d) := kb.cell 13
  have h1 := hO.lt
  have h2 := hO'.lt
  clear hb1 kb
  have HO := Lib.hid hO.ownV
  have HO' := Lib.hid hO'.ownV
  have HB1 := Lib.hid hB1
  have o8 : w1.cell? ⟨w.heap.size + 1 + 1, 8, none⟩ = some (.int .i64 0) := ko.cell 8
  have o9 : w1.cell? ⟨w.heap.size + 1 + 1, 9, none⟩ = some (.int .i64 0) := ko.cell 9
  have o10 : w1.cell? ⟨w.heap.size + 1 + 1, 10, none⟩ = some (.int .i64 0) := ko.cell 10
  have o11 : w1.cell? ⟨w.heap.size + 1 + 1, 11, none⟩ = some (.slice none 0 0) := ko.cell 11
  have o12 : w1.cell? ⟨w.heap.size + 1 + 1, 12, none⟩ = some (.slice none 0 0) := ko.cell 12
  have fr := ko.frees
  have KR := Lib.hid kr
  have KO := Lib.hid ko
  clear hO hO' kr ko hB1
  go_wp2_with fail
  clear o8 o9 o10 o11 o12 fr cb
  have hwx : ∃ wx, wx = (((((w1).setCell ⟨w.heap.size + 1 + 1, 8, none⟩ (.int .i64 q)).setCell ⟨w.heap.size + 1 + 1, 9, none⟩ (.int .i64 p)).setCell ⟨w.heap.size + 1 + 1, 10, none⟩ (.int .i64 s)).setCell ⟨w.heap.size + 1 + 1, 11, none⟩ (.slice (some ⟨g, 0, none⟩) n n)).setCell ⟨w.heap.size + 1 + 1, 12, none⟩ (.slice (some ⟨g', 0, none⟩) m m) := ⟨_, rfl⟩
  obtain ⟨wx, hwx⟩ := hwx
  have KX : Bk wx (w.heap.size + 1 + 1) 68 #[.bool us, .int .i64 pa, .string nm, .int .i64 we, .int .i64 cp, .int .i64 pe, .int .i64 ne, .int .i64 su, .int .i64 q, .int .i64 p, .int .i64 s, .slice (some ⟨g, 0, none⟩) n n, .slice (some ⟨g', 0, none⟩) m m, .slice none 0 0] := by rw [hwx]; exact (((((KO.out.put 8 (.int .i64 q)).put 9 (.int .i64 p)).put 10 (.int .i64 s)).put 11 (.slice (some ⟨g, 0, none⟩) n n)).put 12 (.slice (some ⟨g', 0, none⟩) m m))
  have KS : Bk wx (w.heap.size + 1) 68 #[.bool false, .int .i64 0, .string ⟨#[]⟩, .int .i64 0, .int .i64 0, .int .i64 0, .int .i64 0, .int .i64 0, .int .i64 0, .int .i64 0, .int .i64 0, .slice none 0 0, .slice none 0 0, .slice none 0 0] := by rw [hwx]; exact (((((KR.out.off (p := ⟨w.heap.size + 1 + 1, 8, none⟩) (by simp; try omega) (.int .i64 q)).off (p := ⟨w.heap.size + 1 + 1, 9, none⟩) (by simp; try omega) (.int .i64 p)).off (p := ⟨w.heap.size + 1 + 1, 10, none⟩) (by simp; try omega) (.int .i64 s)).off (p := ⟨w.heap.size + 1 + 1, 11, none⟩) (by simp; try omega) (.slice (some ⟨g, 0, none⟩) n n)).off (p := ⟨w.heap.size + 1 + 1, 12, none⟩) (by simp; try omega) (.slice (some ⟨g', 0, none⟩) m m))
  have OX : OwnV wx g n (fun i => .int .i64 (f i)) := by rw [hwx]; exact (((((HO.out.off (p := ⟨w.heap.size + 1 + 1, 8, none⟩) (by simp; try omega) (.int .i64 q)).off (p := ⟨w.heap.size + 1 + 1, 9, none⟩) (by simp; try omega) (.int .i64 p)).off (p := ⟨w.heap.size + 1 + 1, 10, none⟩) (by simp; try omega) (.int .i64 s)).off (p := ⟨w.heap.size + 1 + 1, 11, none⟩) (by simp; try omega) (.slice (some ⟨g, 0, none⟩) n n)).off (p := ⟨w.heap.size + 1 + 1, 12, none⟩) (by simp; try omega) (.slice (some ⟨g', 0, none⟩) m m))
  have OX' : OwnV wx g' m (fun i => .bool (f' i)) := by rw [hwx]; exact (((((HO'.out.off (p := ⟨w.heap.size + 1 + 1, 8, none⟩) (by simp; try omega) (.int .i64 q)).off (p := ⟨w.heap.size + 1 + 1, 9, none⟩) (by simp; try omega) (.int .i64 p)).off (p := ⟨w.heap.size + 1 + 1, 10, none⟩) (by simp; try omega) (.int .i64 s)).off (p := ⟨w.heap.size + 1 + 1, 11, none⟩) (by simp; try omega) (.slice (some ⟨g, 0, none⟩) n n)).off (p := ⟨w.heap.size + 1 + 1, 12, none⟩) (by simp; try omega) (.slice (some ⟨g', 0, none⟩) m m))
  have BX : Below w.heap.size w wx := by rw [hwx]; exact (((((HB1.out.setCell (p := ⟨w.heap.size + 1 + 1, 8, none⟩) (by simp; try omega) (.int .i64 q)).setCell (p := ⟨w.heap.size + 1 + 1, 9, none⟩) (by simp; try omega) (.int .i64 p)).setCell (p := ⟨w.heap.size + 1 + 1, 10, none⟩) (by simp; try omega) (.int .i64 s)).setCell (p := ⟨w.heap.size + 1 + 1, 11, none⟩) (by simp; try omega) (.slice (some ⟨g, 0, none⟩) n n)).setCell (p := ⟨w.heap.size + 1 + 1, 12, none⟩) (by simp; try omega) (.slice (some ⟨g', 0, none⟩) m m))
  have hzx : wx.heap.size = w1.heap.size := by rw [hwx]; simp only [World.size_setCell]
  have h1x : g < wx.heap.size := by omega
  have h2x : g' < wx.heap.size := by omega
  have hz1x : w.heap.size + 1 + 1 + 1 ≤ wx.heap.size := by omega
  rw [← hwx]
  clear hwx KO KR HO HO' HB1 hzx h1 h2 hz1
  refine (toShelfS_any A2 k d hk x0 x1 x2 x3 x4 wx w BX hA2.out).mono ?_
  rintro e w2 ⟨rfl, hS, hb2⟩
  have ko := KX.below hb2 KX.lt
  have kr := KS.below hb2 KS.lt
  have HO := Lib.hid (OX.same (hb2.block g OX.1) hb2.size)
  have HO' := Lib.hid (OX'.same (hb2.block g' OX'.1) hb2.size)
  have HB := Lib.hid (BX.trans (hb2.mono BX.size))
  have HS := Lib.hid hS
  have hz2 := hb2.size
  have co : w2.cell? ⟨w.heap.size + 1 + 1, 13, none⟩ = some (.slice none 0 0) := ko.cell 13
  have cf := ko.frees
  have KO : Hid (Bk (w2.setCell ⟨w.heap.size + 1 + 1, 13, none⟩ (.slice (some ⟨wx.heap.size, 0, none⟩) k k)) (w.heap.size + 1 + 1) 68 #[.bool us, .int .i64 pa, .string nm, .int .i64 we, .int .i64 cp, .int .i64 pe, .int .i64 ne, .int .i64 su, .int .i64 q, .int .i64 p, .int .i64 s, .slice (some ⟨g, 0, none⟩) n n, .slice (some ⟨g', 0, none⟩) m m, .slice (some ⟨wx.heap.size, 0, none⟩) k k]) := (ko.put 13 _ : Bk _ _ _ _)
  have KR := Lib.hid (kr.off (p := ⟨w.heap.size + 1 + 1, 13, none⟩) (by simp) (.slice (some ⟨wx.heap.size, 0, none⟩) k k))
  clear KX KS OX OX' BX hb2 hS ko kr
  go_wp2_with (first
    | refine wpList_load_row rfl 68 _ rfl (w.heap.size + 1 + 1) rfl 68 _ (0, 0) _ KO.out Tryz.underlying68 rfl (by kernel_rfl) ?_
    | refine wpList_store_row rfl 68 _ _ rfl (w.heap.size + 1) _ rfl rfl 68 _ KR.out (by kernel_rfl) rfl (by kernel_rfl) ?_)
  refine bodyPost_ret (results_cell_row rfl _ _ (w.heap.size + 1) 68 _ (0, 0) _ rfl (setRow_heap _ _ _ _ _ _ KR.out) Tryz.underlying68 rfl (by kernel_rfl)) rfl ⟨_, _, _, rfl, by omega, hg', by omega, ?_, ?_, ?_, ?_⟩
  · exact (HO.out.off (by simp; omega) _).rowOff (by omega) _
  · exact (HO'.out.off (by simp; omega) _).rowOff (by omega) _
  · exact (HS.out.off (by simp; omega) _).rowOff (by omega) _
  · exact below_setRow (HB.out.setCell (by simp; omega) _) (by omega) _
end Go.Proofs.YtndbmeedimhohaaGreat
namespace Go.Proofs.YtndbmeedimhohaaGreat
open Go.RowKit
/-- A group's rows lie between two numbers, none two alike. -/
def GLie (lo hi : Nat) (h : GH) : Prop := (∀ b, (hd h.la b ∨ hd h.da b ∨ hd h.sa b) → lo ≤ b ∧ b < hi) ∧
  ∀ b, (hd h.la b → ¬ hd h.da b ∧ ¬ hd h.sa b) ∧ (hd h.da b → ¬ hd h.la b ∧ ¬ hd h.sa b) ∧ (hd h.sa b → ¬ hd h.la b ∧ ¬ hd h.da b)
theorem GLie.of {lo hi b1 b2 b3 : Nat} {h : GH} (e1 : h.la = some ⟨b1, 0, none⟩) (e2 : h.da = some ⟨b2, 0, none⟩) (e3 : h.sa = some ⟨b3, 0, none⟩) (h1 : lo ≤ b1) (h2 : b1 < b2) (h3 : b2 < b3) (h4 : b3 < hi) : GLie lo hi h := by
  refine ⟨fun b hb => ?_, fun b => ?_⟩
  · rcases hb with ⟨o, e⟩ | ⟨o, e⟩ | ⟨o, e⟩
    · rw [e1] at e; simp only [Option.some.injEq, Addr.mk.injEq] at e; omega
    · rw [e2] at e; simp only [Option.some.injEq, Addr.mk.injEq] at e; omega
    · rw [e3] at e; simp only [Option.some.injEq, Addr.mk.injEq] at e; omega
  · simp only [hd, e1, e2, e3, Option.some.injEq, Addr.mk.injEq]
    refine ⟨?_, ?_, ?_⟩ <;> rintro ⟨o, e, -⟩ <;> refine ⟨?_, ?_⟩ <;> rintro ⟨o', e', -⟩ <;> omega
theorem GLie.mono {lo hi lo' hi' : Nat} {h : GH} (l : GLie lo hi h) (h1 : lo' ≤ lo) (h2 : hi ≤ hi') : GLie lo' hi' h := ⟨fun b hb => by have := l.1 b hb; omega, l.2⟩
theorem GLie.none {lo hi : Nat} {h : GH} (e1 : h.la = none) (e2 : h.da = none) (e3 : h.sa = none) : GLie lo hi h := by
  refine ⟨fun b hb => ?_, fun b => ?_⟩
  · rcases hb with ⟨o, e⟩ | ⟨o, e⟩ | ⟨o, e⟩
    · rw [e1] at e; cases e
    · rw [e2] at e; cases e
    · rw [e3] at e; cases e
  · simp [hd, e1, e2, e3]
theorem toGroup_any (g : GV) (h : GH) (hl : GLen g) (w W : World) (hb : Below W.heap.size W w) (hR : GRd W W.heap.size g h) :
    Calls Tryz.prog 60 #[.agg #[.bool g.us, .int .i64 g.pa, .string g.nm, .int .i64 g.we, .int .i64 g.cp, .int .i64 g.pe, .int .i64 g.ne, .int .i64 g.su, .int .i64 g.qu, .int .i64 g.po, .int .i64 g.sp, .slice h.la g.ln h.lc, .slice h.da g.dn h.dc, .slice h.sa g.sn h.sc]] w fun e w' => ∃ h' : GH, e = .returned (.agg #[.bool g.us, .int .i64 g.pa, .string g.nm, .int .i64 g.we, .int .i64 g.cp, .int .i64 g.pe, .int .i64 g.ne, .int .i64 g.su, .int .i64 g.qu, .int .i64 g.po, .int .i64 g.sp, .slice h'.la g.ln h'.lc, .slice h'.da g.dn h'.dc, .slice h'.sa g.sn h'.sc]) ∧ GOwn w' w.heap.size g h' ∧ GLie w.heap.size w'.heap.size h' ∧ Below w.heap.size w w' := by
  refine (toGroup_core g.us g.pa g.we g.cp g.pe g.ne g.su g.qu g.po g.sp g.nm h.la h.da h.sa g.ln g.dn h.lc h.dc g.sn h.sc hl.l hl.d hl.s g.lf g.df g.s0 g.s1 g.s2 g.s3 g.s4 w W hb hR.l hR.d hR.s).mono ?_
  rintro e w' ⟨b1, b2, b3, rfl, h1, h2, h3, o1, o2, o3, hb'⟩
  exact ⟨⟨some ⟨b1, 0, none⟩, g.ln, some ⟨b2, 0, none⟩, g.dn, some ⟨b3, 0, none⟩, g.sn⟩, rfl, ⟨o1.ownR h1, o2.ownR (by omega), OwnS.ownQ (el := shC g) o3 (by omega)⟩, GLie.of rfl rfl rfl h1 h2 h3 o3.1, hb'⟩
/-- Groups of the call's own: their cells, their rows, none of which is another's. -/
def OwnGs (w : World) (q n : Nat) (g : Nat → GV) (h : Nat → GH) : Prop :=
  OwnS w q n 14 (fun i => grC (g i) (h i)) ∧ ∃ lo : Nat → Nat, q < lo 0 ∧ (∀ i, i < n → lo i ≤ lo (i + 1)) ∧ ∀ i, i < n → GLie (lo i) (lo (i + 1)) (h i) ∧ GOwn w (lo i) (g i) (h i)
theorem OwnGs.rd {w : World} {q n : Nat} {g : Nat → GV} {h : Nat → GH} (o : OwnGs w q n g h) : GsRd w w.heap.size (some ⟨q, 0, none⟩) n g h := by
  obtain ⟨o1, lo, _, _, h2⟩ := o
  exact ⟨o1.rs, fun i hi => (h2 i hi).2.rd⟩
theorem OwnGs.below {w w' : World} {q n : Nat} {g : Nat → GV} {h : Nat → GH} (o : OwnGs w q n g h) (hb : Below w.heap.size w w') : OwnGs w' q n g h := by
  obtain ⟨o1, lo, h0, hm, h2⟩ := o
  exact ⟨o1.below hb o1.1, lo, h0, hm, fun i hi => ⟨(h2 i hi).1, (h2 i hi).2.below hb (Nat.le_refl _)⟩⟩
def updH (f : Nat → GH) (k : Nat) (v : GH) (i : Nat) : GH := if i = k then v else f i
theorem updH_same (f : Nat → GH) (k : Nat) (v : GH) : updH f k v k = v := by simp [updH]
theorem updH_lt (f : Nat → GH) (k : Nat) (v : GH) {i : Nat} (h : i < k) : updH f k v i = f i := by simp [updH, Nat.ne_of_lt h]
def updN (f : Nat → Nat) (k : Nat) (v : Nat) (i : Nat) : Nat := if i = k then v else f i
theorem updN_same (f : Nat → Nat) (k : Nat) (v : Nat) : updN f k v k = v := by simp [updN]
theorem updN_lt (f : Nat → Nat) (k : Nat) (v : Nat) {i : Nat} (h : i < k) : updN f k v i = f i := by simp [updN, Nat.ne_of_lt h]
theorem Fill.put {w : World} {g n sz k : Nat} {el el' : Nat → List Value} (h : Fill w g n sz k el) (hk : k < n) (vs : List Value) (hl : vs.length = sz) (hel : ∀ i, (el i).length = sz) (he : ∀ i, i < k → el' i = el i) (hv : el' k = vs) : Fill (w.setCells g (k * sz) vs) g n sz (k + 1) el' := by
  refine ⟨by rw [size_setCells]; exact h.1, fun i hi => ?_, World.there_setCells h.2.2 _ _ _⟩
  by_cases e : i = k
  · subst e
    rw [hv]
    exact World.rangeAt_setCells_same w g (i * sz) vs (by rw [hl]; exact h.there_at hk)
  · have := mul_succ_le (sz := sz) (show i < k by omega)
    rw [he i (by omega)]
    exact World.rangeAt_setCells_apart (h.2.1 i (by omega)) g (k * sz) vs (.inr (.inl (by rw [hel i]; exact this)))
/-- What the loop has done when k groups are there. -/
def FillG (w : World) (q n k : Nat) (g : Nat → GV) : Prop := ∃ (h : Nat → GH) (lo : Nat → Nat), Fill w q n 14 k (fun i => grC (g i) (h i)) ∧ q < lo 0 ∧ lo k ≤ w.heap.size ∧ (∀ i, i < k → lo i ≤ lo (i + 1)) ∧ ∀ i, i < k → GLie (lo i) (lo (i + 1)) (h i) ∧ GOwn w (lo i) (g i) (h i)
theorem FillG.done {w : World} {q n : Nat} {g : Nat → GV} (f : FillG w q n n g) : ∃ h, OwnGs w q n g h := by
  obtain ⟨h, lo, h1, h2, _, hm, h3⟩ := f
  exact ⟨h, h1.done, lo, h2, hm, h3⟩
theorem FillG.new {w : World} {t : TypeId} {cs : Array Value} {n : Nat} (g : Nat → GV) (hs : cs.size = n * 14) : FillG (w.alloc (.cells cs t)) w.heap.size n 0 g :=
  ⟨fun _ => default, fun _ => w.heap.size + 1, Fill.new _ hs, Nat.lt_succ_self _, by simp, fun i hi => by omega, fun i hi => by omega⟩
theorem FillG.step {w w1 : World} {q n k : Nat} {g : Nat → GV} {h' : GH} (f : FillG w q n k g) (hk : k < n) (hb : Below w.heap.size w w1) (ho : GOwn w1 w.heap.size (g k) h') (hg : GLie w.heap.size w1.heap.size h') :
    FillG (w1.setCells q (k * 14) (grC (g k) h')) q n (k + 1) g := by
  obtain ⟨h, lo, h1, h2, h3, hm, h4⟩ := f
  have hlo : ∀ i, i ≤ k → q < lo i := fun i hi => by
    induction i with
    | zero => exact h2
    | succ i ih => exact Nat.lt_of_lt_of_le (ih (by omega)) (hm i (by omega))
  refine ⟨updH h k h', updN lo (k + 1) w1.heap.size, (h1.below hb h1.1).put hk _ rfl (fun _ => rfl) (fun i hi => by rw [updH_lt _ _ _ hi]) (by rw [updH_same]), by rw [updN_lt _ _ _ (by omega)]; exact h2, by rw [updN_same, size_setCells]; exact Nat.le_refl _, fun i hi => ?_, fun i hi => ?_⟩
  · by_cases e : i = k
    · subst e
      rw [updN_same, updN_lt _ _ _ (by omega)]
      exact Nat.le_trans h3 hb.size
    · rw [updN_lt _ _ _ (by omega), updN_lt _ _ _ (by omega)]
      exact hm i (by omega)
  · by_cases e : i = k
    · subst e
      rw [updH_same, updN_same, updN_lt _ _ _ (by omega)]
      exact ⟨hg.mono h3 (Nat.le_refl _), (ho.more h3).rowsOff (hlo i (Nat.le_refl _)) _ _⟩
    · rw [updH_lt _ _ _ (by omega), updN_lt _ _ _ (by omega), updN_lt _ _ _ (by omega)]
      obtain ⟨g1, g2⟩ := h4 i (by omega)
      exact ⟨g1, (g2.below hb (Nat.le_refl _)).rowsOff (hlo i (by omega)) _ _⟩
theorem oneGroup (us : Bool) (pa we cp pe ne su qu po sp : Int) (nm : ByteArray) (la da sa : Option Addr) (ln lc dn dc sn sc : Nat) : (#[.bool us, .int .i64 pa, .string nm, .int .i64 we, .int .i64 cp, .int .i64 pe, .int .i64 ne, .int .i64 su, .int .i64 qu, .int .i64 po, .int .i64 sp, .slice la ln lc, .slice da dn dc, .slice sa sn sc] : Array Value).all (·.oneCell') = true := by kernel_rfl
theorem sizeGroup : (Tryz.prog.info? 68).map (·.size) = some 14 := by kernel_rfl
theorem make_Group (n : Nat) (hn : n ≤ 1048576) (w : World) : ∃ cs : Array Value, cs.size = n * 14 ∧ (Instr.makeSlice 31 (.int .i64 (n : Int)) (.int .i64 (n : Int))).run Tryz.prog w = .ok (.slice (some ⟨w.heap.size, 0, none⟩) n n) (w.alloc (.cells cs 68)) := by
  have hinfo : (Tryz.prog.info? 68).map (fun i => (i.zero, i.size, i.bytes)) = some (some (.agg #[.bool false, .int .i64 0, .string ⟨#[]⟩, .int .i64 0, .int .i64 0, .int .i64 0, .int .i64 0, .int .i64 0, .int .i64 0, .int .i64 0, .int .i64 0, .slice none 0 0, .slice none 0 0, .slice none 0 0]), 14, 168) := by kernel_rfl
  obtain ⟨i0, hi, hz0, hz1, hz2⟩ := info_parts hinfo
  have := run_make (P := Tryz.prog) w 31 68 i0 _ Tryz.underlying31 hi hz0 .i64 .i64 n n (by omega) (by omega) (by
    rw [hz2]
    omega) (by omega)
  rw [hz1] at this
  exact ⟨madeCells #[.bool false, .int .i64 0, .string ⟨#[]⟩, .int .i64 0, .int .i64 0, .int .i64 0, .int .i64 0, .int .i64 0, .int .i64 0, .int .i64 0, .int .i64 0, .slice none 0 0, .slice none 0 0, .slice none 0 0] (n * 14), size_madeCells _ _, by simpa [Value.cells] using this⟩
set_option maxHeartbeats 1000000 in
theorem toGroupS_any (A : Option Addr) (n c : Nat) (hn : n ≤ 1048576) (g : Nat → GV) (h : Nat → GH) (w W : World) (hb : Below W.heap.size W w) (hL : ∀ i, i < n → GLen (g i)) (hA : GsRd W W.heap.size A n g h) :
    Calls Tryz.prog 28 #[.slice A n c] w fun e w' => e = .returned (.slice (some ⟨w.heap.size, 0, none⟩) n n) ∧ (∃ h', OwnGs w' w.heap.size n g h') ∧ Below w.heap.size w w' := by
  have hz := hb.size
  have hA' := hA.at_ hb
  obtain ⟨mk, hms, hmk⟩ := make_Group n hn w
  rcases Nat.eq_zero_or_pos n with h0 | h0
  · subst h0
    have hmk0 : (Instr.makeSlice 31 (.int .i64 0) (.int .i64 0)).run Tryz.prog w = .ok (.slice (some ⟨w.heap.size, 0, none⟩) 0 0) (w.alloc (.cells mk 68)) := hmk
    clear hmk hA hA'
    have HM := Lib.hid hms
    clear hms
    go_enter Tryz.func28, Tryz.ntmps28
    go_wp2
    refine wp_loop_rounds 1 ?_
    rw [rounds_succ]
    go_wp2
    go_ret
    exact ⟨rfl, (FillG.new g HM.out).done, (Below.refl _ _).alloc (Nat.le_refl _) _⟩
  · obtain ⟨ga, oa, rfl, hga, hca⟩ := hA'.r h0
    have HC := Lib.hid hca
    have HD := Lib.hid hA'.d
    have HM := Lib.hid hms
    clear hca hA hA' hms
    go_enter Tryz.func28, Tryz.ntmps28
    go_wp2
    go_loopw [4] (fun i wr => ∃ k : Nat, k ≤ n ∧ i = .int .i64 k ∧ Hid (FillG wr w.heap.size n k g) ∧ Below w.heap.size w wr) (fun i _ => n - (intOf i).toNat)
    case atStart => exact ⟨0, Nat.zero_le _, rfl, FillG.new _ HM.out, (Below.refl _ _).alloc (Nat.le_refl _) _⟩
    case round =>
      obtain ⟨k, hk, rfl, HB, hbr⟩ := hrel
      by_cases hlt : k < n
      · have hr : Hid (wr.rangeAt ga (oa + k * 14) [.bool (g k).us, .int .i64 (g k).pa, .string (g k).nm, .int .i64 (g k).we, .int .i64 (g k).cp, .int .i64 (g k).pe, .int .i64 (g k).ne, .int .i64 (g k).su, .int .i64 (g k).qu, .int .i64 (g k).po, .int .i64 (g k).sp, .slice (h k).la (g k).ln (h k).lc, .slice (h k).da (g k).dn (h k).dc, .slice (h k).sa (g k).sn (h k).sc]) := Lib.hid (rangeAt_below (HC.out k hlt) hbr hga)
        go_wp2_with (refine wpList_load_mid rfl 82 _ rfl ga (oa + k * 14) rfl _ _ hr.out Tryz.underlying82 rfl (by kernel_rfl) ?_)
        refine (toGroup_any (g k) (h k) (hL k hlt) _ w hbr (HD.out k hlt)).mono ?_
        rintro e w1 ⟨h', rfl, hO, hG, hb1⟩
        have HN : Hid (FillG (w1.setCells w.heap.size (k * 14) [.bool (g k).us, .int .i64 (g k).pa, .string (g k).nm, .int .i64 (g k).we, .int .i64 (g k).cp, .int .i64 (g k).pe, .int .i64 (g k).ne, .int .i64 (g k).su, .int .i64 (g k).qu, .int .i64 (g k).po, .int .i64 (g k).sp, .slice h'.la (g k).ln h'.lc, .slice h'.da (g k).dn h'.dc, .slice h'.sa (g k).sn h'.sc]) w.heap.size n (k + 1) g) := Lib.hid (HB.out.step hlt hb1 hO hG)
        have hth : w1.there w.heap.size (k * 14) (#[.bool (g k).us, .int .i64 (g k).pa, .string (g k).nm, .int .i64 (g k).we, .int .i64 (g k).cp, .int .i64 (g k).pe, .int .i64 (g k).ne, .int .i64 (g k).su, .int .i64 (g k).qu, .int .i64 (g k).po, .int .i64 (g k).sp, .slice h'.la (g k).ln h'.lc, .slice h'.da (g k).dn h'.dc, .slice h'.sa (g k).sn h'.sc] : Array Value).size := by
          obtain ⟨_, _, hf, _⟩ := HB.out
          exact (hf.below hb1 hf.1).there_at hlt
        have hB1 := hbr.trans (hb1.mono hbr.size)
        have HT := Lib.hid hth
        clear HB hb1 HM HC HD hr hO hG hth
        have hgoal : ∀ (ops : Array Oper) (Q : Exit → Act → World → Prop) (rest : List Oper) (op : Oper) (a : Act) (_ : op.guard = none) (_ : op.op = .store 68 (.tmp 21) (.tmp 20)) (_ : a.eval (.tmp 21) = .pointer (some ⟨w.heap.size, k * 14, none⟩)) (_ : a.eval (.tmp 20) = .agg #[.bool (g k).us, .int .i64 (g k).pa, .string (g k).nm, .int .i64 (g k).we, .int .i64 (g k).cp, .int .i64 (g k).pe, .int .i64 (g k).ne, .int .i64 (g k).su, .int .i64 (g k).qu, .int .i64 (g k).po, .int .i64 (g k).sp, .slice h'.la (g k).ln h'.lc, .slice h'.da (g k).dn h'.dc, .slice h'.sa (g k).sn h'.sc]) (_ : wpList Tryz.prog ops Q rest (a.put op.dst undef) (w1.setCells w.heap.size (k * 14) [.bool (g k).us, .int .i64 (g k).pa, .string (g k).nm, .int .i64 (g k).we, .int .i64 (g k).cp, .int .i64 (g k).pe, .int .i64 (g k).ne, .int .i64 (g k).su, .int .i64 (g k).qu, .int .i64 (g k).po, .int .i64 (g k).sp, .slice h'.la (g k).ln h'.lc, .slice h'.da (g k).dn h'.dc, .slice h'.sa (g k).sn h'.sc])), wpList Tryz.prog ops Q (op :: rest) a w1 :=
          fun ops Q rest op a hgd ho hx hy h => wpList_store_mid hgd _ _ _ ho w.heap.size (k * 14) #[.bool (g k).us, .int .i64 (g k).pa, .string (g k).nm, .int .i64 (g k).we, .int .i64 (g k).cp, .int .i64 (g k).pe, .int .i64 (g k).ne, .int .i64 (g k).su, .int .i64 (g k).qu, .int .i64 (g k).po, .int .i64 (g k).sp, .slice h'.la (g k).ln h'.lc, .slice h'.da (g k).dn h'.dc, .slice h'.sa (g k).sn h'.sc] hx hy HT.out sizeGroup (oneGroup ..) h
        have HG := Lib.hid hgoal
        clear hgoal HT
        go_wp2_with (have HGo := HG.out; (with_reducible refine HGo _ _ _ _ _ ?s1 ?s2 ?s3 ?s4 ?_); (case s1 => exact rfl); (case s2 => exact rfl); (case s3 => exact rfl); (case s4 => exact rfl); clear HGo)
        go_roundw
        case rel => exact ⟨k + 1, by omega, by go_num, HN, below_setCells _ (Nat.le_refl _) _ _ _ hB1⟩
        case measure => simp [intOf]; omega
      · obtain rfl : k = n := by omega
        go_wp2
        go_ret
        exact ⟨rfl, HB.out.done, hbr⟩
end Go.Proofs.YtndbmeedimhohaaGreat
namespace Go.Proofs.YtndbmeedimhohaaGreat
open Go.RowKit
set_option maxHeartbeats 1000000 in
theorem eqGroup_t (g : GV) (h h2 : GH) (hl : GLen g) (w W : World) (hb : Below W.heap.size W w) (hR : GRd W W.heap.size g h) (hR2 : GRd W W.heap.size g h2) :
    Calls Tryz.prog 65 #[.agg #[.bool g.us, .int .i64 g.pa, .string g.nm, .int .i64 g.we, .int .i64 g.cp, .int .i64 g.pe, .int .i64 g.ne, .int .i64 g.su, .int .i64 g.qu, .int .i64 g.po, .int .i64 g.sp, .slice h.la g.ln h.lc, .slice h.da g.dn h.dc, .slice h.sa g.sn h.sc], .agg #[.bool g.us, .int .i64 g.pa, .string g.nm, .int .i64 g.we, .int .i64 g.cp, .int .i64 g.pe, .int .i64 g.ne, .int .i64 g.su, .int .i64 g.qu, .int .i64 g.po, .int .i64 g.sp, .slice h2.la g.ln h2.lc, .slice h2.da g.dn h2.dc, .slice h2.sa g.sn h2.sc]] w fun e w' => e = .returned (.bool true) ∧ Below w.heap.size w w' := by
  have HR := Lib.hid (hR.at_ hb)
  have HR2 := Lib.hid (hR2.at_ hb)
  have HL := Lib.hid hl
  clear hR hR2 hl
  go_enter Tryz.func65, Tryz.ntmps65
  go_wp2_with fail
  refine (eqBand_t g.qu g.po g.sp h.la h.da h2.la h2.da g.ln g.dn h.lc h.dc h2.lc h2.dc HL.out.l HL.out.d g.lf g.df _ w (by go_grown) HR.out.l HR.out.d HR2.out.l HR2.out.d).mono ?_
  rintro e w1 ⟨rfl, hb1⟩
  have hB1 : Below w.heap.size w w1 := (by go_grown : Below w.heap.size w _).trans (hb1.mono (by simp only [World.size_alloc]; omega))
  have k1 := ((Bk.new' w w.heap.size _ _ rfl).alloc _).below hb1 (by simp only [World.size_alloc]; omega)
  have k2 := (Bk.new' _ (w.heap.size + 1) _ _ (by simp)).below hb1 (by simp only [World.size_alloc]; omega)
  clear hb1
  have c : w1.cell? ⟨w.heap.size, 13, none⟩ = some (.slice h.sa g.sn h.sc) := k1.cell 13
  have d : w1.cell? ⟨w.heap.size + 1, 13, none⟩ = some (.slice h2.sa g.sn h2.sc) := k2.cell 13
  clear k1 k2
  go_wp2_with fail
  refine (eqShelfS_t h.sa h2.sa g.sn h.sc h2.sc HL.out.s g.s0 g.s1 g.s2 g.s3 g.s4 _ w hB1 HR.out.s HR2.out.s).mono ?_
  rintro e w2 ⟨rfl, hb2⟩
  go_wp2
  go_ret
  exact ⟨rfl, hB1.trans (hb2.mono hB1.size)⟩
set_option maxHeartbeats 4000000 in
theorem eqGroupS_t (A A' : Option Addr) (n c c' : Nat) (hn : n ≤ 1048576) (g : Nat → GV) (h h2 : Nat → GH) (hL : ∀ i, i < n → GLen (g i)) (w W : World) (hb : Below W.heap.size W w) (hA : GsRd W W.heap.size A n g h) (hA' : GsRd W W.heap.size A' n g h2) :
    Calls Tryz.prog 34 #[.slice A n c, .slice A' n c'] w fun e w' => e = .returned (.bool true) ∧ Below w.heap.size w w' := by
  rcases Nat.eq_zero_or_pos n with h0 | h0
  · subst h0
    go_enter Tryz.func34, Tryz.ntmps34
    go_wp2
    refine wp_loop_rounds 1 ?_
    rw [rounds_succ]
    go_wp2
    go_ret
    exact ⟨rfl, Below.refl _ _⟩
  · obtain ⟨ga, oa, rfl, hga, hca⟩ := (hA.at_ hb).r h0
    obtain ⟨ga', oa', rfl, hga', hca'⟩ := (hA'.at_ hb).r h0
    have HC := Lib.hid hca
    have HC' := Lib.hid hca'
    have HD := Lib.hid (hA.at_ hb).d
    have HD' := Lib.hid (hA'.at_ hb).d
    have HL := Lib.hid hL
    clear hca hA hca' hA' hL
    go_enter Tryz.func34, Tryz.ntmps34
    go_wp2
    go_loopw [5] (fun i wr => ∃ k : Nat, k ≤ n ∧ i = .int .i64 k ∧ Below w.heap.size w wr) (fun i _ => n - (intOf i).toNat)
    case atStart => exact ⟨0, Nat.zero_le _, rfl, Below.refl _ _⟩
    case round =>
      obtain ⟨k, hk, rfl, hbr⟩ := hrel
      by_cases hlt : k < n
      · have hr := rangeAt_below (HC.out k hlt) hbr hga
        have hr' := rangeAt_below (HC'.out k hlt) hbr hga'
        have c0 : wr.cell? ⟨ga, oa + k * 14 + 0, none⟩ = some (.bool (g k).us) := hr 0 _ rfl
        have c1 : wr.cell? ⟨ga, oa + k * 14 + 1, none⟩ = some (.int .i64 (g k).pa) := hr 1 _ rfl
        have c2 : wr.cell? ⟨ga, oa + k * 14 + 2, none⟩ = some (.string (g k).nm) := hr 2 _ rfl
        have c3 : wr.cell? ⟨ga, oa + k * 14 + 3, none⟩ = some (.int .i64 (g k).we) := hr 3 _ rfl
        have c4 : wr.cell? ⟨ga, oa + k * 14 + 4, none⟩ = some (.int .i64 (g k).cp) := hr 4 _ rfl
        have c5 : wr.cell? ⟨ga, oa + k * 14 + 5, none⟩ = some (.int .i64 (g k).pe) := hr 5 _ rfl
        have c6 : wr.cell? ⟨ga, oa + k * 14 + 6, none⟩ = some (.int .i64 (g k).ne) := hr 6 _ rfl
        have c7 : wr.cell? ⟨ga, oa + k * 14 + 7, none⟩ = some (.int .i64 (g k).su) := hr 7 _ rfl
        have c8 : wr.cell? ⟨ga, oa + k * 14 + 8, none⟩ = some (.int .i64 (g k).qu) := hr 8 _ rfl
        have c9 : wr.cell? ⟨ga, oa + k * 14 + 9, none⟩ = some (.int .i64 (g k).po) := hr 9 _ rfl
        have c10 : wr.cell? ⟨ga, oa + k * 14 + 10, none⟩ = some (.int .i64 (g k).sp) := hr 10 _ rfl
        have c11 : wr.cell? ⟨ga, oa + k * 14 + 11, none⟩ = some (.slice (h k).la (g k).ln (h k).lc) := hr 11 _ rfl
        have c12 : wr.cell? ⟨ga, oa + k * 14 + 12, none⟩ = some (.slice (h k).da (g k).dn (h k).dc) := hr 12 _ rfl
        have c13 : wr.cell? ⟨ga, oa + k * 14 + 13, none⟩ = some (.slice (h k).sa (g k).sn (h k).sc) := hr 13 _ rfl
        have d0 : wr.cell? ⟨ga', oa' + k * 14 + 0, none⟩ = some (.bool (g k).us) := hr' 0 _ rfl
        have d1 : wr.cell? ⟨ga', oa' + k * 14 + 1, none⟩ = some (.int .i64 (g k).pa) := hr' 1 _ rfl
        have d2 : wr.cell? ⟨ga', oa' + k * 14 + 2, none⟩ = some (.string (g k).nm) := hr' 2 _ rfl
        have d3 : wr.cell? ⟨ga', oa' + k * 14 + 3, none⟩ = some (.int .i64 (g k).we) := hr' 3 _ rfl
        have d4 : wr.cell? ⟨ga', oa' + k * 14 + 4, none⟩ = some (.int .i64 (g k).cp) := hr' 4 _ rfl
        have d5 : wr.cell? ⟨ga', oa' + k * 14 + 5, none⟩ = some (.int .i64 (g k).pe) := hr' 5 _ rfl
        have d6 : wr.cell? ⟨ga', oa' + k * 14 + 6, none⟩ = some (.int .i64 (g k).ne) := hr' 6 _ rfl
        have d7 : wr.cell? ⟨ga', oa' + k * 14 + 7, none⟩ = some (.int .i64 (g k).su) := hr' 7 _ rfl
        have d8 : wr.cell? ⟨ga', oa' + k * 14 + 8, none⟩ = some (.int .i64 (g k).qu) := hr' 8 _ rfl
        have d9 : wr.cell? ⟨ga', oa' + k * 14 + 9, none⟩ = some (.int .i64 (g k).po) := hr' 9 _ rfl
        have d10 : wr.cell? ⟨ga', oa' + k * 14 + 10, none⟩ = some (.int .i64 (g k).sp) := hr' 10 _ rfl
        have d11 : wr.cell? ⟨ga', oa' + k * 14 + 11, none⟩ = some (.slice (h2 k).la (g k).ln (h2 k).lc) := hr' 11 _ rfl
        have d12 : wr.cell? ⟨ga', oa' + k * 14 + 12, none⟩ = some (.slice (h2 k).da (g k).dn (h2 k).dc) := hr' 12 _ rfl
        have d13 : wr.cell? ⟨ga', oa' + k * 14 + 13, none⟩ = some (.slice (h2 k).sa (g k).sn (h2 k).sc) := hr' 13 _ rfl
        simp only [Nat.add_zero] at c0 d0
        have hBr := Lib.hid hbr
        have hzr := hbr.size
        have HX := Lib.hid (HD.out k hlt)
        have HX' := Lib.hid (HD'.out k hlt)
        have HLk := Lib.hid (HL.out k hlt)
        clear HC HC' HD HD' HL hr hr' hbr
        go_wp2
        go_region_with (go_at_call 65; refine (eqGroup_t (g k) (h k) (h2 k) HLk.out _ w (by first | exact hBr.out | exact hBr.out.drew) HX.out HX'.out).mono ?_; rintro e w1 ⟨rfl, hb1⟩)
        all_goals
          go_wp2
          go_roundw
          case rel => exact ⟨k + 1, by omega, by go_num, hBr.out.trans (((Below.refl _ wr).drew.trans hb1).mono hzr)⟩
          case measure => simp [intOf]; omega
      · obtain rfl : k = n := by omega
        go_wp2
        go_ret
        exact ⟨rfl, hbr⟩
theorem szN_cases (l : Int) (n : Nat) : szN l n = -1 ∨ (0 ≤ szN l n ∧ szN l n = l - n) := by unfold szN; split <;> omega
set_option maxHeartbeats 1000000 in
theorem szGroup_any (g : GV) (h : GH) (hB : GBig g) (l : Int) (h0 : 0 ≤ l) (hl : l ≤ 1048576) (w W : World) (hb : Below W.heap.size W w) :
    Calls Tryz.prog 56 #[.agg #[.bool g.us, .int .i64 g.pa, .string g.nm, .int .i64 g.we, .int .i64 g.cp, .int .i64 g.pe, .int .i64 g.ne, .int .i64 g.su, .int .i64 g.qu, .int .i64 g.po, .int .i64 g.sp, .slice h.la g.ln h.lc, .slice h.da g.dn h.dc, .slice h.sa g.sn h.sc], .int .i64 l] w fun e w' => ∃ r : Int, e = .returned (.int .i64 r) ∧ Below W.heap.size W w' ∧ (r = -1 ∨ (0 ≤ r ∧ r ≤ l ∧ GLen g)) := by
  obtain ⟨b1, b2, b3, b4⟩ := hB
  have hz := hb.size
  by_cases h1 : l - g.nm.size < 0
  · go_enter Tryz.func56, Tryz.ntmps56
    go_wp2
    go_ret
    exact ⟨-1, rfl, by go_grown, .inl rfl⟩
  · by_cases h2 : l - g.nm.size - g.ln - g.dn < 0
    · have hs := szB_neg2 (l - g.nm.size) g.ln g.dn h2
      go_enter Tryz.func56, Tryz.ntmps56
      go_wp2_with fail
      refine (szBand_any g.qu g.po g.sp (l - g.nm.size) h.la h.da g.ln g.dn h.lc h.dc (by omega) (by omega) b2 b3 _ _ (Below.refl _ _)).mono ?_
      rintro e w1 ⟨rfl, hb1⟩
      rw [hs]
      have hB1 : Below W.heap.size W w1 := (by go_grown : Below W.heap.size W _).trans (hb1.mono (by simp only [World.size_alloc]; omega))
      clear hb1
      go_wp2
      go_ret
      exact ⟨-1, rfl, hB1, .inl rfl⟩
    · have hs := szB_pos (l - g.nm.size) g.ln g.dn h2
      have hs3 := szN_cases (l - g.nm.size - g.ln - g.dn) g.sn
      go_enter Tryz.func56, Tryz.ntmps56
      go_wp2_with fail
      refine (szBand_any g.qu g.po g.sp (l - g.nm.size) h.la h.da g.ln g.dn h.lc h.dc (by omega) (by omega) b2 b3 _ _ (Below.refl _ _)).mono ?_
      rintro e w1 ⟨rfl, hb1⟩
      rw [hs]
      have hB1 : Below W.heap.size W w1 := (by go_grown : Below W.heap.size W _).trans (hb1.mono (by simp only [World.size_alloc]; omega))
      have k1 := (Bk.new' w w.heap.size _ _ rfl).below hb1 (by simp only [World.size_alloc]; omega)
      have c : w1.cell? ⟨w.heap.size, 13, none⟩ = some (.slice h.sa g.sn h.sc) := k1.cell 13
      clear hb1 k1
      rcases hs3 with hs3 | ⟨hs3, hs4⟩
      · go_wp2_with (go_at_call 97; refine (szShelfS_any h.sa g.sn h.sc _ (by omega) (by omega) b4 _).mono ?_; rintro e w2 ⟨rfl, rfl⟩; rw [hs3])
        go_ret
        exact ⟨-1, rfl, hB1, .inl rfl⟩
      · go_wp2_with (go_at_call 97; refine (szShelfS_any h.sa g.sn h.sc _ (by omega) (by omega) b4 _).mono ?_; rintro e w2 ⟨rfl, rfl⟩; rw [hs4])
        go_ret
        exact ⟨_, rfl, hB1, .inr ⟨by omega, by omega, ⟨by omega, by omega, by omega, by omega⟩⟩⟩
set_option maxHeartbeats 1000000 in
theorem szGroupS_any (A : Option Addr) (n c : Nat) (hn : (n : Int) ≤ 9223372036854775807) (g : Nat → GV) (h : Nat → GH) (hB : ∀ i, i < n → GBig (g i)) (l : Int) (h0 : 0 ≤ l) (hl : l ≤ 1048576) (w W : World) (hb : Below W.heap.size W w) (hA : GsRd W W.heap.size A n g h) :
    Calls Tryz.prog 23 #[.slice A n c, .int .i64 l] w fun e w' => ∃ r : Int, e = .returned (.int .i64 r) ∧ Below W.heap.size W w' ∧ (r = -1 ∨ (0 ≤ r ∧ r ≤ l ∧ n ≤ 1048576 ∧ ∀ i, i < n → GLen (g i))) := by
  have hz := hb.size
  by_cases h1 : l - n < 0
  · go_enter Tryz.func23, Tryz.ntmps23
    go_wp2
    go_ret
    exact ⟨-1, rfl, by go_grown, .inl rfl⟩
  · rcases Nat.eq_zero_or_pos n with hn0 | hn0
    · subst hn0
      go_enter Tryz.func23, Tryz.ntmps23
      go_wp2
      refine wp_loop_rounds 1 ?_
      rw [rounds_succ]
      go_wp2
      go_ret
      exact ⟨_, rfl, by go_grown, .inr ⟨by omega, by omega, by omega, fun i hi => by omega⟩⟩
    · obtain ⟨ga, oa, rfl, hga, hca⟩ := (hA.at_ hb).r hn0
      have HC := Lib.hid hca
      have HBg := Lib.hid hB
      clear hca hA hB
      go_enter Tryz.func23, Tryz.ntmps23
      go_wp2
      go_loopw [1, 5] (fun j i wr => ∃ k : Nat, k ≤ n ∧ i = .int .i64 k ∧ (∃ x : Int, j = .int .i64 x ∧ 0 ≤ x ∧ x ≤ l) ∧ (∀ i, i < k → GLen (g i)) ∧ Below w.heap.size w wr) (fun _ i _ => n - (intOf i).toNat)
      case atStart => exact ⟨0, Nat.zero_le _, rfl, ⟨_, rfl, by omega, by omega⟩, fun i hi => by omega, Below.refl _ _⟩
      case round =>
        obtain ⟨k, hk, rfl, ⟨x, rfl, hx0, hx1⟩, hgl, hbr⟩ := hrel
        by_cases hlt : k < n
        · have hr : Hid (wr.rangeAt ga (oa + k * 14) [.bool (g k).us, .int .i64 (g k).pa, .string (g k).nm, .int .i64 (g k).we, .int .i64 (g k).cp, .int .i64 (g k).pe, .int .i64 (g k).ne, .int .i64 (g k).su, .int .i64 (g k).qu, .int .i64 (g k).po, .int .i64 (g k).sp, .slice (h k).la (g k).ln (h k).lc, .slice (h k).da (g k).dn (h k).dc, .slice (h k).sa (g k).sn (h k).sc]) := Lib.hid (rangeAt_below (HC.out k hlt) hbr hga)
          have HGk := Lib.hid (HBg.out k hlt)
          have HGL := Lib.hid hgl
          clear hgl
          go_wp2_with (refine wpList_load_mid rfl 82 _ rfl ga (oa + k * 14) rfl _ _ hr.out Tryz.underlying82 rfl (by kernel_rfl) ?_)
          refine (szGroup_any (g k) (h k) HGk.out x hx0 (by omega) _ w hbr).mono ?_
          rintro e w1 ⟨r, rfl, hb1, hr1⟩
          clear hr
          rcases hr1 with rfl | ⟨hr1, hr2, hr3⟩
          · go_wp2
            go_ret
            exact ⟨-1, rfl, hb.trans (hb1.mono hz), .inl rfl⟩
          · have HR3 := Lib.hid hr3
            clear hr3
            go_wp2
            go_roundw
            case rel => exact ⟨k + 1, by omega, by go_num, ⟨r, rfl, hr1, by omega⟩, fun i hi => by
              by_cases e : i = k
              · subst e; exact HR3.out
              · exact HGL.out i (by omega), hb1⟩
            case measure => simp [intOf]; omega
        · obtain rfl : k = n := by omega
          have HGL := Lib.hid hgl
          clear hgl
          go_wp2
          go_ret
          exact ⟨x, rfl, hb.trans (hbr.mono hz), .inr ⟨hx0, hx1, by omega, HGL.out⟩⟩
end Go.Proofs.YtndbmeedimhohaaGreat
namespace Go.Proofs.YtndbmeedimhohaaGreat
open Go.RowKit
structure CV where
  up : Bool
  cu : Int
  ra : Int
  bu : Int
  id : Int
structure TV where
  st : Int
  gr : Int
  cp : Int
  ni : Int
  ma : Int
  vv : Int
  su : Int
  us : Int
  lo : Int
def cpC (v : CV) : List Value := [.bool v.up, .int .i64 v.cu, .int .i64 v.ra, .int .i64 v.bu, .int .i64 v.id]
def taC (v : TV) : List Value := [.int .i64 v.st, .int .i64 v.gr, .int .i64 v.cp, .int .i64 v.ni, .int .i64 v.ma, .int .i64 v.vv, .int .i64 v.su, .int .i64 v.us, .int .i64 v.lo]
theorem cpC_length (v : CV) : (cpC v).length = 5 := rfl
theorem taC_length (v : TV) : (taC v).length = 9 := rfl
/-- What a world holds. -/
structure WV where
  now : Int
  cn : Nat
  cv : Nat → CV
  tn : Nat
  tv : Nat → TV
  gn : Nat
  gv : Nat → GV
/-- Where the rows of a world lie. -/
structure WH where
  ca : Option Addr
  cc : Nat
  ta : Option Addr
  tc : Nat
  ga : Option Addr
  gc : Nat
  gh : Nat → GH
/-- The rows of a world read as it says, below block B. -/
structure WRd (w : World) (B : Nat) (v : WV) (h : WH) : Prop where
  c : Rs w B h.ca v.cn 5 (fun i => cpC (v.cv i))
  t : Rs w B h.ta v.tn 9 (fun i => taC (v.tv i))
  g : GsRd w B h.ga v.gn v.gv h.gh
theorem WRd.below {w w' : World} {B : Nat} {v : WV} {h : WH} (r : WRd w B v h) (hb : Below B w w') : WRd w' B v h := ⟨r.c.below hb, r.t.below hb, r.g.below hb⟩
theorem WRd.more {w : World} {B B' : Nat} {v : WV} {h : WH} (r : WRd w B v h) (hB : B ≤ B') : WRd w B' v h := ⟨r.c.more hB, r.t.more hB, r.g.more hB⟩
theorem WRd.at_ {W w : World} {v : WV} {h : WH} (r : WRd W W.heap.size v h) (hb : Below W.heap.size W w) : WRd w w.heap.size v h := (r.below hb).more hb.size
/-- How long the rows of a world are. -/
structure WLen (v : WV) : Prop where
  c : v.cn ≤ 1048576
  t : v.tn ≤ 1048576
  g : v.gn ≤ 1048576
  l : ∀ i, i < v.gn → GLen (v.gv i)
set_option maxHeartbeats 2000000 in
theorem eqWorld_t (v : WV) (h h2 : WH) (hl : WLen v) (w W : World) (hb : Below W.heap.size W w) (hR : WRd W W.heap.size v h) (hR2 : WRd W W.heap.size v h2) :
    Calls Tryz.prog 12 #[.agg #[.int .i64 v.now, .slice h.ca v.cn h.cc, .slice h.ta v.tn h.tc, .slice h.ga v.gn h.gc], .agg #[.int .i64 v.now, .slice h2.ca v.cn h2.cc, .slice h2.ta v.tn h2.tc, .slice h2.ga v.gn h2.gc]] w fun e w' => e = .returned (.bool true) ∧ Below w.heap.size w w' := by
  have HR := Lib.hid (hR.at_ hb)
  have HR2 := Lib.hid (hR2.at_ hb)
  have HL := Lib.hid hl
  clear hR hR2 hl hb
  go_enter Tryz.func12, Tryz.ntmps12
  go_wp2_with fail
  refine (eqCpuS_t h.ca h2.ca v.cn h.cc h2.cc HL.out.c (fun i => (v.cv i).up) (fun i => (v.cv i).cu) (fun i => (v.cv i).ra) (fun i => (v.cv i).bu) (fun i => (v.cv i).id) _ w (by go_grown) HR.out.c HR2.out.c).mono ?_
  rintro e w1 ⟨rfl, hb1⟩
  have hB1 : Below w.heap.size w w1 := (by go_grown : Below w.heap.size w _).trans (hb1.mono (by simp only [World.size_alloc]; omega))
  have K1 := Lib.hid (((Bk.new' w w.heap.size _ _ rfl).alloc _).below hb1 (by simp only [World.size_alloc]; omega))
  have K2 := Lib.hid ((Bk.new' _ (w.heap.size + 1) _ _ (by simp)).below hb1 (by simp only [World.size_alloc]; omega))
  clear hb1
  obtain ⟨_, _, x2, x3⟩ := K1.out.four
  obtain ⟨_, _, y2, y3⟩ := K2.out.four
  have HB1 := Lib.hid hB1
  clear hB1
  go_wp2_with fail
  refine (eqTaskS_t h.ta h2.ta v.tn h.tc h2.tc HL.out.t (fun i => (v.tv i).st) (fun i => (v.tv i).gr) (fun i => (v.tv i).cp) (fun i => (v.tv i).ni) (fun i => (v.tv i).ma) (fun i => (v.tv i).vv) (fun i => (v.tv i).su) (fun i => (v.tv i).us) (fun i => (v.tv i).lo) _ w HB1.out HR.out.t HR2.out.t).mono ?_
  rintro e w2 ⟨rfl, hb2⟩
  have HB2 := Lib.hid (HB1.out.trans (hb2.mono HB1.out.size))
  obtain ⟨_, _, _, x3⟩ := (K1.out.below hb2 K1.out.lt).four
  obtain ⟨_, _, _, y3⟩ := (K2.out.below hb2 K2.out.lt).four
  clear hb2 HB1 K1 K2
  go_wp2_with fail
  refine (eqGroupS_t h.ga h2.ga v.gn h.gc h2.gc HL.out.g v.gv h.gh h2.gh HL.out.l _ w HB2.out HR.out.g HR2.out.g).mono ?_
  rintro e w3 ⟨rfl, hb3⟩
  have HB3 := Lib.hid (HB2.out.trans (hb3.mono HB2.out.size))
  clear hb3
  go_wp2
  go_ret
  exact ⟨rfl, HB3.out⟩
end Go.Proofs.YtndbmeedimhohaaGreat

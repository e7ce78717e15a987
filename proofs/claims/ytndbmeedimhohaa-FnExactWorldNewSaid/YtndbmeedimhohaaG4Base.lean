/- Trees: groups: copying (printed by mkg.py). -/
import Derived.Test.YtndbmeedimhohaaG3Base
namespace Go.Proofs.Ytndbmeedimhohaa
open Go.RowKit
/-- A group's rows lie between two numbers, none two alike. -/
def GLie (lo hi : Nat) (h : GH) : Prop := (∀ b, (hd h.la b ∨ hd h.da b ∨ hd h.sa b) → lo ≤ b ∧ b < hi) ∧
  ∀ b, (hd h.la b → ¬ hd h.da b ∧ ¬ hd h.sa b) ∧ (hd h.da b → ¬ hd h.la b ∧ ¬ hd h.sa b) ∧ (hd h.sa b → ¬ hd h.la b ∧ ¬ hd h.da b)
theorem GLie.of {lo hi b1 b2 b3 : Nat} {h : GH} (e1 : h.la = some ⟨b1, 0, none⟩) (e2 : h.da = some ⟨b2, 0, none⟩) (e3 : h.sa = some ⟨b3, 0, none⟩) (h1 : lo ≤ b1) (h2 : b1 < b2) (h3 : b2 < b3) (h4 : b3 < hi) : GLie lo hi h := by
  refine ⟨fun b hb => ?_, fun b => ?_⟩
  · rcases hb with ⟨o, e⟩ | ⟨o, e⟩ | ⟨o, e⟩
    · rw [e1] at e; simp only [Option.some.injEq, Addr.mk.injEq] at e; omega
    · rw [e2] at e; simp only [Option.some.injEq, Addr.mk.injEq] at e; omega
    · rw [e3] at e; simp only [Option.some.injEq, Addr.mk.injEq] at e; omega
  · simp only [hd, e1, e2, e3, Option.some.injEq, Addr.mk.injEq]
    refine ⟨?_, ?_, ?_⟩ <;> rintro ⟨o, e, -⟩ <;> refine ⟨?_, ?_⟩ <;> rintro ⟨o', e', -⟩ <;> omega
theorem GLie.mono {lo hi lo' hi' : Nat} {h : GH} (l : GLie lo hi h) (h1 : lo' ≤ lo) (h2 : hi ≤ hi') : GLie lo' hi' h := ⟨fun b hb => by have := l.1 b hb; omega, l.2⟩
theorem GLie.none {lo hi : Nat} {h : GH} (e1 : h.la = none) (e2 : h.da = none) (e3 : h.sa = none) : GLie lo hi h := by
  refine ⟨fun b hb => ?_, fun b => ?_⟩
  · rcases hb with ⟨o, e⟩ | ⟨o, e⟩ | ⟨o, e⟩
    · rw [e1] at e; cases e
    · rw [e2] at e; cases e
    · rw [e3] at e; cases e
  · simp [hd, e1, e2, e3]
/-- Groups of the call's own: their cells, their rows, none of which is another's. -/
def OwnGs (w : World) (q n : Nat) (g : Nat → GV) (h : Nat → GH) : Prop :=
  OwnS w q n 14 (fun i => grC (g i) (h i)) ∧ ∃ lo : Nat → Nat, q < lo 0 ∧ (∀ i, i < n → lo i ≤ lo (i + 1)) ∧ ∀ i, i < n → GLie (lo i) (lo (i + 1)) (h i) ∧ GOwn w (lo i) (g i) (h i)
theorem OwnGs.rd {w : World} {q n : Nat} {g : Nat → GV} {h : Nat → GH} (o : OwnGs w q n g h) : GsRd w w.heap.size (some ⟨q, 0, none⟩) n g h := by
  obtain ⟨o1, lo, _, _, h2⟩ := o
  exact ⟨o1.rs, fun i hi => (h2 i hi).2.rd⟩
theorem OwnGs.below {w w' : World} {q n : Nat} {g : Nat → GV} {h : Nat → GH} (o : OwnGs w q n g h) (hb : Below w.heap.size w w') : OwnGs w' q n g h := by
  obtain ⟨o1, lo, h0, hm, h2⟩ := o
  exact ⟨o1.below hb o1.1, lo, h0, hm, fun i hi => ⟨(h2 i hi).1, (h2 i hi).2.below hb (Nat.le_refl _)⟩⟩
def updH (f : Nat → GH) (k : Nat) (v : GH) (i : Nat) : GH := if i = k then v else f i
theorem updH_same (f : Nat → GH) (k : Nat) (v : GH) : updH f k v k = v := by simp [updH]
theorem updH_lt (f : Nat → GH) (k : Nat) (v : GH) {i : Nat} (h : i < k) : updH f k v i = f i := by simp [updH, Nat.ne_of_lt h]
def updN (f : Nat → Nat) (k : Nat) (v : Nat) (i : Nat) : Nat := if i = k then v else f i
theorem updN_same (f : Nat → Nat) (k : Nat) (v : Nat) : updN f k v k = v := by simp [updN]
theorem updN_lt (f : Nat → Nat) (k : Nat) (v : Nat) {i : Nat} (h : i < k) : updN f k v i = f i := by simp [updN, Nat.ne_of_lt h]
theorem Fill.put {w : World} {g n sz k : Nat} {el el' : Nat → List Value} (h : Fill w g n sz k el) (hk : k < n) (vs : List Value) (hl : vs.length = sz) (hel : ∀ i, (el i).length = sz) (he : ∀ i, i < k → el' i = el i) (hv : el' k = vs) : Fill (w.setCells g (k * sz) vs) g n sz (k + 1) el' := by
  refine ⟨by rw [size_setCells]; exact h.1, fun i hi => ?_, World.there_setCells h.2.2 _ _ _⟩
  by_cases e : i = k
  · subst e
    rw [hv]
    exact World.rangeAt_setCells_same w g (i * sz) vs (by rw [hl]; exact h.there_at hk)
  · have := mul_succ_le (sz := sz) (show i < k by omega)
    rw [he i (by omega)]
    exact World.rangeAt_setCells_apart (h.2.1 i (by omega)) g (k * sz) vs (.inr (.inl (by rw [hel i]; exact this)))
/-- What the loop has done when k groups are there. -/
def FillG (w : World) (q n k : Nat) (g : Nat → GV) : Prop := ∃ (h : Nat → GH) (lo : Nat → Nat), Fill w q n 14 k (fun i => grC (g i) (h i)) ∧ q < lo 0 ∧ lo k ≤ w.heap.size ∧ (∀ i, i < k → lo i ≤ lo (i + 1)) ∧ ∀ i, i < k → GLie (lo i) (lo (i + 1)) (h i) ∧ GOwn w (lo i) (g i) (h i)
theorem FillG.done {w : World} {q n : Nat} {g : Nat → GV} (f : FillG w q n n g) : ∃ h, OwnGs w q n g h := by
  obtain ⟨h, lo, h1, h2, _, hm, h3⟩ := f
  exact ⟨h, h1.done, lo, h2, hm, h3⟩
theorem FillG.new {w : World} {t : TypeId} {cs : Array Value} {n : Nat} (g : Nat → GV) (hs : cs.size = n * 14) : FillG (w.alloc (.cells cs t)) w.heap.size n 0 g :=
  ⟨fun _ => default, fun _ => w.heap.size + 1, Fill.new _ hs, Nat.lt_succ_self _, by simp, fun i hi => by omega, fun i hi => by omega⟩
theorem FillG.step {w w1 : World} {q n k : Nat} {g : Nat → GV} {h' : GH} (f : FillG w q n k g) (hk : k < n) (hb : Below w.heap.size w w1) (ho : GOwn w1 w.heap.size (g k) h') (hg : GLie w.heap.size w1.heap.size h') :
    FillG (w1.setCells q (k * 14) (grC (g k) h')) q n (k + 1) g := by
  obtain ⟨h, lo, h1, h2, h3, hm, h4⟩ := f
  have hlo : ∀ i, i ≤ k → q < lo i := fun i hi => by
    induction i with
    | zero => exact h2
    | succ i ih => exact Nat.lt_of_lt_of_le (ih (by omega)) (hm i (by omega))
  refine ⟨updH h k h', updN lo (k + 1) w1.heap.size, (h1.below hb h1.1).put hk _ rfl (fun _ => rfl) (fun i hi => by rw [updH_lt _ _ _ hi]) (by rw [updH_same]), by rw [updN_lt _ _ _ (by omega)]; exact h2, by rw [updN_same, size_setCells]; exact Nat.le_refl _, fun i hi => ?_, fun i hi => ?_⟩
  · by_cases e : i = k
    · subst e
      rw [updN_same, updN_lt _ _ _ (by omega)]
      exact Nat.le_trans h3 hb.size
    · rw [updN_lt _ _ _ (by omega), updN_lt _ _ _ (by omega)]
      exact hm i (by omega)
  · by_cases e : i = k
    · subst e
      rw [updH_same, updN_same, updN_lt _ _ _ (by omega)]
      exact ⟨hg.mono h3 (Nat.le_refl _), (ho.more h3).rowsOff (hlo i (Nat.le_refl _)) _ _⟩
    · rw [updH_lt _ _ _ (by omega), updN_lt _ _ _ (by omega), updN_lt _ _ _ (by omega)]
      obtain ⟨g1, g2⟩ := h4 i (by omega)
      exact ⟨g1, (g2.below hb (Nat.le_refl _)).rowsOff (hlo i (by omega)) _ _⟩
theorem oneGroup (us : Bool) (pa we cp pe ne su qu po sp : Int) (nm : ByteArray) (la da sa : Option Addr) (ln lc dn dc sn sc : Nat) : (#[.bool us, .int .i64 pa, .string nm, .int .i64 we, .int .i64 cp, .int .i64 pe, .int .i64 ne, .int .i64 su, .int .i64 qu, .int .i64 po, .int .i64 sp, .slice la ln lc, .slice da dn dc, .slice sa sn sc] : Array Value).all (·.oneCell') = true := by kernel_rfl
theorem sizeGroup : (Try.prog.info? 41).map (·.size) = some 14 := by kernel_rfl
theorem make_Group (n : Nat) (hn : n ≤ 1048576) (w : World) : ∃ cs : Array Value, cs.size = n * 14 ∧ (Instr.makeSlice 24 (.int .i64 (n : Int)) (.int .i64 (n : Int))).run Try.prog w = .ok (.slice (some ⟨w.heap.size, 0, none⟩) n n) (w.alloc (.cells cs 41)) := by
  have hinfo : (Try.prog.info? 41).map (fun i => (i.zero, i.size, i.bytes)) = some (some (.agg #[.bool false, .int .i64 0, .string ⟨#[]⟩, .int .i64 0, .int .i64 0, .int .i64 0, .int .i64 0, .int .i64 0, .int .i64 0, .int .i64 0, .int .i64 0, .slice none 0 0, .slice none 0 0, .slice none 0 0]), 14, 168) := by kernel_rfl
  obtain ⟨i0, hi, hz0, hz1, hz2⟩ := info_parts hinfo
  have := run_make (P := Try.prog) w 24 41 i0 _ Try.underlying24 hi hz0 .i64 .i64 n n (by omega) (by omega) (by
    rw [hz2]
    omega) (by omega)
  rw [hz1] at this
  exact ⟨madeCells #[.bool false, .int .i64 0, .string ⟨#[]⟩, .int .i64 0, .int .i64 0, .int .i64 0, .int .i64 0, .int .i64 0, .int .i64 0, .int .i64 0, .int .i64 0, .slice none 0 0, .slice none 0 0, .slice none 0 0] (n * 14), size_madeCells _ _, by simpa [Value.cells] using this⟩
end Go.Proofs.Ytndbmeedimhohaa

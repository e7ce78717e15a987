/- Regions that pick: the reader of a code and what each slot holds. -/
import Derived.Test.YtbgmjcfnehnicaaD1Base
import Derived.Test.YtbgmjcfnehnicaaR0Base
namespace Go.Proofs.Ytbgmjcfnehnicaa
open Go.RowKit
/-- Regions that pick: the reader's place and what each operation's slot holds. -/
structure DI (g N : Nat) (w0 : World) (sl : Nat → Nat) (H : Nat → Value → World → Prop) (l : Array Bool) (xs : Nat → Value) (w : World) : Prop where
  bel : Below w0.heap.size w0 w
  rd : ∃ p : Int, 0 ≤ p ∧ p + 10 * (l.toList.count false : Nat) ≤ 10 * (N : Nat) ∧ RdAt w g p
  at_ : ∀ j, j < N → seen l j → H j (xs (sl j)) w
section
variable {g N : Nat} {w0 w w' : World} {sl : Nat → Nat} {H : Nat → Value → World → Prop} {l : Array Bool} {xs : Nat → Value}
theorem DI.start {p : Int} (hb : Below w0.heap.size w0 w) (p0 : 0 ≤ p) (p1 : p ≤ 0) (hr : RdAt w g p) : DI g N w0 sl H (Array.replicate N false) xs w.drew :=
  ⟨hb.drew, ⟨p, p0, by rw [Array.toList_replicate, List.count_replicate_self]; omega, hr.drewN 1⟩, fun j _ hs => absurd hs (seen_none _ _)⟩
/-- An operation's slot is filled; the reader has moved on by at most ten. -/
theorem DI.put (d : DI g N w0 sl H l xs w) (hg : w0.heap.size ≤ g) (hst : ∀ j v, j < N → H j v w → H j v w') {i : Nat} (hnl : l.getD i true = false) (hsl : ∀ j, j < N → j ≠ i → sl j ≠ sl i) (hk : Kept (isG g) w w') {p q : Int} (p0 : 0 ≤ p) (p1 : p + 10 * (l.toList.count false : Nat) ≤ 10 * (N : Nat)) (q0 : p ≤ q) (q1 : q ≤ p + 10) (h2 : RdAt w' g q) {v : Value} (hv : H i v w') : DI g N w0 sl H (l.setIfInBounds i true) (updX xs (sl i) v) w' := by
  have hc := count_put hnl
  refine ⟨d.bel.trans (hk.below d.bel.size (fun k hk => by unfold isG at hk; omega)), ⟨q, by omega, by omega, h2⟩, fun j hj hs => ?_⟩
  by_cases e : j = i
  · subst e
    simp only [updX, if_pos]
    exact hv
  · rw [show updX xs (sl i) v (sl j) = xs (sl j) by simp [updX, hsl j hj e]]
    exact hst j _ hj (d.at_ j hj ((seen_set hs).resolve_left e))
theorem DI.same (d : DI g N w0 sl H l xs w) (hg : w0.heap.size ≤ g) (hst : ∀ j v, j < N → H j v w → H j v w') {i : Nat} (hnl : l.getD i true = false) (hsl : ∀ j, j < N → j ≠ i → sl j ≠ sl i) (hk : Kept (isG g) w w') (hr : ∀ p, RdAt w g p → RdAt w' g p) {v : Value} (hv : H i v w') : DI g N w0 sl H (l.setIfInBounds i true) (updX xs (sl i) v) w' := by
  obtain ⟨p, p0, p1, h1⟩ := d.rd
  exact d.put hg hst hnl hsl hk p0 p1 (Int.le_refl _) (by omega) (hr p h1) hv
theorem DI.room (d : DI g N w0 sl H l xs w) : ∃ p : Int, 0 ≤ p ∧ p ≤ 10 * (N : Int) ∧ p + 10 * (l.toList.count false : Nat) ≤ 10 * (N : Nat) ∧ RdAt w g p := by
  obtain ⟨p, p0, p1, h1⟩ := d.rd
  exact ⟨p, p0, by omega, p1, h1⟩
end
/-- What a slot may hold: the reader, a number in bounds, a row of numbers in bounds, the address of a number in bounds. -/
inductive Ty where
  | P
  | I (lo hi : Int)
  | R (n : Nat) (lo hi : Int)
  | A (lo hi : Int)
def isI (lo hi : Int) (v : Value) : Prop := ∃ x : Int, v = .int .i64 x ∧ lo ≤ x ∧ x ≤ hi
def isR (g n : Nat) (lo hi : Int) (v : Value) (w : World) : Prop := ∃ h : Nat, v = .slice (some ⟨h, 0, none⟩) n n ∧ h ≠ g ∧ ∀ i, i < n → ∃ x : Int, lo ≤ x ∧ x ≤ hi ∧ w.cell? ⟨h, 0 + i, none⟩ = some (.int .i64 x)
def isA (g : Nat) (lo hi : Int) (v : Value) (w : World) : Prop := ∃ (h o : Nat) (x : Int), v = .pointer (some ⟨h, o, none⟩) ∧ h ≠ g ∧ lo ≤ x ∧ x ≤ hi ∧ w.cell? ⟨h, o, none⟩ = some (.int .i64 x)
def Ty.holds (g : Nat) (v : Value) (w : World) : Ty → Prop
  | .P => v = .pointer (some ⟨g, 0, none⟩)
  | .I lo hi => isI lo hi v
  | .R n lo hi => isR g n lo hi v w
  | .A lo hi => isA g lo hi v w
theorem Ty.keep {g : Nat} {v : Value} {w w' : World} {t : Ty} (h : t.holds g v w) (hk : Kept (isG g) w w') : t.holds g v w' := by
  cases t with
  | P => exact h
  | I lo hi => exact h
  | R n lo hi =>
    obtain ⟨a, rfl, h1, h3⟩ := h
    refine ⟨a, rfl, h1, fun i hi => ?_⟩
    obtain ⟨x, x0, x1, hx⟩ := h3 i hi
    exact ⟨x, x0, x1, cell_kept hx hk h1⟩
  | A lo hi =>
    obtain ⟨a, o, x, rfl, h1, x0, x1, hx⟩ := h
    exact ⟨a, o, x, rfl, h1, x0, x1, cell_kept hx hk h1⟩
theorem RdAt.lt' {w : World} {g : Nat} {p : Int} (h : RdAt w g p) : g < w.heap.size := by obtain ⟨A, n, c, z, h1, _⟩ := h; exact h1.lt
theorem row4 {lo hi a b c e : Int} (w : World) (t : TypeId) (a0 : lo ≤ a) (a1 : a ≤ hi) (b0 : lo ≤ b) (b1 : b ≤ hi) (c0 : lo ≤ c) (c1 : c ≤ hi) (e0 : lo ≤ e) (e1 : e ≤ hi) : ∀ i, i < 4 → ∃ x : Int, lo ≤ x ∧ x ≤ hi ∧ (w.alloc (.cells #[.int .i64 a, .int .i64 b, .int .i64 c, .int .i64 e] t)).cell? ⟨w.heap.size, 0 + i, none⟩ = some (.int .i64 x) := fun i hi' => by
  have k := Bk.new w t #[.int .i64 a, .int .i64 b, .int .i64 c, .int .i64 e]
  have : i = 0 ∨ i = 1 ∨ i = 2 ∨ i = 3 := by omega
  rcases this with rfl | rfl | rfl | rfl
  · exact ⟨a, a0, a1, k.cell 0⟩
  · exact ⟨b, b0, b1, k.cell 1⟩
  · exact ⟨c, c0, c1, k.cell 2⟩
  · exact ⟨e, e0, e1, k.cell 3⟩
theorem rem_t (x m : Int) (h0 : 0 ≤ x) (hm : 0 < m) : 0 ≤ x.tmod m ∧ x.tmod m ≤ m - 1 := by
  rw [Int.tmod_eq_emod_of_nonneg h0]
  exact ⟨Int.emod_nonneg _ (by omega), by have := Int.emod_lt_of_pos x hm; omega⟩
theorem rem_b (x m : Int) (h0 : 0 ≤ x) (hm : 0 < m) : 0 ≤ x % m ∧ x % m ≤ m - 1 := ⟨Int.emod_nonneg _ (by omega), by have := Int.emod_lt_of_pos x hm; omega⟩
def pw (k : Int) : Int := if k ≤ 0 then 0 else if k ≤ 1 then 255 else if k ≤ 2 then 65535 else if k ≤ 3 then 16777215 else if k ≤ 4 then 4294967295 else if k ≤ 5 then 1099511627775 else if k ≤ 6 then 281474976710655 else 72057594037927935
theorem pw_step (k : Int) (h0 : 0 ≤ k) (h1 : k < 7) : pw (k + 1) = 256 * pw k + 255 ∧ pw k ≤ 281474976710655 := by
  have : k = 0 ∨ k = 1 ∨ k = 2 ∨ k = 3 ∨ k = 4 ∨ k = 5 ∨ k = 6 := by omega
  rcases this with rfl | rfl | rfl | rfl | rfl | rfl | rfl <;> decide
end Go.Proofs.Ytbgmjcfnehnicaa

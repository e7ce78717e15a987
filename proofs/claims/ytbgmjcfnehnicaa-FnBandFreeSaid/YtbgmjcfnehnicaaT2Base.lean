/- Draws of bands: a drawn new band in a variable. Printed by mkgb.py. -/
import Derived.Test.YtbgmjcfnehnicaaR1Base
import Derived.Test.YtbgmjcfnehnicaaT1Base
import Derived.Test.YtbgmjcfnehnicaaB21Base
import Derived.RegionTactic
import Derived.ProofKit
import Derived.Deep.RegionWith
import Derived.Deep.DeepCutAuto
namespace Go.Proofs.Ytbgmjcfnehnicaa
open Go.RowKit
/-- The blocks that such a region may change: the reader's, the variable's. -/
def gv (g : Nat) (hv : Option Nat) (k : Nat) : Prop := k = g ∨ hv = some k
/-- A new band of numbers in bounds, its rows in memory of its own. -/
def isB (w0 g : Nat) (hv : Option Nat) (v : Value) (w : World) : Prop :=
  ∃ (q : Int) (n gl cl gd cd : Nat), v = .agg #[.int .i64 q, .int .i64 q, .int .i64 0, .slice (some ⟨gl, 0, none⟩) n cl, .slice (some ⟨gd, 0, none⟩) n cd] ∧ 1 ≤ q ∧ q ≤ 10000 ∧ 1 ≤ n ∧ n ≤ 4 ∧
    RowL 3 w gl n cl (fun _ => .int .i64 0) ∧ OwnV w gd n (fun _ => .bool false) ∧ gl ≠ gd ∧ w0 ≤ gl ∧ w0 ≤ gd ∧ ¬ gv g hv gl ∧ ¬ gv g hv gd
inductive TyB where
  | P
  | I (lo hi : Int)
  | R (n : Nat) (lo hi : Int)
  | A (lo hi : Int)
  | N
  | B
  | Y
  | V
def TyB.holds (w0 g : Nat) (hv : Option Nat) (v : Value) (w : World) : TyB → Prop
  | .P => v = .pointer (some ⟨g, 0, none⟩)
  | .I lo hi => isI lo hi v
  | .R n lo hi => ∃ h : Nat, v = .slice (some ⟨h, 0, none⟩) n n ∧ ¬ gv g hv h ∧ h < w.heap.size ∧ ∀ i, i < n → ∃ x : Int, lo ≤ x ∧ x ≤ hi ∧ w.cell? ⟨h, 0 + i, none⟩ = some (.int .i64 x)
  | .A lo hi => ∃ (h o : Nat) (x : Int), v = .pointer (some ⟨h, o, none⟩) ∧ ¬ gv g hv h ∧ h < w.heap.size ∧ lo ≤ x ∧ x ≤ hi ∧ w.cell? ⟨h, o, none⟩ = some (.int .i64 x)
  | .N => ∃ b, v = .tuple #[b, .bool true] ∧ isB w0 g hv b w
  | .B => isB w0 g hv v w
  | .Y => v = .bool true
  | .V => ∃ h, v = .pointer (some ⟨h, 0, none⟩) ∧ hv = some h
theorem isB.keep {w0 g : Nat} {hv : Option Nat} {v : Value} {w w' : World} (h : isB w0 g hv v w) (hk : Kept (gv g hv) w w') : isB w0 g hv v w' := by
  obtain ⟨q, n, gl, cl, gd, cd, rfl, a1, a2, a3, a4, a5, a6, a7, a8, a9, a10, a11⟩ := h
  exact ⟨q, n, gl, cl, gd, cd, rfl, a1, a2, a3, a4, a5.kept hk a10, a6.kept hk a11, a7, a8, a9, a10, a11⟩
theorem TyB.keep {w0 g : Nat} {hv : Option Nat} {v : Value} {w w' : World} {t : TyB} (h : t.holds w0 g hv v w) (hk : Kept (gv g hv) w w') : t.holds w0 g hv v w' := by
  cases t with
  | P => exact h
  | I lo hi => exact h
  | R n lo hi =>
    obtain ⟨a, rfl, h1, h2, h3⟩ := h
    refine ⟨a, rfl, h1, Nat.lt_of_lt_of_le h2 hk.size, fun i hi => ?_⟩
    obtain ⟨x, x0, x1, hx⟩ := h3 i hi
    exact ⟨x, x0, x1, cell_kept hx hk h1⟩
  | A lo hi =>
    obtain ⟨a, o, x, rfl, h1, h2, x0, x1, hx⟩ := h
    exact ⟨a, o, x, rfl, h1, Nat.lt_of_lt_of_le h2 hk.size, x0, x1, cell_kept hx hk h1⟩
  | N =>
    obtain ⟨b, rfl, h1⟩ := h
    exact ⟨b, rfl, h1.keep hk⟩
  | B => exact isB.keep h hk
  | Y => exact h
  | V => exact h
theorem gv_new {g k : Nat} {w : World} (h : ¬ gv g none k) (hk : k < w.heap.size) : ¬ gv g (some w.heap.size) k := by
  rintro (e | e)
  · exact h (.inl e)
  · simp only [Option.some.injEq] at e
    omega
theorem isB.fresh {w0 g : Nat} {v : Value} {w : World} (h : isB w0 g none v w) (o : Obj) : isB w0 g (some w.heap.size) v (w.alloc o) := by
  obtain ⟨q, n, gl, cl, gd, cd, rfl, a1, a2, a3, a4, a5, a6, a7, a8, a9, a10, a11⟩ := h
  have hk : Kept (gv g none) w (w.alloc o) := (Kept.refl _ _).alloc _
  exact ⟨q, n, gl, cl, gd, cd, rfl, a1, a2, a3, a4, a5.kept hk a10, a6.kept hk a11, a7, a8, a9, gv_new a10 a5.1, gv_new a11 a6.1⟩
theorem TyB.fresh {w0 g : Nat} {v : Value} {w : World} {t : TyB} (h : t.holds w0 g none v w) (o : Obj) : t.holds w0 g (some w.heap.size) v (w.alloc o) := by
  have hk : Kept (gv g none) w (w.alloc o) := (Kept.refl _ _).alloc _
  cases t with
  | P => exact h
  | I lo hi => exact h
  | R n lo hi =>
    obtain ⟨a, rfl, h1, h2, h3⟩ := h
    refine ⟨a, rfl, gv_new h1 h2, Nat.lt_of_lt_of_le h2 hk.size, fun i hi => ?_⟩
    obtain ⟨x, x0, x1, hx⟩ := h3 i hi
    exact ⟨x, x0, x1, cell_kept hx hk h1⟩
  | A lo hi =>
    obtain ⟨a, o, x, rfl, h1, h2, x0, x1, hx⟩ := h
    exact ⟨a, o, x, rfl, gv_new h1 h2, Nat.lt_of_lt_of_le h2 hk.size, x0, x1, cell_kept hx hk h1⟩
  | N =>
    obtain ⟨b, rfl, h1⟩ := h
    exact ⟨b, rfl, h1.fresh o⟩
  | B => exact isB.fresh h o
  | Y => exact h
  | V =>
    obtain ⟨_, _, e⟩ := h
    cases e
abbrev zB : Array Value := #[.int .i64 0, .int .i64 0, .int .i64 0, .slice none 0 0, .slice none 0 0]
/-- The invariant: ia allocates the variable (slot sl ia), is stores to it what ib left (slot sl ib). -/
structure DV (g N : Nat) (w0 : World) (sl : Nat → Nat) (T : Nat → TyB) (ia is ib : Nat) (hv : Option Nat) (l : Array Bool) (xs : Nat → Value) (w : World) : Prop where
  bel : Below w0.heap.size w0 w
  rd : ∃ p : Int, 0 ≤ p ∧ p + 10 * (l.toList.count false : Nat) ≤ 10 * (N : Nat) ∧ RdAt w g p
  at_ : ∀ j, j < N → j ≠ is → seen l j → (T j).holds w0.heap.size g hv (xs (sl j)) w
  no : hv = none → ¬ seen l ia ∧ ¬ seen l is
  yes : ∀ h, hv = some h → seen l ia ∧ h < w.heap.size ∧ g < h ∧ w0.heap.size ≤ h ∧ (¬ seen l is → Bk w h 25 zB) ∧ (seen l is → seen l ib ∧ ∃ cs, xs (sl ib) = .agg cs ∧ Bk w h 25 cs)
section
variable {g N : Nat} {w0 w w' : World} {sl : Nat → Nat} {T : Nat → TyB} {ia is ib : Nat} {hv : Option Nat} {l : Array Bool} {xs : Nat → Value}
theorem DV.start {p : Int} (hb : Below w0.heap.size w0 w) (p0 : 0 ≤ p) (p1 : p ≤ 0) (hr : RdAt w g p) : DV g N w0 sl T ia is ib none (Array.replicate N false) xs w.drew :=
  ⟨hb.drew, ⟨p, p0, by rw [Array.toList_replicate, List.count_replicate_self]; omega, hr.drewN 1⟩, fun j _ _ hs => absurd hs (seen_none _ _), fun _ => ⟨seen_none _ _, seen_none _ _⟩, fun h e => by cases e⟩
theorem not_more {i j : Nat} (h : ¬ seen (l.setIfInBounds i true) j) : ¬ seen l j := fun a => h (seen_more a)
theorem DV.put (d : DV g N w0 sl T ia is ib hv l xs w) (hg : w0.heap.size ≤ g) {i : Nat} (hnl : l.getD i true = false) (hia : i ≠ ia) (his : i ≠ is) (hsl : ∀ j, j < N → j ≠ i → j ≠ is → sl j ≠ sl i) (hib : ib < N) (hbs : ib ≠ is) (hk : Kept (isG g) w w') {p q : Int} (p0 : 0 ≤ p) (p1 : p + 10 * (l.toList.count false : Nat) ≤ 10 * (N : Nat)) (q0 : p ≤ q) (q1 : q ≤ p + 10) (h2 : RdAt w' g q) {v : Value} (hv' : (T i).holds w0.heap.size g hv v w') : DV g N w0 sl T ia is ib hv (l.setIfInBounds i true) (updX xs (sl i) v) w' := by
  have hc := count_put hnl
  have hk2 : Kept (gv g hv) w w' := hk.mono fun k _ e => .inl e
  refine ⟨d.bel.trans (hk.below d.bel.size (fun k hk => by unfold isG at hk; omega)), ⟨q, by omega, by omega, h2⟩, fun j hj hjs hs => ?_, fun e => ⟨fun hs => (d.no e).1 ((seen_set hs).resolve_left (Ne.symm hia)), fun hs => (d.no e).2 ((seen_set hs).resolve_left (Ne.symm his))⟩, fun h e => ?_⟩
  · by_cases e : j = i
    · subst e
      simp only [updX, if_pos]
      exact hv'
    · rw [show updX xs (sl i) v (sl j) = xs (sl j) by simp [updX, hsl j hj e hjs]]
      exact TyB.keep (d.at_ j hj hjs ((seen_set hs).resolve_left e)) hk2
  · obtain ⟨a1, a2, a3, a4, a5, a6⟩ := d.yes h e
    refine ⟨seen_more a1, Nat.lt_of_lt_of_le a2 hk.size, a3, a4, fun hs => (a5 (not_more hs)).kept hk (fun e => by unfold isG at e; omega), fun hs => ?_⟩
    obtain ⟨b1, cs, b2, b3⟩ := a6 ((seen_set hs).resolve_left (Ne.symm his))
    have hne : ib ≠ i := fun e => not_seen hnl (e ▸ b1)
    exact ⟨seen_more b1, cs, by rw [show updX xs (sl i) v (sl ib) = xs (sl ib) by simp [updX, hsl ib hib hne hbs]]; exact b2, b3.kept hk (fun e => by unfold isG at e; omega)⟩
theorem DV.same (d : DV g N w0 sl T ia is ib hv l xs w) (hg : w0.heap.size ≤ g) {i : Nat} (hnl : l.getD i true = false) (hia : i ≠ ia) (his : i ≠ is) (hsl : ∀ j, j < N → j ≠ i → j ≠ is → sl j ≠ sl i) (hib : ib < N) (hbs : ib ≠ is) (hk : Kept (isG g) w w') (hr : ∀ p, RdAt w g p → RdAt w' g p) {v : Value} (hv' : (T i).holds w0.heap.size g hv v w') : DV g N w0 sl T ia is ib hv (l.setIfInBounds i true) (updX xs (sl i) v) w' := by
  obtain ⟨p, p0, p1, h1⟩ := d.rd
  exact d.put hg hnl hia his hsl hib hbs hk p0 p1 (Int.le_refl _) (by omega) (hr p h1) hv'
theorem DV.room (d : DV g N w0 sl T ia is ib hv l xs w) : ∃ p : Int, 0 ≤ p ∧ p ≤ 10 * (N : Int) ∧ p + 10 * (l.toList.count false : Nat) ≤ 10 * (N : Nat) ∧ RdAt w g p := by
  obtain ⟨p, p0, p1, h1⟩ := d.rd
  exact ⟨p, p0, by omega, p1, h1⟩
theorem DV.var (d : DV g N w0 sl T ia is ib hv l xs w) (hg : w0.heap.size ≤ g) (hnl : l.getD ia true = false) (hsl : ∀ j, j < N → j ≠ ia → j ≠ is → sl j ≠ sl ia) (his : ia ≠ is) (hT : T ia = .V) : DV g N w0 sl T ia is ib (some w.heap.size) (l.setIfInBounds ia true) (updX xs (sl ia) (.pointer (some ⟨w.heap.size, 0, none⟩))) (w.alloc (.cells zB 25)) := by
  have hn : hv = none := by
    cases hv with
    | none => rfl
    | some h => exact absurd (d.yes h rfl).1 (not_seen hnl)
  subst hn
  obtain ⟨p, p0, p1, h1⟩ := d.rd
  have hc := count_put hnl
  have hlt := h1.lt
  refine ⟨d.bel.alloc d.bel.size _, ⟨p, p0, by omega, h1.below ((Below.refl _ _).alloc (Nat.le_refl _) _)⟩, fun j hj hjs hs => ?_, fun e => (by cases e), fun h e => ?_⟩
  · by_cases e : j = ia
    · subst e
      rw [hT]
      simp only [updX, if_pos]
      exact ⟨_, rfl, rfl⟩
    · rw [show updX xs (sl ia) _ (sl j) = xs (sl j) by simp [updX, hsl j hj e hjs]]
      exact TyB.fresh (d.at_ j hj hjs ((seen_set hs).resolve_left e)) _
  · simp only [Option.some.injEq] at e
    subst e
    exact ⟨seen_self hnl, by simp, by omega, d.bel.size, fun _ => Bk.new _ _ _, fun hs => absurd ((seen_set hs).resolve_left (Ne.symm his)) (d.no rfl).2⟩
end

theorem row6 (w : World) (t : TypeId) : ∀ i, i < 6 → ∃ x : Int, 1 ≤ x ∧ x ≤ 10000 ∧ (w.alloc (.cells #[.int .i64 1, .int .i64 20, .int .i64 21, .int .i64 50, .int .i64 100, .int .i64 10000] t)).cell? ⟨w.heap.size, 0 + i, none⟩ = some (.int .i64 x) := fun i hi' => by
  have k := Bk.new w t #[.int .i64 1, .int .i64 20, .int .i64 21, .int .i64 50, .int .i64 100, .int .i64 10000]
  have : i = 0 ∨ i = 1 ∨ i = 2 ∨ i = 3 ∨ i = 4 ∨ i = 5 := by omega
  rcases this with rfl | rfl | rfl | rfl | rfl | rfl
  · exact ⟨1, by omega, by omega, k.cell 0⟩
  · exact ⟨20, by omega, by omega, k.cell 1⟩
  · exact ⟨21, by omega, by omega, k.cell 2⟩
  · exact ⟨50, by omega, by omega, k.cell 3⟩
  · exact ⟨100, by omega, by omega, k.cell 4⟩
  · exact ⟨10000, by omega, by omega, k.cell 5⟩
theorem DV.stored {g N : Nat} {w0 w : World} {sl : Nat → Nat} {T : Nat → TyB} {ia is ib : Nat} {hv : Option Nat} {l : Array Bool} {xs : Nat → Value} (d : DV g N w0 sl T ia is ib hv l xs w) (hg : w0.heap.size ≤ g) (hnl : l.getD is true = false) (hia : ia ≠ is) (hib : ib ≠ is) {h : Nat} (hh : hv = some h) (hsb : seen l ib) {a b c e f : Value} (hx : xs (sl ib) = .agg #[a, b, c, e, f]) (hz : Bk w h 25 zB) :
    DV g N w0 sl T ia is ib hv (l.setIfInBounds is true) xs (((((w.setCell ⟨h, 0, none⟩ a).setCell ⟨h, 1, none⟩ b).setCell ⟨h, 2, none⟩ c).setCell ⟨h, 3, none⟩ e).setCell ⟨h, 4, none⟩ f) := by
  obtain ⟨p, p0, p1, h1⟩ := d.rd
  have hc := count_put hnl
  obtain ⟨y1, y2, y3, y4, y5, y6⟩ := d.yes h hh
  have k := ((((hz.put 0 a).put 1 b).put 2 c).put 3 e).put 4 f
  have ee : ∀ o, (fun b => b = h) (⟨h, o, none⟩ : Addr).block := fun _ => rfl
  have hk := (((((Kept.refl (fun b => b = h) w).setCell (q := ⟨h, 0, none⟩) (ee 0) a).setCell (q := ⟨h, 1, none⟩) (ee 1) b).setCell (q := ⟨h, 2, none⟩) (ee 2) c).setCell (q := ⟨h, 3, none⟩) (ee 3) e).setCell (q := ⟨h, 4, none⟩) (ee 4) f
  have hk2 : Kept (gv g hv) w _ := hk.mono (q := gv g hv) fun k _ e => .inr (by rw [hh, e])
  have hz5 := hk.size
  refine ⟨d.bel.trans (hk.below d.bel.size (fun k e => by omega)), ⟨p, p0, by omega, h1.kept hk (fun k hk e => by omega)⟩, fun j hj hjs hs => TyB.keep (d.at_ j hj hjs ((seen_set hs).resolve_left hjs)) hk2, fun e => (by rw [hh] at e; cases e), fun h' e' => ?_⟩
  · rw [hh, Option.some.injEq] at e'
    subst e'
    exact ⟨seen_more y1, by omega, y3, y4, fun hs => absurd (seen_self hnl) hs, fun _ => ⟨seen_more hsb, _, hx, k⟩⟩
def gbS (j : Nat) : Nat := [13, 14, 15, 16, 17, 18, 19, 20, 21, 12, 22, 23, 5, 0, 6].getD j 0
def gbT (j : Nat) : TyB := [.R 6 1 10000, .P, .I 0 5, .A 1 10000, .I 1 10000, .P, .I 0 3, .I 1 4, .N, .N, .B, .Y, .V, .P, .Y].getD j .P
end Go.Proofs.Ytbgmjcfnehnicaa

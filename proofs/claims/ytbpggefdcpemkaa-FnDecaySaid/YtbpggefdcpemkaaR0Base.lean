/- Regions whose order is drawn, by an invariant: what has come, the frame, the reader of a code. -/
import Derived.Test.YtbpggefdcpemkaaD1Base
import Derived.Test.YtbpggefdcpemkaaOrdInv
namespace Go.Proofs.Ytbpggefdcpemkaa
open Go.RowKit
def seen (l : Array Bool) (i : Nat) : Prop := l.getD i false = true
theorem seen_set {l : Array Bool} {i j : Nat} (h : seen (l.setIfInBounds i true) j) : j = i ∨ seen l j := by
  by_cases e : i = j
  · exact .inl e.symm
  · exact .inr (by unfold seen at h ⊢; rwa [getD_set_ne false e] at h)
theorem seen_more {l : Array Bool} {i j : Nat} (h : seen l j) : seen (l.setIfInBounds i true) j := getD_set_true h
theorem seen_self {l : Array Bool} {i : Nat} (h : l.getD i true = false) : seen (l.setIfInBounds i true) i := by
  have hlt : i < l.size := by
    rcases Nat.lt_or_ge i l.size with h' | h'
    · exact h'
    · simp [Array.getElem?_eq_none h'] at h
  unfold seen
  simp [hlt]
theorem not_seen {l : Array Bool} {i : Nat} (h : l.getD i true = false) : ¬ seen l i := by
  have hlt : i < l.size := by
    rcases Nat.lt_or_ge i l.size with h' | h'
    · exact h'
    · simp [Array.getElem?_eq_none h'] at h
  intro hs
  unfold seen at hs
  simp [hlt] at h hs
  rw [h] at hs
  cases hs
theorem ready_seen {md : Region.Mode} {ops : Array Oper} {l : Array Bool} {i k : Nat} (h : i ∈ Region.ready md ops l) (hk : (ops[i]?.map fun o => o.after.any fun e => Region.binds md e && e.on == k) = some true) : seen l k := by
  obtain ⟨_, o, ho, hall⟩ := mem_ready.1 h
  rw [ho] at hk
  simp only [Option.map_some, Option.some.injEq] at hk
  obtain ⟨e, he, hb⟩ := Array.any_eq_true'.1 hk
  simp only [Bool.and_eq_true, beq_iff_eq] at hb
  have := hall e he hb.1
  rw [hb.2] at this
  exact this
theorem ready_lt {md : Region.Mode} {ops : Array Oper} {l : Array Bool} {i : Nat} (h : i ∈ Region.ready md ops l) : i < ops.size := by
  obtain ⟨_, o, ho, _⟩ := mem_ready.1 h
  exact (Array.getElem?_eq_some_iff.1 ho).1
/-- All are listed when none is ready, if each comes behind lesser ones. -/
theorem all_seen {md : Region.Mode} {ops : Array Oper} {l : Array Bool} (hs : l.size = ops.size) (hr : Region.ready md ops l = []) (hlt : ∀ (i : Nat) (o : Oper), ops[i]? = some o → ∀ e ∈ o.after, Region.binds md e = true → e.on < i) : ∀ i, i < ops.size → seen l i := fun i => by
  induction i using Nat.strongRecOn with
  | ind i ih =>
    intro hi
    cases hg : l.getD i true
    · have : i ∈ Region.ready md ops l := mem_ready.2 ⟨hg, ops[i], Array.getElem?_eq_getElem hi, fun e he hb => ih e.on (hlt i _ (Array.getElem?_eq_getElem hi) e he hb) (by have := hlt i _ (Array.getElem?_eq_getElem hi) e he hb; omega)⟩
      rw [hr] at this
      cases this
    · unfold seen
      have hl : i < l.size := by omega
      simpa [hl] using hg
/-- A region that draws its order, by an invariant. -/
theorem region_inv {P : Program} {ops : Array Oper} {Q : Exit → Act → World → Prop} {id : Nat} {a : Act} {w : World} (hm : P.follows .mixedOrders = true) (I : Act → Array Bool → Act → World → Prop)
    (h0 : I a (Array.replicate ops.size false) a w.drew)
    (hstep : ∀ l b w', I a l b w' → ∀ i, i ∈ Region.ready .any ops l → wpOp P ops Q i (fun b' w'' => I a (l.setIfInBounds i true) b' w'') b w')
    (hlt : ∀ (i : Nat) (o : Oper), ops[i]? = some o → ∀ e ∈ o.after, Region.binds .any e = true → e.on < i)
    (hend : ∀ l b w', I a l b w' → (∀ i, i < ops.size → seen l i) → Q .normal b w') : (Code.region id ops true).wp P Q a w := by
  refine wp_region_any hm (wpAny_inv (fun l b w' => l.size = ops.size ∧ I a l b w') (fun l b w' h i hi => wpOp_mono (fun b' w'' h' => ⟨by rw [Array.size_setIfInBounds]; exact h.1, h'⟩) (hstep l b w' h.2 i hi)) (fun l b w' h hr => hend l b w' h.2 (all_seen h.1 hr hlt)) ops.size _ a _ ⟨by simp, h0⟩ ?_)
  rw [Array.toList_replicate, List.count_replicate_self]
  exact Nat.le_refl _
/-- Each operation comes behind lesser ones. -/
def lesser (ops : Array Oper) : Bool := (List.range ops.size).all fun i => match ops[i]? with | some o => o.after.all fun e => decide (e.on < i) || !Region.binds .any e | none => true
theorem lesser_spec {ops : Array Oper} (h : lesser ops = true) : ∀ (i : Nat) (o : Oper), ops[i]? = some o → ∀ e ∈ o.after, Region.binds .any e = true → e.on < i := fun i o ho e he hb => by
  have hi := (Array.getElem?_eq_some_iff.1 ho).1
  have := List.all_eq_true.1 h i (List.mem_range.2 hi)
  rw [ho] at this
  have := Array.all_eq_true_iff_forall_mem.1 this e he
  simpa [hb] using this
theorem seen_none (n j : Nat) : ¬ seen (Array.replicate n false) j := by
  unfold seen
  simp [Array.getElem?_replicate]
  split <;> simp
/-- Frame b is a0 but for the slots of ds, which hold xs. -/
structure Fr (a0 b : Act) (ds : List Nat) (xs : Nat → Value) : Prop where
  df : b.defers = a0.defers
  sz : b.tmps.size = a0.tmps.size
  at_ : ∀ t, t < a0.tmps.size → b.tmps[t]? = if t ∈ ds then some (xs t) else a0.tmps[t]?
def updX (xs : Nat → Value) (s : Nat) (v : Value) (t : Nat) : Value := if t = s then v else xs t
theorem Fr.start (a : Act) (ds : List Nat) : Fr a a ds (fun t => a.tmps.getD t undef) := by
  refine ⟨rfl, rfl, fun t ht => ?_⟩
  split
  · simp [ht]
  · rfl
theorem Fr.put {a0 b : Act} {ds : List Nat} {xs : Nat → Value} (f : Fr a0 b ds xs) {s : Nat} (hs : s ∈ ds) (v : Value) : Fr a0 (b.put (some s) v) ds (updX xs s v) := by
  refine ⟨f.df, by simpa [Act.put] using f.sz, fun t ht => ?_⟩
  show (b.tmps.setIfInBounds s v)[t]? = _
  rw [Array.getElem?_setIfInBounds]
  by_cases e : s = t
  · subst e
    have : s < b.tmps.size := by rw [f.sz]; exact ht
    simp [this, hs, updX]
  · rw [if_neg e, f.at_ t ht]
    simp [updX, Ne.symm e]
theorem Fr.in_ {a0 b : Act} {ds : List Nat} {xs : Nat → Value} (f : Fr a0 b ds xs) {s : Nat} (hs : s ∈ ds) (ht : s < a0.tmps.size) : b.tmps[s]? = some (xs s) := by rw [f.at_ s ht, if_pos hs]
theorem Fr.ex {a0 b : Act} {ds : List Nat} {xs : Nat → Value} (f : Fr a0 b ds xs) {s : Nat} {v : Value} (hs : s ∉ ds) (h : a0.tmps[s]? = some v) : b.tmps[s]? = some v := by
  have ht : s < a0.tmps.size := (Array.getElem?_eq_some_iff.1 h).1
  rw [f.at_ s ht, if_neg hs]
  exact h
theorem foldl_size (ds : List Nat) (xs : Nat → Value) : ∀ (T : Array Value), (ds.foldl (fun T s => T.setIfInBounds s (xs s)) T).size = T.size := by
  induction ds with
  | nil => intro T; rfl
  | cons s r ih => intro T; rw [List.foldl_cons, ih]; simp
theorem foldl_at (ds : List Nat) (xs : Nat → Value) : ∀ (T : Array Value) (t : Nat), t < T.size → (ds.foldl (fun T s => T.setIfInBounds s (xs s)) T)[t]? = if t ∈ ds then some (xs t) else T[t]? := by
  induction ds with
  | nil => intro T t _; simp
  | cons s r ih =>
    intro T t ht
    rw [List.foldl_cons, ih _ t (by simpa using ht), Array.getElem?_setIfInBounds]
    by_cases e : s = t
    · subst e
      by_cases h2 : s ∈ r <;> simp [h2, ht]
    · by_cases h2 : t ∈ r <;> simp [h2, e, Ne.symm e]
theorem Fr.out {a0 b : Act} {ds : List Nat} {xs : Nat → Value} (f : Fr a0 b ds xs) : b = { tmps := ds.foldl (fun T s => T.setIfInBounds s (xs s)) a0.tmps, defers := a0.defers } := by
  obtain ⟨T, df⟩ := b
  obtain ⟨h1, h2, h3⟩ := f
  simp only at h1 h2 h3
  subst h1
  congr 1
  apply Array.ext_getElem?
  intro t
  by_cases ht : t < a0.tmps.size
  · rw [h3 t ht, foldl_at ds xs _ t ht]
  · rw [Array.getElem?_eq_none (by omega), Array.getElem?_eq_none (by rw [foldl_size]; omega)]
/-- A region that draws its order, by an invariant over a frame that is not written out. -/
theorem region_fr {P : Program} {ops : Array Oper} {Q : Exit → Act → World → Prop} {id : Nat} {a : Act} {w : World} (hm : P.follows .mixedOrders = true) (ds : List Nat) (E : Act → Prop) (J : Array Bool → (Nat → Value) → World → Prop)
    (hE : E a) (h0 : ∀ xs, J (Array.replicate ops.size false) xs w.drew)
    (hstep : ∀ (a0 b : Act) (xs : Nat → Value) (l : Array Bool) (w' : World), E a0 → Fr a0 b ds xs → J l xs w' → ∀ i, i ∈ Region.ready .any ops l → wpOp P ops Q i (fun b' w'' => ∃ xs', Fr a0 b' ds xs' ∧ J (l.setIfInBounds i true) xs' w'') b w')
    (hlt : lesser ops = true)
    (hend : ∀ (xs : Nat → Value) (l : Array Bool) (w' : World), J l xs w' → (∀ i, i < ops.size → seen l i) → Q .normal { tmps := ds.foldl (fun T s => T.setIfInBounds s (xs s)) a.tmps, defers := a.defers } w') : (Code.region id ops true).wp P Q a w :=
  region_inv hm (fun a0 l b w' => ∃ xs, Fr a0 b ds xs ∧ J l xs w') ⟨_, Fr.start a ds, h0 _⟩
    (fun l b w' ⟨xs, f, j⟩ i hi => hstep a b xs l w' hE f j i hi) (lesser_spec hlt) (fun l b w' ⟨xs, f, j⟩ hall => by rw [f.out]; exact hend xs l w' j hall)
/-- Regions that pick: the reader's place and what each operation's slot holds. -/
structure DI (g N : Nat) (w0 : World) (sl : Nat → Nat) (H : Nat → Value → World → Prop) (l : Array Bool) (xs : Nat → Value) (w : World) : Prop where
  bel : Below w0.heap.size w0 w
  rd : ∃ p : Int, 0 ≤ p ∧ p + 10 * (l.toList.count false : Nat) ≤ 10 * (N : Nat) ∧ RdAt w g p
  at_ : ∀ j, j < N → seen l j → H j (xs (sl j)) w
section
variable {g N : Nat} {w0 w w' : World} {sl : Nat → Nat} {H : Nat → Value → World → Prop} {l : Array Bool} {xs : Nat → Value}
theorem DI.start {p : Int} (hb : Below w0.heap.size w0 w) (p0 : 0 ≤ p) (p1 : p ≤ 0) (hr : RdAt w g p) : DI g N w0 sl H (Array.replicate N false) xs w.drew :=
  ⟨hb.drew, ⟨p, p0, by rw [Array.toList_replicate, List.count_replicate_self]; omega, hr.drewN 1⟩, fun j _ hs => absurd hs (seen_none _ _)⟩
/-- An operation's slot is filled; the reader has moved on by at most ten. -/
theorem DI.put (d : DI g N w0 sl H l xs w) (hg : w0.heap.size ≤ g) (hst : ∀ j v, j < N → H j v w → H j v w') {i : Nat} (hnl : l.getD i true = false) (hsl : ∀ j, j < N → j ≠ i → sl j ≠ sl i) (hk : Kept (isG g) w w') {p q : Int} (p0 : 0 ≤ p) (p1 : p + 10 * (l.toList.count false : Nat) ≤ 10 * (N : Nat)) (q0 : p ≤ q) (q1 : q ≤ p + 10) (h2 : RdAt w' g q) {v : Value} (hv : H i v w') : DI g N w0 sl H (l.setIfInBounds i true) (updX xs (sl i) v) w' := by
  have hc := count_put hnl
  refine ⟨d.bel.trans (hk.below d.bel.size (fun k hk => by unfold isG at hk; omega)), ⟨q, by omega, by omega, h2⟩, fun j hj hs => ?_⟩
  by_cases e : j = i
  · subst e
    simp only [updX, if_pos]
    exact hv
  · rw [show updX xs (sl i) v (sl j) = xs (sl j) by simp [updX, hsl j hj e]]
    exact hst j _ hj (d.at_ j hj ((seen_set hs).resolve_left e))
theorem DI.same (d : DI g N w0 sl H l xs w) (hg : w0.heap.size ≤ g) (hst : ∀ j v, j < N → H j v w → H j v w') {i : Nat} (hnl : l.getD i true = false) (hsl : ∀ j, j < N → j ≠ i → sl j ≠ sl i) (hk : Kept (isG g) w w') (hr : ∀ p, RdAt w g p → RdAt w' g p) {v : Value} (hv : H i v w') : DI g N w0 sl H (l.setIfInBounds i true) (updX xs (sl i) v) w' := by
  obtain ⟨p, p0, p1, h1⟩ := d.rd
  exact d.put hg hst hnl hsl hk p0 p1 (Int.le_refl _) (by omega) (hr p h1) hv
theorem DI.room (d : DI g N w0 sl H l xs w) : ∃ p : Int, 0 ≤ p ∧ p ≤ 10 * (N : Int) ∧ p + 10 * (l.toList.count false : Nat) ≤ 10 * (N : Nat) ∧ RdAt w g p := by
  obtain ⟨p, p0, p1, h1⟩ := d.rd
  exact ⟨p, p0, by omega, p1, h1⟩
end
/-- What a slot may hold: the reader, a number in bounds, a row of numbers in bounds, the address of a number in bounds. -/
inductive Ty where
  | P
  | I (lo hi : Int)
  | R (n : Nat) (lo hi : Int)
  | A (lo hi : Int)
def isI (lo hi : Int) (v : Value) : Prop := ∃ x : Int, v = .int .i64 x ∧ lo ≤ x ∧ x ≤ hi
def isR (g n : Nat) (lo hi : Int) (v : Value) (w : World) : Prop := ∃ h : Nat, v = .slice (some ⟨h, 0, none⟩) n n ∧ h ≠ g ∧ ∀ i, i < n → ∃ x : Int, lo ≤ x ∧ x ≤ hi ∧ w.cell? ⟨h, 0 + i, none⟩ = some (.int .i64 x)
def isA (g : Nat) (lo hi : Int) (v : Value) (w : World) : Prop := ∃ (h o : Nat) (x : Int), v = .pointer (some ⟨h, o, none⟩) ∧ h ≠ g ∧ lo ≤ x ∧ x ≤ hi ∧ w.cell? ⟨h, o, none⟩ = some (.int .i64 x)
def Ty.holds (g : Nat) (v : Value) (w : World) : Ty → Prop
  | .P => v = .pointer (some ⟨g, 0, none⟩)
  | .I lo hi => isI lo hi v
  | .R n lo hi => isR g n lo hi v w
  | .A lo hi => isA g lo hi v w
theorem Ty.keep {g : Nat} {v : Value} {w w' : World} {t : Ty} (h : t.holds g v w) (hk : Kept (isG g) w w') : t.holds g v w' := by
  cases t with
  | P => exact h
  | I lo hi => exact h
  | R n lo hi =>
    obtain ⟨a, rfl, h1, h3⟩ := h
    refine ⟨a, rfl, h1, fun i hi => ?_⟩
    obtain ⟨x, x0, x1, hx⟩ := h3 i hi
    exact ⟨x, x0, x1, cell_kept hx hk h1⟩
  | A lo hi =>
    obtain ⟨a, o, x, rfl, h1, x0, x1, hx⟩ := h
    exact ⟨a, o, x, rfl, h1, x0, x1, cell_kept hx hk h1⟩
theorem RdAt.lt' {w : World} {g : Nat} {p : Int} (h : RdAt w g p) : g < w.heap.size := by obtain ⟨A, n, c, z, h1, _⟩ := h; exact h1.lt
theorem row4 {lo hi a b c e : Int} (w : World) (t : TypeId) (a0 : lo ≤ a) (a1 : a ≤ hi) (b0 : lo ≤ b) (b1 : b ≤ hi) (c0 : lo ≤ c) (c1 : c ≤ hi) (e0 : lo ≤ e) (e1 : e ≤ hi) : ∀ i, i < 4 → ∃ x : Int, lo ≤ x ∧ x ≤ hi ∧ (w.alloc (.cells #[.int .i64 a, .int .i64 b, .int .i64 c, .int .i64 e] t)).cell? ⟨w.heap.size, 0 + i, none⟩ = some (.int .i64 x) := fun i hi' => by
  have k := Bk.new w t #[.int .i64 a, .int .i64 b, .int .i64 c, .int .i64 e]
  have : i = 0 ∨ i = 1 ∨ i = 2 ∨ i = 3 := by omega
  rcases this with rfl | rfl | rfl | rfl
  · exact ⟨a, a0, a1, k.cell 0⟩
  · exact ⟨b, b0, b1, k.cell 1⟩
  · exact ⟨c, c0, c1, k.cell 2⟩
  · exact ⟨e, e0, e1, k.cell 3⟩
theorem rem_t (x m : Int) (h0 : 0 ≤ x) (hm : 0 < m) : 0 ≤ x.tmod m ∧ x.tmod m ≤ m - 1 := by
  rw [Int.tmod_eq_emod_of_nonneg h0]
  exact ⟨Int.emod_nonneg _ (by omega), by have := Int.emod_lt_of_pos x hm; omega⟩
theorem rem_b (x m : Int) (h0 : 0 ≤ x) (hm : 0 < m) : 0 ≤ x % m ∧ x % m ≤ m - 1 := ⟨Int.emod_nonneg _ (by omega), by have := Int.emod_lt_of_pos x hm; omega⟩
def pw (k : Int) : Int := if k ≤ 0 then 0 else if k ≤ 1 then 255 else if k ≤ 2 then 65535 else if k ≤ 3 then 16777215 else if k ≤ 4 then 4294967295 else if k ≤ 5 then 1099511627775 else if k ≤ 6 then 281474976710655 else 72057594037927935
theorem pw_step (k : Int) (h0 : 0 ≤ k) (h1 : k < 7) : pw (k + 1) = 256 * pw k + 255 ∧ pw k ≤ 281474976710655 := by
  have : k = 0 ∨ k = 1 ∨ k = 2 ∨ k = 3 ∨ k = 4 ∨ k = 5 ∨ k = 6 := by omega
  rcases this with rfl | rfl | rfl | rfl | rfl | rfl | rfl <;> decide
def BigP (g : Nat) (p : Int) (w : World) (e : Ending) (w' : World) : Prop := ∃ v : Int, e = .returned (.int .i64 v) ∧ 0 ≤ v ∧ v ≤ 72057594037927935 ∧ RdAt w' g (p + 7) ∧ Kept (isG g) w w'
set_option maxHeartbeats 400000 in
theorem big_any (g : Nat) (p : Int) (hp0 : 0 ≤ p) (hp : p ≤ 900000000) (w : World) (h : RdAt w g p) :
    Calls Try.prog 12 #[.pointer (some ⟨g, 0, none⟩)] w (BigP g p w) := by
  have HR := Lib.hid h
  clear h
  go_enter Try.func12, Try.ntmps12
  go_wp2_with fail
  go_loopw [3, 4] (fun n i wr => ∃ k v : Int, 0 ≤ k ∧ k ≤ 7 ∧ 0 ≤ v ∧ v ≤ pw k ∧ n = .int .i64 v ∧ i = .int .i64 k ∧ RdAt wr g (p + k) ∧ Kept (isG g) w wr) (fun _ i _ => (7 - intOf i).toNat)
  case atStart => exact ⟨0, 0, by omega, by omega, by omega, by decide, rfl, rfl, by simpa using HR.out, Kept.refl _ _⟩
  case round =>
    obtain ⟨k, v, k0, k1, v0, v1, rfl, rfl, hr, hk⟩ := hrel
    by_cases hlt : k < 7
    · obtain ⟨e1, e2⟩ := pw_step k k0 hlt
      have HR1 := Lib.hid hr
      have HK1 := Lib.hid hk
      have HE := Lib.hid e1
      clear hr hk HR e1
      generalize hq : pw k = q at v1 e2 HE
      go_wp2_with fail
      refine (pick_any g _ 256 (by omega) (by omega) (by omega) (by omega) wr HR1.out).mono ?_
      rintro e w2 ⟨u, rfl, u0, u1, hr2, hk2⟩
      have HR2 := Lib.hid hr2
      have HK2 := Lib.hid (HK1.out.trans hk2)
      clear hr2 hk2 HR1 HK1
      go_wp2_with fail
      go_roundw
      case rel => exact ⟨k + 1, _, by omega, by omega, by omega, by rw [HE.out]; omega, rfl, rfl, by rw [← Int.add_assoc]; exact HR2.out, HK2.out⟩
      case measure => simp [intOf]; omega
    · obtain rfl : k = 7 := by omega
      have HR1 := Lib.hid hr
      have HK1 := Lib.hid hk
      have v2 : v ≤ 72057594037927935 := by simpa [pw] using v1
      clear hr hk HR v1
      go_wp2_with fail
      go_ret
      exact ⟨v, rfl, v0, v2, HR1.out, HK1.out⟩
end Go.Proofs.Ytbpggefdcpemkaa

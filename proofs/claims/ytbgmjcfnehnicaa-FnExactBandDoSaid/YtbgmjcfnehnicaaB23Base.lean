/- Bands: a region whose order is drawn, by an invariant: a copy of the band, a copy of the operation, BandDo, a variable for its first result. -/
import Derived.Test.YtbgmjcfnehnicaaB22Base
import Derived.Test.YtbgmjcfnehnicaaOrdInv
namespace Go.Proofs.Ytbgmjcfnehnicaa
open Go.RowKit
def seen (l : Array Bool) (i : Nat) : Prop := l.getD i false = true
theorem seen_set {l : Array Bool} {i j : Nat} (h : seen (l.setIfInBounds i true) j) : j = i ∨ seen l j := by
  by_cases e : i = j
  · exact .inl e.symm
  · exact .inr (by unfold seen at h ⊢; rwa [getD_set_ne false e] at h)
theorem seen_more {l : Array Bool} {i j : Nat} (h : seen l j) : seen (l.setIfInBounds i true) j := getD_set_true h
theorem seen_self {l : Array Bool} {i : Nat} (h : l.getD i true = false) : seen (l.setIfInBounds i true) i := by
  have hlt : i < l.size := by
    rcases Nat.lt_or_ge i l.size with h' | h'
    · exact h'
    · simp [Array.getElem?_eq_none h'] at h
  unfold seen
  simp [hlt]
theorem not_seen {l : Array Bool} {i : Nat} (h : l.getD i true = false) : ¬ seen l i := by
  have hlt : i < l.size := by
    rcases Nat.lt_or_ge i l.size with h' | h'
    · exact h'
    · simp [Array.getElem?_eq_none h'] at h
  intro hs
  unfold seen at hs
  simp [hlt] at h hs
  rw [h] at hs
  cases hs
theorem ready_seen {md : Region.Mode} {ops : Array Oper} {l : Array Bool} {i k : Nat} (h : i ∈ Region.ready md ops l) (hk : (ops[i]?.map fun o => o.after.any fun e => Region.binds md e && e.on == k) = some true) : seen l k := by
  obtain ⟨_, o, ho, hall⟩ := mem_ready.1 h
  rw [ho] at hk
  simp only [Option.map_some, Option.some.injEq] at hk
  obtain ⟨e, he, hb⟩ := Array.any_eq_true'.1 hk
  simp only [Bool.and_eq_true, beq_iff_eq] at hb
  have := hall e he hb.1
  rw [hb.2] at this
  exact this
theorem ready_lt {md : Region.Mode} {ops : Array Oper} {l : Array Bool} {i : Nat} (h : i ∈ Region.ready md ops l) : i < ops.size := by
  obtain ⟨_, o, ho, _⟩ := mem_ready.1 h
  exact (Array.getElem?_eq_some_iff.1 ho).1
/-- All are listed when none is ready, if each comes behind lesser ones. -/
theorem all_seen {md : Region.Mode} {ops : Array Oper} {l : Array Bool} (hs : l.size = ops.size) (hr : Region.ready md ops l = []) (hlt : ∀ (i : Nat) (o : Oper), ops[i]? = some o → ∀ e ∈ o.after, Region.binds md e = true → e.on < i) : ∀ i, i < ops.size → seen l i := fun i => by
  induction i using Nat.strongRecOn with
  | ind i ih =>
    intro hi
    cases hg : l.getD i true
    · have : i ∈ Region.ready md ops l := mem_ready.2 ⟨hg, ops[i], Array.getElem?_eq_getElem hi, fun e he hb => ih e.on (hlt i _ (Array.getElem?_eq_getElem hi) e he hb) (by have := hlt i _ (Array.getElem?_eq_getElem hi) e he hb; omega)⟩
      rw [hr] at this
      cases this
    · unfold seen
      have hl : i < l.size := by omega
      simpa [hl] using hg
/-- A region that draws its order, by an invariant. -/
theorem region_inv {P : Program} {ops : Array Oper} {Q : Exit → Act → World → Prop} {id : Nat} {a : Act} {w : World} (hm : P.follows .mixedOrders = true) (I : Act → Array Bool → Act → World → Prop)
    (h0 : I a (Array.replicate ops.size false) a w.drew)
    (hstep : ∀ l b w', I a l b w' → ∀ i, i ∈ Region.ready .any ops l → wpOp P ops Q i (fun b' w'' => I a (l.setIfInBounds i true) b' w'') b w')
    (hlt : ∀ (i : Nat) (o : Oper), ops[i]? = some o → ∀ e ∈ o.after, Region.binds .any e = true → e.on < i)
    (hend : ∀ l b w', I a l b w' → (∀ i, i < ops.size → seen l i) → Q .normal b w') : (Code.region id ops true).wp P Q a w := by
  refine wp_region_any hm (wpAny_inv (fun l b w' => l.size = ops.size ∧ I a l b w') (fun l b w' h i hi => wpOp_mono (fun b' w'' h' => ⟨by rw [Array.size_setIfInBounds]; exact h.1, h'⟩) (hstep l b w' h.2 i hi)) (fun l b w' h hr => hend l b w' h.2 (all_seen h.1 hr hlt)) ops.size _ a _ ⟨by simp, h0⟩ ?_)
  rw [Array.toList_replicate, List.count_replicate_self]
  exact Nat.le_refl _
/-- Each operation comes behind lesser ones. -/
def lesser (ops : Array Oper) : Bool := (List.range ops.size).all fun i => match ops[i]? with | some o => o.after.all fun e => decide (e.on < i) || !Region.binds .any e | none => true
theorem lesser_spec {ops : Array Oper} (h : lesser ops = true) : ∀ (i : Nat) (o : Oper), ops[i]? = some o → ∀ e ∈ o.after, Region.binds .any e = true → e.on < i := fun i o ho e he hb => by
  have hi := (Array.getElem?_eq_some_iff.1 ho).1
  have := List.all_eq_true.1 h i (List.mem_range.2 hi)
  rw [ho] at this
  have := Array.all_eq_true_iff_forall_mem.1 this e he
  simpa [hb] using this
theorem seen_none (n j : Nat) : ¬ seen (Array.replicate n false) j := by
  unfold seen
  simp [Array.getElem?_replicate]
  split <;> simp
theorem Rows2.ge {w : World} {B n : Nat} {A A' : Option Addr} {f f' : Nat → Value} (h : Rows2 w B A A' n f f') (hn : 0 < n) (k : Nat) (hk : hd A k ∨ hd A' k) : B ≤ k := by
  rcases hk with ⟨o, e⟩ | ⟨o, e⟩
  · obtain ⟨g, e1, hB, _⟩ := h.1 hn
    rw [e1] at e
    simp only [Option.some.injEq, Addr.mk.injEq] at e
    omega
  · obtain ⟨g, e1, hB, _⟩ := h.2.1 hn
    rw [e1] at e
    simp only [Option.some.injEq, Addr.mk.injEq] at e
    omega
/-- What has been done of the region's operations. -/
structure RegI (C Q P S q p s : Int) (N n m : Nat) (F D f f' : Nat → Value) (AGB AGO : Value) (w1 : World) (l : Array Bool) (w : World) (x22 x23 x24 x25 x26 x21 x27 x28 x6 x7 : Value) (B B' Al Ad : Option Addr) (d d' cl cd h : Nat) : Prop where
  bel : Below w1.heap.size w1 w
  p0 : seen l 0 → x22 = AGB
  p1 : seen l 1 → x23 = .agg #[.int .i64 q, .int .i64 p, .int .i64 s, .slice B n d, .slice B' m d'] ∧ (¬ seen l 4 → Rw w w.heap.size B n f ∧ Rw w w.heap.size B' m f')
  p2 : seen l 2 → x24 = AGO
  p3 : seen l 3 → x25 = AGO
  p4 : seen l 4 → x26 = .tuple #[.agg #[.int .i64 Q, .int .i64 P, .int .i64 S, .slice Al N cl, .slice Ad N cd], .int .i64 C] ∧ Rows2 w w1.heap.size Al Ad N F D
  p5 : seen l 5 → seen l 4 ∧ x21 = x26
  p6 : seen l 6 → seen l 4 ∧ x27 = .agg #[.int .i64 Q, .int .i64 P, .int .i64 S, .slice Al N cl, .slice Ad N cd]
  p7 : seen l 7 → x28 = .int .i64 C
  p8 : seen l 8 → x6 = .pointer (some ⟨h, 0, none⟩) ∧ w1.heap.size ≤ h ∧ h < w.heap.size ∧ (¬ seen l 9 → Bk w h 25 #[.int .i64 0, .int .i64 0, .int .i64 0, .slice none 0 0, .slice none 0 0])
  p9 : seen l 9 → seen l 4 ∧ seen l 8 ∧ Bk w h 25 #[.int .i64 Q, .int .i64 P, .int .i64 S, .slice Al N cl, .slice Ad N cd]
  p48 : seen l 4 → seen l 8 → 0 < N → ∀ k, hd Al k ∨ hd Ad k → k ≠ h
  p10 : seen l 10 → x7 = .int .i64 C
section
variable {C Q P S q p s : Int} {N n m : Nat} {F D f f' : Nat → Value} {AGB AGO : Value} {w1 : World} {l : Array Bool} {w w' : World} {x22 x23 x24 x25 x26 x21 x27 x28 x6 x7 : Value} {B B' Al Ad : Option Addr} {d d' cl cd h : Nat}
theorem RegI.go (r : RegI C Q P S q p s N n m F D f f' AGB AGO w1 l w x22 x23 x24 x25 x26 x21 x27 x28 x6 x7 B B' Al Ad d d' cl cd h) (hb : Below w.heap.size w w') : RegI C Q P S q p s N n m F D f f' AGB AGO w1 l w' x22 x23 x24 x25 x26 x21 x27 x28 x6 x7 B B' Al Ad d d' cl cd h :=
  ⟨Go.Proofs.Ytbgmjcfnehnicaa.bel r.bel hb, r.p0, fun a => ⟨(r.p1 a).1, fun b => ⟨((r.p1 a).2 b).1.at_ hb, ((r.p1 a).2 b).2.at_ hb⟩⟩, r.p2, r.p3, fun a => ⟨(r.p4 a).1, (r.p4 a).2.below hb⟩, r.p5, r.p6, r.p7,
    fun a => ⟨(r.p8 a).1, (r.p8 a).2.1, Nat.lt_of_lt_of_le (r.p8 a).2.2.1 hb.size, fun b => ((r.p8 a).2.2.2 b).below hb (r.p8 a).2.2.1⟩, fun a => ⟨(r.p9 a).1, (r.p9 a).2.1, (r.p9 a).2.2.below hb (r.p9 a).2.2.lt⟩, r.p48, r.p10⟩
theorem RegI.start (k : Nat) : RegI C Q P S q p s N n m F D f f' AGB AGO w1 (Array.replicate k false) w1.drew x22 x23 x24 x25 x26 x21 x27 x28 x6 x7 B B' Al Ad d d' cl cd h :=
  ⟨(Below.refl _ _).drew, fun a => absurd a (seen_none _ _), fun a => absurd a (seen_none _ _), fun a => absurd a (seen_none _ _), fun a => absurd a (seen_none _ _), fun a => absurd a (seen_none _ _), fun a => absurd a (seen_none _ _), fun a => absurd a (seen_none _ _), fun a => absurd a (seen_none _ _), fun a => absurd a (seen_none _ _), fun a => absurd a (seen_none _ _), fun a => absurd a (seen_none _ _), fun a => absurd a (seen_none _ _)⟩
theorem RegI.i0 (r : RegI C Q P S q p s N n m F D f f' AGB AGO w1 l w x22 x23 x24 x25 x26 x21 x27 x28 x6 x7 B B' Al Ad d d' cl cd h)  : RegI C Q P S q p s N n m F D f f' AGB AGO w1 (l.setIfInBounds 0 true) w AGB x23 x24 x25 x26 x21 x27 x28 x6 x7 B B' Al Ad d d' cl cd h := by
  have g : ∀ {j}, j ≠ 0 → seen (l.setIfInBounds 0 true) j → seen l j := fun hj hs => (seen_set hs).resolve_left hj
  have u : ∀ {j}, seen l j → seen (l.setIfInBounds 0 true) j := seen_more
  exact ⟨r.bel, fun _ => rfl, fun a => ⟨(r.p1 (g (by decide) a)).1, fun b => (r.p1 (g (by decide) a)).2 (fun c => b (u c))⟩, fun a => r.p2 (g (by decide) a), fun a => r.p3 (g (by decide) a), fun a => r.p4 (g (by decide) a), fun a => ⟨u (r.p5 (g (by decide) a)).1, (r.p5 (g (by decide) a)).2⟩, fun a => ⟨u (r.p6 (g (by decide) a)).1, (r.p6 (g (by decide) a)).2⟩, fun a => r.p7 (g (by decide) a), fun a => ⟨(r.p8 (g (by decide) a)).1, (r.p8 (g (by decide) a)).2.1, (r.p8 (g (by decide) a)).2.2.1, fun b => (r.p8 (g (by decide) a)).2.2.2 (fun c => b (u c))⟩, fun a => ⟨u (r.p9 (g (by decide) a)).1, u (r.p9 (g (by decide) a)).2.1, (r.p9 (g (by decide) a)).2.2⟩, fun a b => r.p48 (g (by decide) a) (g (by decide) b), fun a => r.p10 (g (by decide) a)⟩
theorem RegI.i1 (r : RegI C Q P S q p s N n m F D f f' AGB AGO w1 l w x22 x23 x24 x25 x26 x21 x27 x28 x6 x7 B B' Al Ad d d' cl cd h) {E E' : Option Addr} {e e' : Nat} (hB : Rw w w.heap.size E n f) (hB' : Rw w w.heap.size E' m f') : RegI C Q P S q p s N n m F D f f' AGB AGO w1 (l.setIfInBounds 1 true) w x22 (.agg #[.int .i64 q, .int .i64 p, .int .i64 s, .slice E n e, .slice E' m e']) x24 x25 x26 x21 x27 x28 x6 x7 E E' Al Ad e e' cl cd h := by
  have g : ∀ {j}, j ≠ 1 → seen (l.setIfInBounds 1 true) j → seen l j := fun hj hs => (seen_set hs).resolve_left hj
  have u : ∀ {j}, seen l j → seen (l.setIfInBounds 1 true) j := seen_more
  exact ⟨r.bel, fun a => r.p0 (g (by decide) a), fun _ => ⟨rfl, fun _ => ⟨hB, hB'⟩⟩, fun a => r.p2 (g (by decide) a), fun a => r.p3 (g (by decide) a), fun a => r.p4 (g (by decide) a), fun a => ⟨u (r.p5 (g (by decide) a)).1, (r.p5 (g (by decide) a)).2⟩, fun a => ⟨u (r.p6 (g (by decide) a)).1, (r.p6 (g (by decide) a)).2⟩, fun a => r.p7 (g (by decide) a), fun a => ⟨(r.p8 (g (by decide) a)).1, (r.p8 (g (by decide) a)).2.1, (r.p8 (g (by decide) a)).2.2.1, fun b => (r.p8 (g (by decide) a)).2.2.2 (fun c => b (u c))⟩, fun a => ⟨u (r.p9 (g (by decide) a)).1, u (r.p9 (g (by decide) a)).2.1, (r.p9 (g (by decide) a)).2.2⟩, fun a b => r.p48 (g (by decide) a) (g (by decide) b), fun a => r.p10 (g (by decide) a)⟩
theorem RegI.i2 (r : RegI C Q P S q p s N n m F D f f' AGB AGO w1 l w x22 x23 x24 x25 x26 x21 x27 x28 x6 x7 B B' Al Ad d d' cl cd h)  : RegI C Q P S q p s N n m F D f f' AGB AGO w1 (l.setIfInBounds 2 true) w x22 x23 AGO x25 x26 x21 x27 x28 x6 x7 B B' Al Ad d d' cl cd h := by
  have g : ∀ {j}, j ≠ 2 → seen (l.setIfInBounds 2 true) j → seen l j := fun hj hs => (seen_set hs).resolve_left hj
  have u : ∀ {j}, seen l j → seen (l.setIfInBounds 2 true) j := seen_more
  exact ⟨r.bel, fun a => r.p0 (g (by decide) a), fun a => ⟨(r.p1 (g (by decide) a)).1, fun b => (r.p1 (g (by decide) a)).2 (fun c => b (u c))⟩, fun _ => rfl, fun a => r.p3 (g (by decide) a), fun a => r.p4 (g (by decide) a), fun a => ⟨u (r.p5 (g (by decide) a)).1, (r.p5 (g (by decide) a)).2⟩, fun a => ⟨u (r.p6 (g (by decide) a)).1, (r.p6 (g (by decide) a)).2⟩, fun a => r.p7 (g (by decide) a), fun a => ⟨(r.p8 (g (by decide) a)).1, (r.p8 (g (by decide) a)).2.1, (r.p8 (g (by decide) a)).2.2.1, fun b => (r.p8 (g (by decide) a)).2.2.2 (fun c => b (u c))⟩, fun a => ⟨u (r.p9 (g (by decide) a)).1, u (r.p9 (g (by decide) a)).2.1, (r.p9 (g (by decide) a)).2.2⟩, fun a b => r.p48 (g (by decide) a) (g (by decide) b), fun a => r.p10 (g (by decide) a)⟩
theorem RegI.i3 (r : RegI C Q P S q p s N n m F D f f' AGB AGO w1 l w x22 x23 x24 x25 x26 x21 x27 x28 x6 x7 B B' Al Ad d d' cl cd h)  : RegI C Q P S q p s N n m F D f f' AGB AGO w1 (l.setIfInBounds 3 true) w x22 x23 x24 AGO x26 x21 x27 x28 x6 x7 B B' Al Ad d d' cl cd h := by
  have g : ∀ {j}, j ≠ 3 → seen (l.setIfInBounds 3 true) j → seen l j := fun hj hs => (seen_set hs).resolve_left hj
  have u : ∀ {j}, seen l j → seen (l.setIfInBounds 3 true) j := seen_more
  exact ⟨r.bel, fun a => r.p0 (g (by decide) a), fun a => ⟨(r.p1 (g (by decide) a)).1, fun b => (r.p1 (g (by decide) a)).2 (fun c => b (u c))⟩, fun a => r.p2 (g (by decide) a), fun _ => rfl, fun a => r.p4 (g (by decide) a), fun a => ⟨u (r.p5 (g (by decide) a)).1, (r.p5 (g (by decide) a)).2⟩, fun a => ⟨u (r.p6 (g (by decide) a)).1, (r.p6 (g (by decide) a)).2⟩, fun a => r.p7 (g (by decide) a), fun a => ⟨(r.p8 (g (by decide) a)).1, (r.p8 (g (by decide) a)).2.1, (r.p8 (g (by decide) a)).2.2.1, fun b => (r.p8 (g (by decide) a)).2.2.2 (fun c => b (u c))⟩, fun a => ⟨u (r.p9 (g (by decide) a)).1, u (r.p9 (g (by decide) a)).2.1, (r.p9 (g (by decide) a)).2.2⟩, fun a b => r.p48 (g (by decide) a) (g (by decide) b), fun a => r.p10 (g (by decide) a)⟩
theorem RegI.i4 (r : RegI C Q P S q p s N n m F D f f' AGB AGO w1 l w x22 x23 x24 x25 x26 x21 x27 x28 x6 x7 B B' Al Ad d d' cl cd h) {El Ed : Option Addr} {e e' : Nat} (hl : l.getD 4 true = false) (hR : Rows2 w w1.heap.size El Ed N F D) (hsep : seen l 8 → 0 < N → ∀ k, hd El k ∨ hd Ed k → k ≠ h) : RegI C Q P S q p s N n m F D f f' AGB AGO w1 (l.setIfInBounds 4 true) w x22 x23 x24 x25 (.tuple #[.agg #[.int .i64 Q, .int .i64 P, .int .i64 S, .slice El N e, .slice Ed N e'], .int .i64 C]) x21 x27 x28 x6 x7 B B' El Ed d d' e e' h := by
  have g : ∀ {j}, j ≠ 4 → seen (l.setIfInBounds 4 true) j → seen l j := fun hj hs => (seen_set hs).resolve_left hj
  have u : ∀ {j}, seen l j → seen (l.setIfInBounds 4 true) j := seen_more
  exact ⟨r.bel, fun a => r.p0 (g (by decide) a), fun a => ⟨(r.p1 (g (by decide) a)).1, fun b => absurd (seen_self hl) b⟩, fun a => r.p2 (g (by decide) a), fun a => r.p3 (g (by decide) a), fun _ => ⟨rfl, hR⟩, fun a => absurd (r.p5 (g (by decide) a)).1 (not_seen hl), fun a => absurd (r.p6 (g (by decide) a)).1 (not_seen hl), fun a => r.p7 (g (by decide) a), fun a => ⟨(r.p8 (g (by decide) a)).1, (r.p8 (g (by decide) a)).2.1, (r.p8 (g (by decide) a)).2.2.1, fun b => (r.p8 (g (by decide) a)).2.2.2 (fun c => b (u c))⟩, fun a => absurd (r.p9 (g (by decide) a)).1 (not_seen hl), fun _ b => hsep (g (by decide) b), fun a => r.p10 (g (by decide) a)⟩
theorem RegI.i5 (r : RegI C Q P S q p s N n m F D f f' AGB AGO w1 l w x22 x23 x24 x25 x26 x21 x27 x28 x6 x7 B B' Al Ad d d' cl cd h) (h4 : seen l 4) : RegI C Q P S q p s N n m F D f f' AGB AGO w1 (l.setIfInBounds 5 true) w x22 x23 x24 x25 x26 x26 x27 x28 x6 x7 B B' Al Ad d d' cl cd h := by
  have g : ∀ {j}, j ≠ 5 → seen (l.setIfInBounds 5 true) j → seen l j := fun hj hs => (seen_set hs).resolve_left hj
  have u : ∀ {j}, seen l j → seen (l.setIfInBounds 5 true) j := seen_more
  exact ⟨r.bel, fun a => r.p0 (g (by decide) a), fun a => ⟨(r.p1 (g (by decide) a)).1, fun b => (r.p1 (g (by decide) a)).2 (fun c => b (u c))⟩, fun a => r.p2 (g (by decide) a), fun a => r.p3 (g (by decide) a), fun a => r.p4 (g (by decide) a), fun _ => ⟨u h4, rfl⟩, fun a => ⟨u (r.p6 (g (by decide) a)).1, (r.p6 (g (by decide) a)).2⟩, fun a => r.p7 (g (by decide) a), fun a => ⟨(r.p8 (g (by decide) a)).1, (r.p8 (g (by decide) a)).2.1, (r.p8 (g (by decide) a)).2.2.1, fun b => (r.p8 (g (by decide) a)).2.2.2 (fun c => b (u c))⟩, fun a => ⟨u (r.p9 (g (by decide) a)).1, u (r.p9 (g (by decide) a)).2.1, (r.p9 (g (by decide) a)).2.2⟩, fun a b => r.p48 (g (by decide) a) (g (by decide) b), fun a => r.p10 (g (by decide) a)⟩
theorem RegI.i6 (r : RegI C Q P S q p s N n m F D f f' AGB AGO w1 l w x22 x23 x24 x25 x26 x21 x27 x28 x6 x7 B B' Al Ad d d' cl cd h) (h4 : seen l 4) : RegI C Q P S q p s N n m F D f f' AGB AGO w1 (l.setIfInBounds 6 true) w x22 x23 x24 x25 x26 x21 (.agg #[.int .i64 Q, .int .i64 P, .int .i64 S, .slice Al N cl, .slice Ad N cd]) x28 x6 x7 B B' Al Ad d d' cl cd h := by
  have g : ∀ {j}, j ≠ 6 → seen (l.setIfInBounds 6 true) j → seen l j := fun hj hs => (seen_set hs).resolve_left hj
  have u : ∀ {j}, seen l j → seen (l.setIfInBounds 6 true) j := seen_more
  exact ⟨r.bel, fun a => r.p0 (g (by decide) a), fun a => ⟨(r.p1 (g (by decide) a)).1, fun b => (r.p1 (g (by decide) a)).2 (fun c => b (u c))⟩, fun a => r.p2 (g (by decide) a), fun a => r.p3 (g (by decide) a), fun a => r.p4 (g (by decide) a), fun a => ⟨u (r.p5 (g (by decide) a)).1, (r.p5 (g (by decide) a)).2⟩, fun _ => ⟨u h4, rfl⟩, fun a => r.p7 (g (by decide) a), fun a => ⟨(r.p8 (g (by decide) a)).1, (r.p8 (g (by decide) a)).2.1, (r.p8 (g (by decide) a)).2.2.1, fun b => (r.p8 (g (by decide) a)).2.2.2 (fun c => b (u c))⟩, fun a => ⟨u (r.p9 (g (by decide) a)).1, u (r.p9 (g (by decide) a)).2.1, (r.p9 (g (by decide) a)).2.2⟩, fun a b => r.p48 (g (by decide) a) (g (by decide) b), fun a => r.p10 (g (by decide) a)⟩
theorem RegI.i7 (r : RegI C Q P S q p s N n m F D f f' AGB AGO w1 l w x22 x23 x24 x25 x26 x21 x27 x28 x6 x7 B B' Al Ad d d' cl cd h)  : RegI C Q P S q p s N n m F D f f' AGB AGO w1 (l.setIfInBounds 7 true) w x22 x23 x24 x25 x26 x21 x27 (.int .i64 C) x6 x7 B B' Al Ad d d' cl cd h := by
  have g : ∀ {j}, j ≠ 7 → seen (l.setIfInBounds 7 true) j → seen l j := fun hj hs => (seen_set hs).resolve_left hj
  have u : ∀ {j}, seen l j → seen (l.setIfInBounds 7 true) j := seen_more
  exact ⟨r.bel, fun a => r.p0 (g (by decide) a), fun a => ⟨(r.p1 (g (by decide) a)).1, fun b => (r.p1 (g (by decide) a)).2 (fun c => b (u c))⟩, fun a => r.p2 (g (by decide) a), fun a => r.p3 (g (by decide) a), fun a => r.p4 (g (by decide) a), fun a => ⟨u (r.p5 (g (by decide) a)).1, (r.p5 (g (by decide) a)).2⟩, fun a => ⟨u (r.p6 (g (by decide) a)).1, (r.p6 (g (by decide) a)).2⟩, fun _ => rfl, fun a => ⟨(r.p8 (g (by decide) a)).1, (r.p8 (g (by decide) a)).2.1, (r.p8 (g (by decide) a)).2.2.1, fun b => (r.p8 (g (by decide) a)).2.2.2 (fun c => b (u c))⟩, fun a => ⟨u (r.p9 (g (by decide) a)).1, u (r.p9 (g (by decide) a)).2.1, (r.p9 (g (by decide) a)).2.2⟩, fun a b => r.p48 (g (by decide) a) (g (by decide) b), fun a => r.p10 (g (by decide) a)⟩
theorem RegI.i8 (r : RegI C Q P S q p s N n m F D f f' AGB AGO w1 l w x22 x23 x24 x25 x26 x21 x27 x28 x6 x7 B B' Al Ad d d' cl cd h) (hl : l.getD 8 true = false) : RegI C Q P S q p s N n m F D f f' AGB AGO w1 (l.setIfInBounds 8 true) (w.alloc (.cells #[.int .i64 0, .int .i64 0, .int .i64 0, .slice none 0 0, .slice none 0 0] 25)) x22 x23 x24 x25 x26 x21 x27 x28 (.pointer (some ⟨w.heap.size, 0, none⟩)) x7 B B' Al Ad d d' cl cd w.heap.size := by
  have g : ∀ {j}, j ≠ 8 → seen (l.setIfInBounds 8 true) j → seen l j := fun hj hs => (seen_set hs).resolve_left hj
  have u : ∀ {j}, seen l j → seen (l.setIfInBounds 8 true) j := seen_more
  have hb : Below w.heap.size w (w.alloc (.cells #[.int .i64 0, .int .i64 0, .int .i64 0, .slice none 0 0, .slice none 0 0] 25)) := (Below.refl _ w).alloc (Nat.le_refl _) _
  exact ⟨r.bel.alloc r.bel.size _, fun a => r.p0 (g (by decide) a), fun a => ⟨(r.p1 (g (by decide) a)).1, fun b => ⟨((r.p1 (g (by decide) a)).2 (fun c => b (u c))).1.at_ hb, ((r.p1 (g (by decide) a)).2 (fun c => b (u c))).2.at_ hb⟩⟩, fun a => r.p2 (g (by decide) a), fun a => r.p3 (g (by decide) a), fun a => ⟨(r.p4 (g (by decide) a)).1, (r.p4 (g (by decide) a)).2.below hb⟩, fun a => ⟨u (r.p5 (g (by decide) a)).1, (r.p5 (g (by decide) a)).2⟩, fun a => ⟨u (r.p6 (g (by decide) a)).1, (r.p6 (g (by decide) a)).2⟩, fun a => r.p7 (g (by decide) a), fun _ => ⟨rfl, r.bel.size, by simp, fun _ => Bk.new w _ _⟩, fun a => absurd (r.p9 (g (by decide) a)).2.1 (not_seen hl), fun a _ hN k hk => Nat.ne_of_lt ((r.p4 (g (by decide) a)).2.ub hN k hk), fun a => r.p10 (g (by decide) a)⟩
theorem RegI.i9 (r : RegI C Q P S q p s N n m F D f f' AGB AGO w1 l w x22 x23 x24 x25 x26 x21 x27 x28 x6 x7 B B' Al Ad d d' cl cd h) (hl : l.getD 9 true = false) (h4 : seen l 4) (h8 : seen l 8) : RegI C Q P S q p s N n m F D f f' AGB AGO w1 (l.setIfInBounds 9 true) (((((w.setCell ⟨h, 0, none⟩ (.int .i64 Q)).setCell ⟨h, 1, none⟩ (.int .i64 P)).setCell ⟨h, 2, none⟩ (.int .i64 S)).setCell ⟨h, 3, none⟩ (.slice Al N cl)).setCell ⟨h, 4, none⟩ (.slice Ad N cd)) x22 x23 x24 x25 x26 x21 x27 x28 x6 x7 B B' Al Ad d d' cl cd h := by
  have g : ∀ {j}, j ≠ 9 → seen (l.setIfInBounds 9 true) j → seen l j := fun hj hs => (seen_set hs).resolve_left hj
  have u : ∀ {j}, seen l j → seen (l.setIfInBounds 9 true) j := seen_more
  obtain ⟨_, hge, hlt, hk0⟩ := r.p8 h8
  have k0 := hk0 (not_seen hl)
  have hk : Kept (fun b => b = h) w (((((w.setCell ⟨h, 0, none⟩ (.int .i64 Q)).setCell ⟨h, 1, none⟩ (.int .i64 P)).setCell ⟨h, 2, none⟩ (.int .i64 S)).setCell ⟨h, 3, none⟩ (.slice Al N cl)).setCell ⟨h, 4, none⟩ (.slice Ad N cd)) := ((((((Kept.refl (fun b => b = h) w).setCell (q := ⟨h, 0, none⟩) rfl (.int .i64 Q)).setCell (q := ⟨h, 1, none⟩) rfl (.int .i64 P)).setCell (q := ⟨h, 2, none⟩) rfl (.int .i64 S)).setCell (q := ⟨h, 3, none⟩) rfl (.slice Al N cl)).setCell (q := ⟨h, 4, none⟩) rfl (.slice Ad N cd))
  exact ⟨(((((r.bel.setCell (p := ⟨h, 0, none⟩) hge (.int .i64 Q)).setCell (p := ⟨h, 1, none⟩) hge (.int .i64 P)).setCell (p := ⟨h, 2, none⟩) hge (.int .i64 S)).setCell (p := ⟨h, 3, none⟩) hge (.slice Al N cl)).setCell (p := ⟨h, 4, none⟩) hge (.slice Ad N cd)), fun a => r.p0 (g (by decide) a), fun a => ⟨(r.p1 (g (by decide) a)).1, fun b => absurd (u h4) b⟩, fun a => r.p2 (g (by decide) a), fun a => r.p3 (g (by decide) a), fun a => ⟨(r.p4 h4).1, (r.p4 h4).2.kept hk (fun hN k _ hh e => r.p48 h4 h8 hN k hh e)⟩, fun a => ⟨u (r.p5 (g (by decide) a)).1, (r.p5 (g (by decide) a)).2⟩, fun a => ⟨u (r.p6 (g (by decide) a)).1, (r.p6 (g (by decide) a)).2⟩, fun a => r.p7 (g (by decide) a), fun _ => ⟨(r.p8 h8).1, hge, by simpa using (r.p8 h8).2.2.1, fun b => absurd (seen_self hl) b⟩, fun _ => ⟨u h4, u h8, (((((k0.put 0 (.int .i64 Q)).put 1 (.int .i64 P)).put 2 (.int .i64 S)).put 3 (.slice Al N cl)).put 4 (.slice Ad N cd))⟩, fun a b => r.p48 (g (by decide) a) (g (by decide) b), fun a => r.p10 (g (by decide) a)⟩
theorem RegI.i10 (r : RegI C Q P S q p s N n m F D f f' AGB AGO w1 l w x22 x23 x24 x25 x26 x21 x27 x28 x6 x7 B B' Al Ad d d' cl cd h)  : RegI C Q P S q p s N n m F D f f' AGB AGO w1 (l.setIfInBounds 10 true) w x22 x23 x24 x25 x26 x21 x27 x28 x6 (.int .i64 C) B B' Al Ad d d' cl cd h := by
  have g : ∀ {j}, j ≠ 10 → seen (l.setIfInBounds 10 true) j → seen l j := fun hj hs => (seen_set hs).resolve_left hj
  have u : ∀ {j}, seen l j → seen (l.setIfInBounds 10 true) j := seen_more
  exact ⟨r.bel, fun a => r.p0 (g (by decide) a), fun a => ⟨(r.p1 (g (by decide) a)).1, fun b => (r.p1 (g (by decide) a)).2 (fun c => b (u c))⟩, fun a => r.p2 (g (by decide) a), fun a => r.p3 (g (by decide) a), fun a => r.p4 (g (by decide) a), fun a => ⟨u (r.p5 (g (by decide) a)).1, (r.p5 (g (by decide) a)).2⟩, fun a => ⟨u (r.p6 (g (by decide) a)).1, (r.p6 (g (by decide) a)).2⟩, fun a => r.p7 (g (by decide) a), fun a => ⟨(r.p8 (g (by decide) a)).1, (r.p8 (g (by decide) a)).2.1, (r.p8 (g (by decide) a)).2.2.1, fun b => (r.p8 (g (by decide) a)).2.2.2 (fun c => b (u c))⟩, fun a => ⟨u (r.p9 (g (by decide) a)).1, u (r.p9 (g (by decide) a)).2.1, (r.p9 (g (by decide) a)).2.2⟩, fun a b => r.p48 (g (by decide) a) (g (by decide) b), fun _ => rfl⟩
end
end Go.Proofs.Ytbgmjcfnehnicaa

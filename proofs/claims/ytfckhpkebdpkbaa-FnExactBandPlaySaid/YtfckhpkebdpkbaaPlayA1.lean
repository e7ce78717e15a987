/-
  A law on runs of Sem: two worlds that part in hidden blocks.
-/
import Derived.Conc.BesideWords
import Derived.Conc.Own2
namespace Go.Bp
open Go Go.Conc

structure Sim (X : Nat → Prop) (u w : World) : Prop where
  size : w.heap.size = u.heap.size
  same : ∀ k, ¬ X k → w.heap[k]? = u.heap[k]?
  hid : ∀ k, X k → ∃ c e fr, w.heap[k]? = some (.cells c e fr) ∧ u.heap[k]? = some (.cells #[] e fr)
  os : w.os = u.os
  output : w.output = u.output

theorem Sim.below {X : Nat → Prop} {u w : World} (h : Sim X u w) {k : Nat} (hx : X k) : k < u.heap.size := by
  obtain ⟨c, e, fr, _, h2⟩ := h.hid k hx
  exact (Array.getElem?_eq_some_iff.1 h2).1

theorem Sim.cell {X : Nat → Prop} {u w : World} (h : Sim X u w) {a : Addr} {v : Value} (hv : u.cell? a = some v) : ¬ X a.block ∧ w.cell? a = some v := by
  have hn : ¬ X a.block := fun hx => by
    obtain ⟨c, e, fr, _, h2⟩ := h.hid _ hx
    simp [World.cell?, h2] at hv
  refine ⟨hn, ?_⟩
  rw [← hv]
  simp [World.cell?, h.same _ hn]

theorem Sim.cellNone {X : Nat → Prop} {u w : World} (h : Sim X u w) {a : Addr} (hn : ¬ X a.block) : w.cell? a = u.cell? a := by
  simp [World.cell?, h.same _ hn]

theorem Sim.frozen {X : Nat → Prop} {u w : World} (h : Sim X u w) (a : Addr) : w.frozen? a = u.frozen? a := by
  by_cases hx : X a.block
  · obtain ⟨c, e, fr, h1, h2⟩ := h.hid _ hx
    simp [World.frozen?, h1, h2]
  · simp [World.frozen?, h.same _ hx]

theorem Sim.setCell {X : Nat → Prop} {u w : World} (h : Sim X u w) {a : Addr} (v : Value) (hn : ¬ X a.block) : Sim X (u.setCell a v) (w.setCell a v) := by
  refine ⟨by simp [World.setCell, h.size], fun k hk => ?_, fun k hk => ?_, h.os, h.output⟩
  · simp only [World.setCell, Array.getElem?_modify]
    rw [h.same k hk]
  · have hne : a.block ≠ k := fun e => hn (e ▸ hk)
    simp only [World.setCell, Array.getElem?_modify, if_neg hne]
    exact h.hid k hk

theorem setCell_other {w : World} {a : Addr} {v : Value} {k : Nat} (h : a.block ≠ k) : (w.setCell a v).heap[k]? = w.heap[k]? := by
  simp only [World.setCell, Array.getElem?_modify, if_neg h]

theorem Sim.freeze {X : Nat → Prop} {u w : World} (h : Sim X u w) (a : Addr) (n : Nat) : Sim X (u.freeze a n) (w.freeze a n) := by
  by_cases hn : n = 0
  · simpa [World.freeze, hn] using h
  · refine ⟨by simp [World.freeze, hn, h.size], fun k hk => ?_, fun k hk => ?_, by simp [World.freeze, hn, h.os], by simp [World.freeze, hn, h.output]⟩
    · simp only [World.freeze, hn, if_false, Array.getElem?_modify]
      rw [h.same k hk]
    · obtain ⟨c, e, fr, h1, h2⟩ := h.hid k hk
      simp only [World.freeze, hn, if_false, Array.getElem?_modify]
      by_cases e : a.block = k
      · simp only [e, if_true, h1, h2, Option.map_some]
        exact ⟨_, _, _, rfl, rfl⟩
      · simp only [if_neg e]
        exact ⟨c, _, fr, h1, h2⟩

theorem Sim.push {X : Nat → Prop} {u w : World} (h : Sim X u w) (o : Obj) : Sim X { u with heap := u.heap.push o } { w with heap := w.heap.push o } := by
  refine ⟨by simp [h.size], fun k hk => ?_, fun k hk => ?_, h.os, h.output⟩
  · simp only [Array.getElem?_push, h.size]
    rw [h.same k hk]
  · have := h.below hk
    obtain ⟨c, e, fr, h1, h2⟩ := h.hid k hk
    have hs := h.size
    refine ⟨c, e, fr, ?_, ?_⟩
    · simp only [Array.getElem?_push]; rw [if_neg (by omega)]; exact h1
    · simp only [Array.getElem?_push]; rw [if_neg (by omega)]; exact h2

theorem Sim.setObj {X : Nat → Prop} {u w : World} (h : Sim X u w) {r : Nat} (o : Obj) (hn : ¬ X r) : Sim X { u with heap := u.heap.setIfInBounds r o } { w with heap := w.heap.setIfInBounds r o } := by
  refine ⟨by simp [h.size], fun k hk => ?_, fun k hk => ?_, h.os, h.output⟩
  · by_cases e : r = k
    · subst e
      simp [Array.getElem?_setIfInBounds, h.size]
    · simp only [Array.getElem?_setIfInBounds_ne e]; exact h.same k hk
  · have e : r ≠ k := fun e => hn (e ▸ hk)
    simp only [Array.getElem?_setIfInBounds_ne e]; exact h.hid k hk

theorem Sim.drawn {X : Nat → Prop} {u w : World} (h : Sim X u w) (d d' : Nat) : Sim X { u with drawn := d } { w with drawn := d' } := ⟨h.size, h.same, h.hid, h.os, h.output⟩
theorem Sim.tape {X : Nat → Prop} {u w : World} (h : Sim X u w) (t t' : Nat → Question → Nat) (d d' : Nat) : Sim X { u with drawn := d, tape := t } { w with drawn := d', tape := t' } := ⟨h.size, h.same, h.hid, h.os, h.output⟩

/-- What a step of plain code may list. -/
def EvX (X : Nat → Prop) (e : Event) : Prop :=
  (∀ a, e.loc = .cell a → ¬ X a.block) ∧ (∀ r, e.loc = .obj r → ¬ X r) ∧ (∀ m, e.loc = .mark m → m ≠ .disable ∧ m ≠ .enable ∧ ∀ a, m ≠ .read a ∧ m ≠ .write a)

/-! ### memory seen as another type -/
theorem bytes_pos {v : Value} {bs : List UInt8} (h : v.bytes? = some bs) : bs ≠ [] := by
  cases v <;> simp [Value.bytes?] at h
  · subst h; split <;> simp
  · rename_i k n
    subst h
    cases k <;> simp [IntKind.bits, leBytes]
  · rename_i k n
    subst h
    cases k <;> simp [FloatKind.bytes, leBytes]
  · rename_i k n m
    subst h
    cases k <;> simp [FloatKind.bytes, leBytes]

theorem seenCells_none {p : Program} {e : TypeId} {f x stop : Nat} (h : x < stop) : ∀ l, seenCells p #[] e (f + 1) x stop ≠ .ok l := by
  intro l
  unfold seenCells
  rw [if_neg (by omega)]
  dsimp only
  by_cases hw : p.bytesOf e = 0
  · simp [hw]
  · rw [if_neg hw]
    cases cellHolding p p.depth e (x % p.bytesOf e) <;> simp

theorem seen_hid {p : Program} {u : World} {at_ : Addr} {t : TypeId} {k : Addr} {at' : Bool} {e : TypeId} {fr : Nat × Nat} (h : u.heap[at_.block]? = some (.cells #[] e fr)) :
    ∀ r, u.seen p at_ t k at' ≠ .ok r := by
  intro r
  unfold World.seen
  simp only [h]
  intro hr
  simp only [bind, Except.bind, pure, Except.pure] at hr
  split at hr
  · simp [MonadExcept.throw, throwThe, MonadExceptOf.throw] at hr
  cases hl : plainCell p p.depth t k.off with
  | none => simp [hl, MonadExcept.throw, throwThe, MonadExceptOf.throw] at hr
  | some like =>
    simp only [hl] at hr
    cases hb : like.bytes? with
    | none => simp [hb, MonadExcept.throw, throwThe, MonadExceptOf.throw] at hr
    | some bs =>
      simp only [hb, Option.map_some] at hr
      have hpos : 0 < bs.length := List.length_pos_iff.2 (bytes_pos hb)
      cases hy : byteOfCell p p.depth t k.off with
      | none => simp [hy, MonadExcept.throw, throwThe, MonadExceptOf.throw] at hr
      | some β =>
        simp only [hy] at hr
        split at hr
        · simp [MonadExcept.throw, throwThe, MonadExceptOf.throw] at hr
        cases hz : byteOfCell p p.depth e (at_.off % p.cellsOf e) with
        | none => simp [hz, MonadExcept.throw, throwThe, MonadExceptOf.throw] at hr
        | some b0 =>
          simp only [hz] at hr
          cases hs : seenCells p #[] e (bs.length + 1) (at_.off / p.cellsOf e * p.bytesOf e + b0 + β) (at_.off / p.cellsOf e * p.bytesOf e + b0 + β + bs.length) with
          | error x => simp [hs] at hr
          | ok l => exact seenCells_none (by omega) l hs

theorem Sim.seen {p : Program} {X : Nat → Prop} {u w : World} (h : Sim X u w) {at_ : Addr} {t : TypeId} {k : Addr} {at' : Bool} {r} (hr : u.seen p at_ t k at' = .ok r) : ¬ X at_.block ∧ w.seen p at_ t k at' = .ok r := by
  have hn : ¬ X at_.block := fun hx => by
    obtain ⟨c, e, fr, _, h2⟩ := h.hid _ hx
    exact seen_hid h2 r hr
  refine ⟨hn, ?_⟩
  rw [← hr]
  unfold World.seen
  rw [h.same _ hn]

theorem Sim.viewStore {p : Program} {X : Nat → Prop} {u w u' : World} (h : Sim X u w) {at_ : Addr} {t : TypeId} {k : Addr} {v : Value} {at' : Bool} {ts : List Addr}
    (hr : u.viewStore p at_ t k v at' = .ok (u', ts)) : ∃ w', w.viewStore p at_ t k v at' = .ok (w', ts) ∧ Sim X u' w' ∧ (∀ x ∈ ts, x.block = at_.block) ∧ ¬ X at_.block ∧ u'.drawn = u.drawn ∧ u'.tape = u.tape ∧ w'.drawn = w.drawn ∧ w'.tape = w.tape ∧ u'.heap.size = u.heap.size ∧ ∀ k, X k → w'.heap[k]? = w.heap[k]? := by
  unfold World.viewStore at hr ⊢
  simp only [bind, Except.bind, pure, Except.pure, throwThe, MonadExceptOf.throw, MonadExcept.throw] at hr ⊢
  by_cases htight : tight p p.depth t = true
  · simp only [htight, Bool.not_true, Bool.false_eq_true, if_false] at hr ⊢
    cases hs : u.seen p at_ t k at' with
    | error x => simp [hs] at hr
    | ok r =>
      obtain ⟨hn, hw⟩ := h.seen hs
      simp only [hs] at hr
      simp only [hw]
      obtain ⟨c, e, frz, first, like, cells⟩ := r
      dsimp only at hr ⊢
      cases hb : v.bytes? with
      | none => simp [hb] at hr
      | some bytes =>
        simp only [hb] at hr ⊢
        split at hr
        · simp at hr
        rename_i hlen
        rw [if_neg hlen]
        split at hr
        · simp at hr
        simp only [Except.ok.injEq, Prod.mk.injEq] at hr ⊢
        obtain ⟨rfl, rfl⟩ := hr
        refine ⟨_, ⟨rfl, rfl⟩, h.setObj _ hn, fun x hx => ?_, hn, rfl, rfl, rfl, rfl, by simp, fun k hk => Array.getElem?_setIfInBounds_ne (fun e : _ = k => hn (by rw [e]; exact hk))⟩
        obtain ⟨y, _, rfl⟩ := List.mem_map.1 hx
        rfl
  · simp [htight] at hr

theorem Sim.viewLoad {p : Program} {X : Nat → Prop} {u w : World} (h : Sim X u w) {at_ : Addr} {t : TypeId} {k : Addr} {at' : Bool} {v : Value} {ts : List Addr}
    (hr : u.viewLoad p at_ t k at' = .ok (v, ts)) : w.viewLoad p at_ t k at' = .ok (v, ts) ∧ (∀ x ∈ ts, x.block = at_.block) ∧ ¬ X at_.block := by
  unfold World.viewLoad at hr ⊢
  simp only [bind, Except.bind, pure, Except.pure] at hr ⊢
  cases hs : u.seen p at_ t k at' with
  | error x => simp [hs] at hr
  | ok r =>
    obtain ⟨hn, hw⟩ := h.seen hs
    simp only [hs] at hr
    simp only [hw]
    obtain ⟨c, e, frz, first, like, cells⟩ := r
    dsimp only at hr ⊢
    split at hr
    · simp only [Except.ok.injEq, Prod.mk.injEq] at hr
      obtain ⟨rfl, rfl⟩ := hr
      refine ⟨rfl, fun x hx => ?_, hn⟩
      obtain ⟨y, _, rfl⟩ := List.mem_map.1 hx
      rfl
    · simp at hr

theorem Sim.farLoad {p : Program} {X : Nat → Prop} {u w : World} (h : Sim X u w) {a : Addr} {at' : Bool} {v : Value} {ts : List Addr}
    (hr : u.farLoad p a at' = .ok (v, ts)) : w.cell? a = none ∧ w.farLoad p a at' = .ok (v, ts) ∧ ∀ x ∈ ts, ¬ X x.block := by
  unfold World.farLoad at hr
  cases ho : u.heap[a.block]? with
  | none => simp [ho] at hr
  | some o =>
    cases o with
    | view at_ t =>
      have hn : ¬ X a.block := fun hx => by
        obtain ⟨c, e, fr, _, h2⟩ := h.hid _ hx
        rw [ho] at h2; cases h2
      have hw : w.heap[a.block]? = some (.view at_ t) := (h.same _ hn).trans ho
      simp only [ho] at hr
      cases hl : u.viewLoad p at_ t a at' with
      | error x => simp [hl] at hr
      | ok r =>
        simp only [hl, Except.ok.injEq] at hr
        subst hr
        obtain ⟨e1, e2, e3⟩ := h.viewLoad hl
        refine ⟨by simp [World.cell?, hw], by simp [World.farLoad, hw, e1], fun x hx => ?_⟩
        rw [e2 x hx]; exact e3
    | _ => simp [ho] at hr

theorem Sim.farStore {p : Program} {X : Nat → Prop} {u w u' : World} (h : Sim X u w) {a : Addr} {v : Value} {at' : Bool} {ts : List Addr}
    (hr : u.farStore p a v at' = .ok (u', ts)) : w.cell? a = none ∧ ∃ w', w.farStore p a v at' = .ok (w', ts) ∧ Sim X u' w' ∧ (∀ x ∈ ts, ¬ X x.block) ∧ u'.drawn = u.drawn ∧ u'.tape = u.tape ∧ w'.drawn = w.drawn ∧ w'.tape = w.tape ∧ u'.heap.size = u.heap.size ∧ ∀ k, X k → w'.heap[k]? = w.heap[k]? := by
  unfold World.farStore at hr
  cases ho : u.heap[a.block]? with
  | none => simp [ho] at hr
  | some o =>
    cases o with
    | view at_ t =>
      have hn : ¬ X a.block := fun hx => by
        obtain ⟨c, e, fr, _, h2⟩ := h.hid _ hx
        rw [ho] at h2; cases h2
      have hw : w.heap[a.block]? = some (.view at_ t) := (h.same _ hn).trans ho
      simp only [ho] at hr
      cases hl : u.viewStore p at_ t a v at' with
      | error x => simp [hl] at hr
      | ok r =>
        simp only [hl, Except.ok.injEq] at hr
        subst hr
        obtain ⟨w', e1, e2, e3, e4, e5⟩ := h.viewStore hl
        refine ⟨by simp [World.cell?, hw], w', by simp [World.farStore, hw, e1], e2, fun x hx => ?_, e5⟩
        rw [e3 x hx]; exact e4
    | _ => simp [ho] at hr

/-! ### plain trees -/

/-- The halts of plain code. -/
def Okh (h : Halt) : Prop := (∃ v, h = .panic v) ∨ (∃ x, h = .unsupported x) ∨ ∃ x, h = .stuck x

/-- No way through ends well. -/
def Dead {α : Type} (p : Program) : Sem α → Prop
  | .pure _ => False
  | .load _ _ k => ∀ v, Dead p (k v)
  | .store _ _ _ k => Dead p k
  | .new _ k => ∀ r, Dead p (k r)
  | .shape _ k => ∀ s, Dead p (k s)
  | .freeze _ _ k => Dead p k
  | .frozen _ k => ∀ b, Dead p (k b)
  | .getObj _ k => ∀ o, Dead p (k o)
  | .setObj _ _ k => Dead p k
  | .choose _ k => ∀ n, Dead p (k n)
  | .sys _ k => ∀ r, Dead p (k r)
  | .program k => Dead p (k p)
  | .mark _ k => Dead p k
  | .halt h => Okh h

/-- Every way through touches memory alone, goes by a block's length nowhere, and ends in K. -/
def Tame {α : Type} (p : Program) (K : α → Prop) : Sem α → Prop
  | .pure a => K a
  | .load _ _ k => ∀ v, Tame p K (k v)
  | .store _ _ _ k => Tame p K k
  | .new _ k => ∀ r, Tame p K (k r)
  | .shape r k => Dead p (.shape r k) ∨ (((∀ e n n', k (some (e, n)) = k (some (e, n'))) ∨ ∀ e, Dead p (k (some (e, 0)))) ∧ ∀ s, Tame p K (k s))
  | .freeze _ _ _ => False
  | .frozen _ k => ∀ b, Tame p K (k b)
  | .getObj _ k => ∀ o, Tame p K (k o)
  | .setObj _ _ k => Tame p K k
  | .choose _ k => ∀ n, Tame p K (k n)
  | .sys _ _ => False
  | .program k => Tame p K (k p)
  | .mark m k => m = .noRoom ∧ Tame p K k
  | .halt h => Okh h

theorem dead_run {α : Type} {p : Program} : ∀ (s : Sem α), Dead p s → ∀ u es v u' es', s.runT p u es ≠ (.ok v u', es') := by
  intro s
  induction s with
  | pure a => intro h; exact h.elim
  | load m a k ih =>
    intro h u es v u' es'
    simp only [Sem.runT]
    split
    · exact ih _ (h _) _ _ _ _ _
    · split
      · exact ih _ (h _) _ _ _ _ _
      · exact fun e => by cases e
  | store m a x k ih =>
    intro h u es v u' es'
    have hk : ∀ u es v u' es', k.runT p u es ≠ (.ok v u', es') := ih h
    intro e
    cases x <;> simp only [Sem.runT] at e <;> first
      | (split at e
         · split at e
           · cases e
           · exact hk _ _ _ _ _ e
         · split at e
           · exact hk _ _ _ _ _ e
           · cases e)
      | cases e
  | new o k ih => intro h u es v u' es'; simp only [Sem.runT]; exact ih _ (h _) _ _ _ _ _
  | shape r k ih => intro h u es v u' es'; simp only [Sem.runT]; exact ih _ (h _) _ _ _ _ _
  | freeze a n k ih => intro h u es v u' es'; simp only [Sem.runT]; exact ih h _ _ _ _ _
  | frozen a k ih => intro h u es v u' es'; simp only [Sem.runT]; exact ih _ (h _) _ _ _ _ _
  | getObj r k ih =>
    intro h u es v u' es'
    simp only [Sem.runT]
    split
    · exact fun e => by cases e
    · exact ih _ (h _) _ _ _ _ _
    · exact fun e => by cases e
  | setObj r o k ih =>
    intro h u es v u' es'
    simp only [Sem.runT]
    split
    · exact fun e => by cases e
    · exact ih h _ _ _ _ _
    · exact fun e => by cases e
  | choose q k ih =>
    intro h u es v u' es'
    simp only [Sem.runT]
    split
    · exact ih _ (h _) _ _ _ _ _
    · exact ih _ (h _) _ _ _ _ _
  | sys c k ih => intro h u es v u' es'; simp only [Sem.runT]; exact ih _ (h _) _ _ _ _ _
  | program k ih => intro h u es v u' es'; simp only [Sem.runT]; exact ih _ h _ _ _ _ _
  | mark m k ih => intro h u es v u' es'; simp only [Sem.runT]; exact ih h _ _ _ _ _
  | halt x => intro h u es v u' es'; simp [Sem.runT]

/-- What a run leaves, in two worlds that part in hidden blocks, the draws of the second being those of the first. -/
def Ran {α : Type} (p : Program) (X : Nat → Prop) (K : α → Prop) (s : Sem α) (u w : World) (es : Array Event) (v : α) (u' : World) (es' : Array Event) : Prop :=
  u.drawn ≤ u'.drawn ∧ u'.tape = u.tape ∧ u.heap.size ≤ u'.heap.size ∧
  ((∀ j, j < u'.drawn - u.drawn → ∀ q, w.tape (w.drawn + j) q = u.tape (u.drawn + j) q) →
    K v ∧ ∃ w', s.runT p w es = (.ok v w', es') ∧ Sim X u' w' ∧ w'.tape = w.tape ∧ w'.drawn = w.drawn + (u'.drawn - u.drawn) ∧ (∀ k, X k → w'.heap[k]? = w.heap[k]?) ∧ ∀ e ∈ es', e ∈ es ∨ EvX X e)

theorem evX_cell {X : Nat → Prop} {a : Addr} {wr sy : Bool} (h : ¬ X a.block) : EvX X ⟨.cell a, wr, sy⟩ :=
  ⟨fun b e => (by cases e; exact h), fun r e => (by cases e), fun m e => (by cases e)⟩
theorem pushX {X : Nat → Prop} {es : Array Event} {x e : Event} (he : e ∈ es.push x) (hx : EvX X x) : e ∈ es ∨ EvX X e :=
  (Array.mem_push.1 he).imp id (fun h => by rw [h]; exact hx)
theorem evX_obj {X : Nat → Prop} {r : Nat} {wr sy : Bool} (h : ¬ X r) : EvX X ⟨.obj r, wr, sy⟩ :=
  ⟨fun b e => (by cases e), fun r e => (by cases e; exact h), fun m e => (by cases e)⟩
theorem evX_mark {X : Nat → Prop} {m : Mark} {wr sy : Bool} (h : m = .noRoom) : EvX X ⟨.mark m, wr, sy⟩ :=
  ⟨fun b e => (by cases e), fun r e => (by cases e), fun m e => (by cases e; subst h; simp)⟩

theorem Ran.then {α : Type} {p : Program} {X : Nat → Prop} {K : α → Prop} {s s' : Sem α} {u u₁ w w₁ : World} {es es₁ : Array Event} {v : α} {u' : World} {es' : Array Event}
    (h : Ran p X K s' u₁ w₁ es₁ v u' es') (hd : u₁.drawn = u.drawn) (ht : u₁.tape = u.tape) (hz : u.heap.size ≤ u₁.heap.size) (hd' : w₁.drawn = w.drawn) (ht' : w₁.tape = w.tape) (hx' : ∀ k, X k → w₁.heap[k]? = w.heap[k]?)
    (hs : ∀ e ∈ es₁, e ∈ es ∨ EvX X e) (hr : s.runT p w es = s'.runT p w₁ es₁) : Ran p X K s u w es v u' es' := by
  obtain ⟨h1, h2, h3, h4⟩ := h
  refine ⟨by omega, h2.trans ht, by omega, fun hag => ?_⟩
  obtain ⟨hk, w', e1, e2, e3, e4, e6, e5⟩ := h4 (fun j hj q => by rw [ht', hd', ht, hd]; exact hag j (by omega) q)
  exact ⟨hk, w', by rw [hr, e1], e2, by rw [e3, ht'], by rw [e4, hd', hd], fun k hk => (e6 k hk).trans (hx' k hk), fun e he => (e5 e he).elim (hs e) .inr⟩

theorem ran {α : Type} {p : Program} {X : Nat → Prop} {K : α → Prop} : ∀ (s : Sem α), Tame p K s → ∀ u w es v u' es', Sim X u w → s.runT p u es = (.ok v u', es') → Ran p X K s u w es v u' es' := by
  intro s
  induction s with
  | pure a =>
    intro hT u w es v u' es' hS hr
    simp only [Sem.runT, Prod.mk.injEq, Result.ok.injEq] at hr
    obtain ⟨⟨rfl, rfl⟩, rfl⟩ := hr
    exact ⟨Nat.le_refl _, rfl, Nat.le_refl _, fun _ => ⟨hT, w, rfl, hS, rfl, by omega, fun _ _ => rfl, fun e he => .inl he⟩⟩
  | load m a k ih =>
    intro hT u w es v u' es' hS hr
    cases hc : u.cell? a with
    | some x =>
      obtain ⟨hn, hw⟩ := hS.cell hc
      simp only [Sem.runT, hc] at hr
      refine (ih x (hT x) _ w _ _ _ _ hS hr).then rfl rfl (Nat.le_refl _) rfl rfl (fun _ _ => rfl) (fun e he => ?_) (by simp only [Sem.runT, hw])
      exact pushX he (evX_cell hn)
    | none =>
      simp only [Sem.runT, hc] at hr
      cases hf : u.farLoad p a (m == .atomic) with
      | error x => simp only [hf] at hr; cases hr
      | ok r =>
        obtain ⟨x, ts⟩ := r
        simp only [hf] at hr
        obtain ⟨e1, e2, e3⟩ := hS.farLoad hf
        refine (ih x (hT x) _ w _ _ _ _ hS hr).then rfl rfl (Nat.le_refl _) rfl rfl (fun _ _ => rfl) (fun e he => ?_) (by simp only [Sem.runT, e1, e2])
        refine (Array.mem_append.1 he).imp id (fun h => ?_)
        obtain ⟨y, hy, rfl⟩ := Array.mem_map.1 h
        exact evX_cell (e3 y (by simpa using hy))
  | store m a x k ih =>
    intro hT u w es v u' es' hS hr
    have hT' : Tame p K k := hT
    have main : ∀ (hx : (match x with | .agg _ => False | .tuple _ => False | _ => True)), Ran p X K (.store m a x k) u w es v u' es' := by
      intro hx
      obtain ⟨hh, eq⟩ : ∃ hh : Halt, ∀ (w : World) (es : Array Event), (Sem.store m a x k).runT p w es = match w.cell? a with
          | some _ => if w.frozen? a then (.halt hh w, es) else k.runT p (w.setCell a x) (es.push ⟨.cell a, true, m == .atomic⟩)
          | none => match w.farStore p a x (m == .atomic) with
            | .ok (w, touched) => k.runT p w (es ++ touched.toArray.map (⟨.cell ·, true, m == .atomic⟩))
            | .error h => (.halt h w, es) := by
        cases x <;> first | exact ⟨_, fun w es => rfl⟩ | exact hx.elim
      rw [eq] at hr
      cases hc : u.cell? a with
      | some y =>
        obtain ⟨hn, hw⟩ := hS.cell hc
        simp only [hc] at hr
        cases hfz : u.frozen? a with
        | true => rw [hfz] at hr; simp only [if_true] at hr; cases hr
        | false =>
          rw [hfz] at hr
          simp only [Bool.false_eq_true, if_false] at hr
          have hfw : w.frozen? a = false := by rw [hS.frozen]; exact hfz
          refine (ih hT' _ (w.setCell a x) _ _ _ _ (hS.setCell x hn) hr).then rfl rfl (by simp [World.setCell]) rfl rfl (fun k hk => setCell_other (fun e => hn (e ▸ hk))) (fun e he => ?_) (by rw [eq, hw]; simp [hfw])
          exact pushX he (evX_cell hn)
      | none =>
        simp only [hc] at hr
        cases hf : u.farStore p a x (m == .atomic) with
        | error z => simp only [hf] at hr; cases hr
        | ok r =>
          obtain ⟨u₁, ts⟩ := r
          simp only [hf] at hr
          obtain ⟨e1, w₁, e2, e3, e4, e5, e6, e7, e8, e9, e10⟩ := hS.farStore hf
          refine (ih hT' _ w₁ _ _ _ _ e3 hr).then e5 e6 (Nat.le_of_eq e9.symm) e7 e8 e10 (fun e he => ?_) (by rw [eq, e1]; simp only [e2])
          refine (Array.mem_append.1 he).imp id (fun h => ?_)
          obtain ⟨y, hy, rfl⟩ := Array.mem_map.1 h
          exact evX_cell (e4 y (by simpa using hy))
    cases x <;> first | exact main trivial | (simp only [Sem.runT] at hr; cases hr)
  | new o k ih =>
    intro hT u w es v u' es' hS hr
    simp only [Sem.runT] at hr
    refine (ih _ (hT _) _ { w with heap := w.heap.push o } _ _ _ _ (hS.push o) hr).then rfl rfl (by simp) rfl rfl (fun k hk => by simp only [Array.getElem?_push]; rw [if_neg (by have := hS.below hk; have := hS.size; omega)]) (fun e he => .inl he) ?_
    simp only [Sem.runT, hS.size]
  | shape r k ih =>
    intro hT u w es v u' es' hS hr
    rcases hT with hD | ⟨hk, hT⟩
    · exact absurd hr (dead_run _ hD _ _ _ _ _)
    simp only [Sem.runT] at hr
    refine (ih _ (hT _) _ w _ _ _ _ hS hr).then rfl rfl (Nat.le_refl _) rfl rfl (fun _ _ => rfl) (fun e he => .inl he) ?_
    simp only [Sem.runT]
    by_cases hx : X r
    · obtain ⟨c, e, fr, h1, h2⟩ := hS.hid _ hx
      rcases hk with hk | hk
      · congr 1
        simp only [World.shape?, h1, h2]
        exact hk _ _ _
      · exfalso
        simp only [World.shape?, h2] at hr
        exact dead_run _ (hk e) _ _ _ _ _ hr
    · congr 1
      simp only [World.shape?, hS.same _ hx]
  | freeze a n k ih => intro hT; exact hT.elim
  | frozen a k ih =>
    intro hT u w es v u' es' hS hr
    simp only [Sem.runT] at hr
    exact (ih _ (hT _) _ w _ _ _ _ hS hr).then rfl rfl (Nat.le_refl _) rfl rfl (fun _ _ => rfl) (fun e he => .inl he) (by simp only [Sem.runT, hS.frozen])
  | getObj r k ih =>
    intro hT u w es v u' es' hS hr
    simp only [Sem.runT] at hr
    have hn : ¬ X r := fun hx => by
      obtain ⟨c, e, fr, _, h2⟩ := hS.hid _ hx
      simp only [h2] at hr; cases hr
    split at hr
    · cases hr
    · rename_i o ho hnc
      refine (ih _ (hT _) _ w _ _ _ _ hS hr).then rfl rfl (Nat.le_refl _) rfl rfl (fun _ _ => rfl) (fun e he => pushX he (evX_obj hn)) ?_
      have hw := (hS.same _ hn).trans hnc
      cases o <;> first | (exact (ho _ _ _ rfl).elim) | simp only [Sem.runT, hw]
    · cases hr
  | setObj r o k ih =>
    intro hT u w es v u' es' hS hr
    simp only [Sem.runT] at hr
    have hn : ¬ X r := fun hx => by
      obtain ⟨c, e, fr, _, h2⟩ := hS.hid _ hx
      simp only [h2] at hr; cases hr
    split at hr
    · cases hr
    · rename_i o' ho hnc
      refine (ih hT _ { w with heap := w.heap.setIfInBounds r o } _ _ _ _ (hS.setObj o hn) hr).then rfl rfl (by simp) rfl rfl (fun k hk => Array.getElem?_setIfInBounds_ne (fun e : _ = k => hn (by rw [e]; exact hk))) (fun e he => pushX he (evX_obj hn)) ?_
      have hw := (hS.same _ hn).trans hnc
      cases o' <;> first | (exact (ho _ _ _ rfl).elim) | simp only [Sem.runT, hw]
    · cases hr
  | choose q k ih =>
    intro hT u w es v u' es' hS hr
    simp only [Sem.runT] at hr
    cases hf : q.forced with
    | true =>
      rw [hf] at hr
      simp only [if_true] at hr
      exact (ih _ (hT _) _ w _ _ _ _ hS hr).then rfl rfl (Nat.le_refl _) rfl rfl (fun _ _ => rfl) (fun e he => .inl he) (by simp only [Sem.runT, hf, if_true])
    | false =>
      rw [hf] at hr
      simp only [Bool.false_eq_true, if_false] at hr
      obtain ⟨h1, h2, h3, h4⟩ := ih _ (hT _) _ { w with drawn := w.drawn + 1 } _ _ _ _ (hS.drawn (u.drawn + 1) (w.drawn + 1)) hr
      dsimp only at h1 h2 h3 h4
      refine ⟨by omega, h2, h3, fun hag => ?_⟩
      obtain ⟨hk, w', e1, e2, e3, e4, e6, e5⟩ := h4 (fun j hj q => by
        have := hag (j + 1) (by omega) q
        rw [show w.drawn + 1 + j = w.drawn + (j + 1) by omega, show u.drawn + 1 + j = u.drawn + (j + 1) by omega]; exact this)
      refine ⟨hk, w', ?_, e2, e3, by omega, e6, e5⟩
      simp only [Sem.runT, hf, Bool.false_eq_true, if_false]
      have := hag 0 (by omega) q
      simp only [Nat.add_zero] at this
      rw [this, e1]
  | sys c k ih => intro hT; exact hT.elim
  | program k ih =>
    intro hT u w es v u' es' hS hr
    simp only [Sem.runT] at hr
    exact (ih _ hT _ w _ _ _ _ hS hr).then rfl rfl (Nat.le_refl _) rfl rfl (fun _ _ => rfl) (fun e he => .inl he) (by simp only [Sem.runT])
  | mark m k ih =>
    intro hT u w es v u' es' hS hr
    simp only [Sem.runT] at hr
    exact (ih hT.2 _ w _ _ _ _ hS hr).then rfl rfl (Nat.le_refl _) rfl rfl (fun _ _ => rfl) (fun e he => pushX he (evX_mark hT.1)) (by simp only [Sem.runT])
  | halt x =>
    intro hT u w es v u' es' hS hr
    simp only [Sem.runT] at hr
    cases hr

theorem okh_noCell (u : World) (a : Addr) (x : String) : Okh (u.noCell a x) := by
  unfold World.noCell
  split <;> first | exact .inr (.inl ⟨_, rfl⟩) | exact .inr (.inr ⟨_, rfl⟩)
theorem okh_farLoad {p : Program} {u : World} {a : Addr} {b : Bool} {h : Halt} (e : u.farLoad p a b = .error h) : Okh h := by
  unfold World.farLoad at e
  split at e
  · split at e
    · cases e
    · cases e; exact .inr (.inl ⟨_, rfl⟩)
  · cases e; exact okh_noCell ..
theorem okh_farStore {p : Program} {u : World} {a : Addr} {v : Value} {b : Bool} {h : Halt} (e : u.farStore p a v b = .error h) : Okh h := by
  unfold World.farStore at e
  split at e
  · split at e
    · cases e
    · cases e; exact .inr (.inl ⟨_, rfl⟩)
  · cases e; exact okh_noCell ..

def Mild {α : Type} (p : Program) : Sem α → Prop
  | .pure _ => True
  | .load _ _ k => ∀ v, Mild p (k v)
  | .store _ _ _ k => Mild p k
  | .new _ k => ∀ r, Mild p (k r)
  | .shape _ k => ∀ s, Mild p (k s)
  | .freeze _ _ k => Mild p k
  | .frozen _ k => ∀ b, Mild p (k b)
  | .getObj _ k => ∀ o, Mild p (k o)
  | .setObj _ _ k => Mild p k
  | .choose _ k => ∀ n, Mild p (k n)
  | .sys _ k => ∀ r, Mild p (k r)
  | .program k => Mild p (k p)
  | .mark _ k => Mild p k
  | .halt h => Okh h

theorem mild_dead {α : Type} {p : Program} : ∀ (s : Sem α), Dead p s → Mild p s := by
  intro s
  induction s with
  | pure a => intro h; exact h.elim
  | load m a k ih => intro h v; exact ih v (h v)
  | store m a v k ih => intro h; exact ih h
  | new o k ih => intro h r; exact ih r (h r)
  | shape r k ih => intro h r; exact ih r (h r)
  | freeze a n k ih => intro h; exact ih h
  | frozen a k ih => intro h r; exact ih r (h r)
  | getObj r k ih => intro h r; exact ih r (h r)
  | setObj r o k ih => intro h; exact ih h
  | choose q k ih => intro h r; exact ih r (h r)
  | sys c k ih => intro h r; exact ih r (h r)
  | program k ih => intro h; exact ih _ h
  | mark m k ih => intro h; exact ih h
  | halt x => intro h; exact h

theorem mild_tame {α : Type} {p : Program} {K : α → Prop} : ∀ (s : Sem α), Tame p K s → Mild p s := by
  intro s
  induction s with
  | pure a => intro _; trivial
  | load m a k ih => intro h v; exact ih v (h v)
  | store m a v k ih => intro h; exact ih h
  | new o k ih => intro h r; exact ih r (h r)
  | shape r k ih =>
    intro h x
    rcases h with h | h
    · exact mild_dead _ (h x)
    · exact ih x (h.2 x)
  | freeze a n k ih => intro h; exact h.elim
  | frozen a k ih => intro h r; exact ih r (h r)
  | getObj r k ih => intro h r; exact ih r (h r)
  | setObj r o k ih => intro h; exact ih h
  | choose q k ih => intro h r; exact ih r (h r)
  | sys c k ih => intro h; exact h.elim
  | program k ih => intro h; exact ih _ h
  | mark m k ih => intro h; exact ih h.2
  | halt x => intro h; exact h

theorem halts {α : Type} {p : Program} : ∀ (s : Sem α), Mild p s → ∀ u es h u' es', s.runT p u es = (.halt h u', es') → Okh h := by
  intro s
  induction s with
  | pure a => intro _ u es h u' es' e; simp only [Sem.runT] at e; cases e
  | load m a k ih =>
    intro hm u es h u' es' e
    simp only [Sem.runT] at e
    split at e
    · exact ih _ (hm _) _ _ _ _ _ e
    · split at e
      · exact ih _ (hm _) _ _ _ _ _ e
      · rename_i he
        cases e; exact okh_farLoad he
  | store m a x k ih =>
    intro hm u es h u' es' e
    have hk : Mild p k := hm
    cases x <;> simp only [Sem.runT] at e <;> first
      | (split at e
         · split at e
           · cases e; exact .inr (.inl ⟨_, rfl⟩)
           · exact ih hk _ _ _ _ _ e
         · split at e
           · exact ih hk _ _ _ _ _ e
           · rename_i he
             cases e; exact okh_farStore he)
      | (cases e; exact .inr (.inr ⟨_, rfl⟩))
  | new o k ih => intro hm u es h u' es' e; simp only [Sem.runT] at e; exact ih _ (hm _) _ _ _ _ _ e
  | shape r k ih => intro hm u es h u' es' e; simp only [Sem.runT] at e; exact ih _ (hm _) _ _ _ _ _ e
  | freeze a n k ih => intro hm u es h u' es' e; simp only [Sem.runT] at e; exact ih hm _ _ _ _ _ e
  | frozen a k ih => intro hm u es h u' es' e; simp only [Sem.runT] at e; exact ih _ (hm _) _ _ _ _ _ e
  | getObj r k ih =>
    intro hm u es h u' es' e
    simp only [Sem.runT] at e
    split at e
    · cases e; exact .inr (.inr ⟨_, rfl⟩)
    · exact ih _ (hm _) _ _ _ _ _ e
    · cases e; exact .inr (.inr ⟨_, rfl⟩)
  | setObj r o k ih =>
    intro hm u es h u' es' e
    simp only [Sem.runT] at e
    split at e
    · cases e; exact .inr (.inr ⟨_, rfl⟩)
    · exact ih hm _ _ _ _ _ e
    · cases e; exact .inr (.inr ⟨_, rfl⟩)
  | choose q k ih =>
    intro hm u es h u' es' e
    simp only [Sem.runT] at e
    split at e
    · exact ih _ (hm _) _ _ _ _ _ e
    · exact ih _ (hm _) _ _ _ _ _ e
  | sys c k ih => intro hm u es h u' es' e; simp only [Sem.runT] at e; exact ih _ (hm _) _ _ _ _ _ e
  | program k ih => intro hm u es h u' es' e; simp only [Sem.runT] at e; exact ih _ hm _ _ _ _ _ e
  | mark m k ih => intro hm u es h u' es' e; simp only [Sem.runT] at e; exact ih hm _ _ _ _ _ e
  | halt x => intro hm u es h u' es' e; simp only [Sem.runT] at e; cases e; exact hm
end Go.Bp

/- Steps of plain code, the same in every company. -/
namespace Go.Bp
open Go Go.Conc

def KF (F : Nat → Bool) : Next → Prop
  | .value _ | .skip => True
  | .enter f _ => F f = true
  | _ => False

def PlainOp (P : Program) (F : Nat → Bool) (o : Oper) : Prop := ∀ a : Act, Tame P (KF F) (execOp a.eval o)

def okCode (P : Program) (F : Nat → Bool) : Code → Prop
  | .skip | .ret | .exit _ => True
  | .seq a b | .cond _ a b => okCode P F a ∧ okCode P F b
  | .block _ c | .loop c => okCode P F c
  | .region _ ops _ => ∀ o ∈ ops, PlainOp P F o
  | _ => False

def okItem (P : Program) (F : Nat → Bool) : Item → Prop
  | .code c | .inLoop c => okCode P F c
  | .inBlock _ => True
  | .inRegion ops _ => ∀ o ∈ ops, PlainOp P F o
  | _ => False

def okItems (P : Program) (F : Nat → Bool) (l : List Item) : Prop := ∀ x ∈ l, okItem P F x

inductive Out where
  | stay (t : Array Value) (l : List Item)
  | enter (f : FuncId) (args : Array Value)
  | ret

def Out.ok (P : Program) (F : Nat → Bool) : Out → Prop
  | .stay _ l => okItems P F l
  | .enter f _ => F f = true
  | .ret => True

def Out.to (P : Program) (b : Frame) (t : Array Value) (l : List Item) (D : List Deferred) (k : List Item) (cs : List Frame) : Out → Goroutine
  | .stay t' l' => G (b.at ⟨t', D⟩ (l' ++ k)) cs
  | .enter f args => G (Frame.enter P f args .normal) (b.at ⟨t, D⟩ (l ++ k) :: cs)
  | .ret => G { b.at ⟨t, D⟩ (l ++ k) with mode := .returning } cs

/-- One step of plain code, from u to u': the same wherever Sim holds. -/
def Step1 (u u' : World) (es : Array Event) (go : World → World → Prop) : Prop :=
  u.drawn ≤ u'.drawn ∧ u'.tape = u.tape ∧ u.heap.size ≤ u'.heap.size ∧
  ∀ (X : Nat → Prop) (w : World), Sim X u w → (∀ j, j < u'.drawn - u.drawn → ∀ q, w.tape (w.drawn + j) q = u.tape (u.drawn + j) q) →
    ∃ w', go w w' ∧ Sim X u' w' ∧ w'.tape = w.tape ∧ w'.drawn = w.drawn + (u'.drawn - u.drawn) ∧ (∀ k, X k → w'.heap[k]? = w.heap[k]?) ∧ ∀ e ∈ es, EvX X e

theorem Step1.still {u : World} {go : World → World → Prop} (h : ∀ w, go w w) : Step1 u u #[] go :=
  ⟨Nat.le_refl _, rfl, Nat.le_refl _, fun X w hS _ => ⟨w, h w, hS, rfl, by omega, fun _ _ => rfl, by simp⟩⟩

theorem exitTo_append {id : Nat} : ∀ {l k : List Item}, exitTo id (l ++ k) = (match exitTo id l with | some l' => some (l' ++ k) | none => exitTo id k)
  | [], k => by simp [exitTo]
  | x :: l, k => by
    have ih := @exitTo_append id l k
    cases x <;> simp only [List.cons_append, exitTo] <;> first | exact ih | skip
    split
    · rfl
    · exact ih

theorem okItems_exitTo {P : Program} {F : Nat → Bool} {id : Nat} : ∀ {l l' : List Item}, okItems P F l → exitTo id l = some l' → okItems P F l'
  | [], l', _, h => by simp [exitTo] at h
  | x :: l, l', ho, h => by
    have hl : okItems P F l := fun y hy => ho y (by simp [hy])
    have ih := @okItems_exitTo P F id l l' hl
    cases x <;> simp only [exitTo] at h <;> first | exact ih h | skip
    split at h
    · cases h; exact hl
    · exact ih h

/-- What becomes of the step in the lone world otherwise. -/
def Ends (P : Program) (g : Goroutine) (u : World) : Prop :=
  (∃ o w' es, stepG P true g u = .ended o w' es) ∨
  ∃ chain w' es, stepG P true g u = .go { g with frame := { g.frame with mode := .panicking chain } } w' es

theorem finish_in {b : Frame} {t : Array Value} {D : List Deferred} {ops : Array Oper} {i : Nat} {rest : List Nat} {l : List Item} {v : Value} :
    (b.at ⟨t, D⟩ (.inRegion ops (i :: rest) :: l)).finish v = b.at ⟨(match (ops[i]?).bind (·.dst) with | some d => t.setIfInBounds d v | none => t), D⟩ (.inRegion ops rest :: l) := rfl

theorem apply_any {P : Program} {F : Nat → Bool} (hE : ∀ fr cs dy g w, ∃ o w' es, early P fr cs dy g w = .ended o w' es) {b : Frame} (hb : b.kind ≠ .early) {t : Array Value} {ops : Array Oper} {i : Nat} {rest : List Nat} {l : List Item}
    (hops : ∀ o ∈ ops, PlainOp P F o) (hl : okItems P F l) {s : Sem Next} (hs : Tame P (KF F) s) (u : World) :
    (∃ out u' es, Out.ok P F out ∧ Step1 u u' es fun w w' => ∀ D k cs, stepG.apply P true (b.at ⟨t, D⟩ ((.inRegion ops (i :: rest) :: l) ++ k)) cs none s w = .go (out.to P b t (.inRegion ops (i :: rest) :: l) D k cs) w' es) ∨
    ∀ D k cs, (∃ o w' es, stepG.apply P true (b.at ⟨t, D⟩ ((.inRegion ops (i :: rest) :: l) ++ k)) cs none s u = .ended o w' es) ∨
      ∃ chain w' es, stepG.apply P true (b.at ⟨t, D⟩ ((.inRegion ops (i :: rest) :: l) ++ k)) cs none s u = .go (G { b.at ⟨t, D⟩ ((.inRegion ops (i :: rest) :: l) ++ k) with mode := .panicking chain } cs) w' es := by
  have hk' : (b.kind == CallKind.early) = false := by simpa using hb
  cases hr : s.runT P u #[] with
  | mk r es =>
    cases r with
    | ok x u' =>
      have hran := fun X w hS => ran (X := X) s hs u w #[] x u' es hS hr
      have hK : KF F x := ((hran (fun _ => False) u ⟨rfl, fun _ _ => rfl, fun _ h => h.elim, rfl, rfl⟩).2.2.2 (fun _ _ _ => rfl)).1
      have base := hran (fun _ => False) u ⟨rfl, fun _ _ => rfl, fun _ h => h.elim, rfl, rfl⟩
      have lift : ∀ out : Out, (∀ w w' D k cs, s.runT P w #[] = (.ok x w', es) → stepG.apply P true (b.at ⟨t, D⟩ ((.inRegion ops (i :: rest) :: l) ++ k)) cs none s w = .go (out.to P b t (.inRegion ops (i :: rest) :: l) D k cs) w' (seen P b.fn es)) →
          Step1 u u' (seen P b.fn es) fun w w' => ∀ D k cs, stepG.apply P true (b.at ⟨t, D⟩ ((.inRegion ops (i :: rest) :: l) ++ k)) cs none s w = .go (out.to P b t (.inRegion ops (i :: rest) :: l) D k cs) w' (seen P b.fn es) := by
        intro out hout
        refine ⟨base.1, base.2.1, base.2.2.1, fun X w hS hag => ?_⟩
        obtain ⟨_, w', e1, e2, e3, e4, e5, e6⟩ := (hran X w hS).2.2.2 hag
        exact ⟨w', fun D k cs => hout w w' D k cs e1, e2, e3, e4, e5, fun e he => (e6 e (mem_seen he)).resolve_left (by simp)⟩
      left
      cases x with
      | value v =>
        refine ⟨.stay (match (ops[i]?).bind (·.dst) with | some d => t.setIfInBounds d v | none => t) (.inRegion ops rest :: l), u', _, ?_, lift _ ?_⟩
        · intro y hy
          rcases List.mem_cons.1 hy with rfl | hy
          · exact hops
          · exact hl y hy
        · intro w w' D k cs e
          simp only [stepG.apply, if_true, e]
          simp [Frame.at, hk', GStep.after, Out.to, G, Frame.finish]
          cases (ops[i]?).bind (fun x => x.dst) <;> rfl
      | skip =>
        refine ⟨.stay (match (ops[i]?).bind (·.dst) with | some d => t.setIfInBounds d undef | none => t) (.inRegion ops rest :: l), u', _, ?_, lift _ ?_⟩
        · intro y hy
          rcases List.mem_cons.1 hy with rfl | hy
          · exact hops
          · exact hl y hy
        · intro w w' D k cs e
          simp only [stepG.apply, if_true, e]
          simp [Frame.at, hk', GStep.after, Out.to, G, Frame.finish]
          cases (ops[i]?).bind (fun x => x.dst) <;> rfl
      | enter f args =>
        refine ⟨.enter f args, u', _, hK, lift _ ?_⟩
        intro w w' D k cs e
        simp only [stepG.apply, if_true, e]
        simp [Frame.at, hk', GStep.after, Out.to, G]
      | _ => exact hK.elim
    | halt h u' =>
      right
      intro D k cs
      have hh := halts s (mild_tame s hs) _ _ _ _ _ hr
      rcases hh with ⟨v, rfl⟩ | ⟨x, rfl⟩ | ⟨x, rfl⟩
      · right
        refine ⟨[{ v, recovered := false }], u', seen P b.fn es, ?_⟩
        simp only [stepG.apply, if_true, hr]
        simp [Frame.at, hk', GStep.after, G, Frame.raise]
      · left
        cases x with
        | initOrder g =>
          obtain ⟨o, w', es', he⟩ := hE (b.at ⟨t, D⟩ ((.inRegion ops (i :: rest) :: l) ++ k)) cs none g u'
          generalize hg : stepG.apply P true (b.at ⟨t, D⟩ ((.inRegion ops (i :: rest) :: l) ++ k)) cs none s u = Z
          simp only [stepG.apply, if_true, hr, he] at hg
          subst hg
          exact ⟨_, _, _, rfl⟩
        | _ =>
          generalize hg : stepG.apply P true (b.at ⟨t, D⟩ ((.inRegion ops (i :: rest) :: l) ++ k)) cs none s u = Z
          simp only [stepG.apply, if_true, hr] at hg
          subst hg
          exact ⟨_, _, _, rfl⟩
      · left
        generalize hg : stepG.apply P true (b.at ⟨t, D⟩ ((.inRegion ops (i :: rest) :: l) ++ k)) cs none s u = Z
        simp only [stepG.apply, if_true, hr] at hg
        subst hg
        exact ⟨_, _, _, rfl⟩

theorem okItems_cons {P : Program} {F : Nat → Bool} {x : Item} {l : List Item} (hx : okItem P F x) (hl : okItems P F l) : okItems P F (x :: l) := by
  intro y hy
  rcases List.mem_cons.1 hy with rfl | hy
  · exact hx
  · exact hl y hy

/-- A STEP OF PLAIN CODE in a frame that runs. -/
theorem exec_any {P : Program} {F : Nat → Bool} (hE : ∀ fr cs dy g w, ∃ o w' es, early P fr cs dy g w = .ended o w' es) {b : Frame} (hb : b.kind ≠ .early) {t : Array Value} {it : Item} {l : List Item}
    (hit : okItem P F it) (hl : okItems P F l) (u : World) :
    (∃ out u' es, Out.ok P F out ∧ Step1 u u' es fun w w' => ∀ main D k cs, stepG P main (G (b.at ⟨t, D⟩ ((it :: l) ++ k)) cs) w = .go (out.to P b t (it :: l) D k cs) w' es) ∨
    ∀ D k cs, (∀ id, exitTo id k = none) → Ends P (G (b.at ⟨t, D⟩ ((it :: l) ++ k)) cs) u := by
  cases it with
  | code c =>
    cases c with
    | skip => exact .inl ⟨.stay t l, u, #[], hl, .still fun w main D k cs => stepG_skip⟩
    | ret =>
      refine .inl ⟨.ret, u, #[], trivial, .still fun w main D k cs => ?_⟩
      simp [stepG, stepG.exec, Frame.at, G, Out.to]
    | exit id =>
      cases he : exitTo id l with
      | some l' =>
        refine .inl ⟨.stay t l', u, #[], okItems_exitTo hl he, .still fun w main D k cs => ?_⟩
        exact stepG_exit (show exitTo id (l ++ k) = some (l' ++ k) by rw [exitTo_append, he])
      | none =>
        refine .inr fun D k cs hk => .inl ?_
        have hn : exitTo id (l ++ k) = none := by rw [exitTo_append, he]; exact hk id
        exact ⟨_, u, _, by simp [stepG, stepG.exec, Frame.at, G, hn]; exact ⟨rfl, rfl⟩⟩
    | seq x y => exact .inl ⟨.stay t (.code x :: .code y :: l), u, #[], okItems_cons hit.1 (okItems_cons hit.2 hl), .still fun w main D k cs => stepG_seq⟩
    | cond c x y =>
      cases hc : (Act.mk t []).eval c with
      | bool z =>
        refine .inl ⟨.stay t (.code (if z then x else y) :: l), u, #[], okItems_cons (by cases z; exact hit.2; exact hit.1) hl, .still fun w main D k cs => ?_⟩
        exact stepG_cond (by rw [← hc]; cases c <;> rfl)
      | _ =>
        refine .inr fun D k cs hk => .inl ?_
        have he : (b.at ⟨t, D⟩ ((.code (.cond c x y) :: l) ++ k)).eval c = (Act.mk t []).eval c := by rw [Frame.eval_at]; cases c <;> rfl
        rw [hc] at he
        simp only [Frame.at, List.cons_append] at he
        exact ⟨_, u, _, by simp [stepG, stepG.exec, Frame.at, G, he]; exact ⟨rfl, rfl⟩⟩
    | block id x => exact .inl ⟨.stay t (.code x :: .inBlock id :: l), u, #[], okItems_cons hit (okItems_cons trivial hl), .still fun w main D k cs => stepG_block⟩
    | loop x => exact .inl ⟨.stay t (.code x :: .inLoop x :: l), u, #[], okItems_cons hit (okItems_cons hit hl), .still fun w main D k cs => stepG_loop⟩
    | region id ops draw =>
      cases draw with
      | false => exact .inl ⟨.stay t (.inRegion ops (List.range ops.size) :: l), u, #[], okItems_cons hit hl, .still fun w main D k cs => stepG_region⟩
      | true =>
        refine .inl ⟨.stay t (.inRegion ops (Region.schedule (P.follows .mixedOrders) ops (u.tape u.drawn (.order b.fn id))) :: l), { u with drawn := u.drawn + 1 }, #[], okItems_cons hit hl, ?_⟩
        refine ⟨Nat.le_succ _, rfl, Nat.le_refl _, fun X w hS hag => ⟨{ w with drawn := w.drawn + 1 }, fun main D k cs => ?_, hS.drawn _ _, rfl, by dsimp only; omega, fun _ _ => rfl, by simp⟩⟩
        have := hag 0 (by dsimp only; omega) (.order b.fn id)
        simp only [Nat.add_zero] at this
        rw [← this]
        simp [stepG, stepG.exec, Frame.at, G, choose, Sem.run, Question.forced, Question.cut, Out.to]
    | _ => exact hit.elim
  | inBlock id => exact .inl ⟨.stay t l, u, #[], hl, .still fun w main D k cs => stepG_inBlock⟩
  | inLoop x => exact .inl ⟨.stay t (.code x :: .inLoop x :: l), u, #[], okItems_cons hit (okItems_cons hit hl), .still fun w main D k cs => stepG_inLoop⟩
  | inRegion ops todo =>
    cases todo with
    | nil => exact .inl ⟨.stay t l, u, #[], hl, .still fun w main D k cs => stepG_region_end⟩
    | cons i rest =>
      by_cases hw : ((ops[i]?).map (Region.wanted · (yielded ops t))).getD false = true
      · obtain ⟨o, ho, hwo⟩ : ∃ o, ops[i]? = some o ∧ Region.wanted o (yielded ops t) = true := by
          cases ho : ops[i]? with
          | none => rw [ho] at hw; cases hw
          | some o => exact ⟨o, rfl, by rw [ho] at hw; exact hw⟩
        have hmem : o ∈ ops := by
          obtain ⟨hlt, rfl⟩ := Array.getElem?_eq_some_iff.1 ho
          exact Array.getElem_mem hlt
        have hev : ∀ D, (Act.mk t D).eval = (Act.mk t []).eval := fun D => by funext c; cases c <;> rfl
        have hstep : ∀ main D k cs w, stepG P main (G (b.at ⟨t, D⟩ ((.inRegion ops (i :: rest) :: l) ++ k)) cs) w = stepG.apply P true (b.at ⟨t, D⟩ ((.inRegion ops (i :: rest) :: l) ++ k)) cs none (execOp (Act.mk t []).eval o) w := by
          intro main D k cs w
          rw [← hev D]
          exact stepG_oper ho hwo
        rcases apply_any hE hb (t := t) (i := i) (rest := rest) hit hl (hit o hmem (Act.mk t [])) u with ⟨out, u', es, h1, h2⟩ | h
        · refine .inl ⟨out, u', es, h1, h2.1, h2.2.1, h2.2.2.1, fun X w hS hag => ?_⟩
          obtain ⟨w', e1, e2⟩ := h2.2.2.2 X w hS hag
          exact ⟨w', fun main D k cs => by rw [hstep]; exact e1 D k cs, e2⟩
        · refine .inr fun D k cs hk => ?_
          rcases h D k cs with ⟨o', w', es, e⟩ | ⟨ch, w', es, e⟩
          · exact .inl ⟨o', w', es, by rw [hstep]; exact e⟩
          · exact .inr ⟨ch, w', es, by rw [hstep]; exact e⟩
      · have hw' : ((ops[i]?).map (Region.wanted · (yielded ops t))).getD false = false := by simpa using hw
        refine .inl ⟨.stay (match (ops[i]?).bind (·.dst) with | some d => t.setIfInBounds d undef | none => t) (.inRegion ops rest :: l), u, #[], okItems_cons hit hl, .still fun w main D k cs => ?_⟩
        simp [stepG, stepG.exec, Frame.at, G, Out.to, hw', Frame.finish]
        cases (ops[i]?).bind (fun x => x.dst) <;> rfl
  | _ => exact hit.elim
end Go.Bp

/- Plain code in any company: out of the lone contract, whatever the tape. -/
namespace Go.Bp
open Go Go.Conc

def bN (f : FuncId) : Frame := { fn := f, tmps := #[], todo := [], defers := [], mode := .run, kind := .normal }

/-- A set of plain functions that call one another alone. -/
structure Closed (P : Program) (F : Nat → Bool) : Prop where
  early : ∀ fr cs dy g w, ∃ o w' es, Go.early P fr cs dy g w = .ended o w' es
  fn : ∀ f, F f = true → ∃ fn body, P.funcs[f]? = some fn ∧ fn.body = some body ∧ okCode P F body ∧ ∀ t, Tame P (fun _ => True) (results fn t)

/-- A frame of a plain function that waits for its callee. -/
structure Wt where
  f : FuncId
  t : Array Value
  it : Item
  l : List Item

def Wt.fr (x : Wt) : Frame := (bN x.f).at ⟨x.t, []⟩ (x.it :: x.l)
def Wt.ok (P : Program) (F : Nat → Bool) (x : Wt) : Prop := F x.f = true ∧ okItems P F (x.it :: x.l)

inductive St where
  | base (t : Array Value) (l : List Item)
  | up (t : Array Value) (it : Item) (l : List Item) (mid : List Wt) (f : FuncId) (t' : Array Value) (l' : List Item) (ret : Bool)

def topF (f : FuncId) (t : Array Value) (l : List Item) : Bool → Frame
  | false => (bN f).at ⟨t, []⟩ l
  | true => { (bN f).at ⟨t, []⟩ l with mode := .returning }

structure Env where
  D : List Deferred
  k : List Item
  cs : List Frame

def St.mk (b : Frame) (e : Env) : St → Goroutine
  | .base t l => G (b.at ⟨t, e.D⟩ (l ++ e.k)) e.cs
  | .up t it l mid f t' l' ret => G (topF f t' l' ret) (mid.map Wt.fr ++ b.at ⟨t, e.D⟩ ((it :: l) ++ e.k) :: e.cs)

def St.ok (P : Program) (F : Nat → Bool) : St → Prop
  | .base _ l => okItems P F l
  | .up _ it l mid f _ l' _ => okItems P F (it :: l) ∧ (∀ x ∈ mid, x.ok P F) ∧ F f = true ∧ okItems P F l'

theorem enter_eq {P : Program} {f : FuncId} {fn : Func} {body : Code} {args : Array Value} (h : P.funcs[f]? = some fn) (hb : fn.body = some body) :
    Frame.enter P f args .normal = (bN f).at ⟨args ++ Array.replicate (fn.ntmps - args.size) undef, []⟩ [.code body] := by
  simp [Frame.enter, h, hb, bN, Frame.at]

def fin1 (it : Item) (t : Array Value) (v : Value) : Array Value × List Item :=
  match it with
  | .inRegion ops (i :: rest) => (match (ops[i]?).bind (·.dst) with | some d => t.setIfInBounds d v | none => t, [.inRegion ops rest])
  | it => (t, [it])

theorem finish_any {P : Program} {F : Nat → Bool} {b : Frame} {t : Array Value} {D : List Deferred} {it : Item} {l : List Item} {v : Value} (h : okItem P F it) :
    (b.at ⟨t, D⟩ (it :: l)).finish v = b.at ⟨(fin1 it t v).1, D⟩ ((fin1 it t v).2 ++ l) := by
  cases it with
  | inRegion ops todo => cases todo <;> rfl
  | code c => rfl
  | inBlock id => rfl
  | inLoop c => rfl
  | _ => exact h.elim

theorem fin1_ok {P : Program} {F : Nat → Bool} {t : Array Value} {it : Item} {l : List Item} {v : Value} (h : okItems P F (it :: l)) : okItems P F ((fin1 it t v).2 ++ l) := by
  have hit := h it (by simp)
  have hl : okItems P F l := fun y hy => h y (by simp [hy])
  cases it with
  | inRegion ops todo => cases todo <;> exact okItems_cons hit hl
  | code c => exact h
  | inBlock id => exact h
  | inLoop c => exact h
  | _ => exact hit.elim

theorem fin1_ne {it : Item} {t : Array Value} {v : Value} : (fin1 it t v).2 ≠ [] := by
  unfold fin1
  split <;> simp

/-- What becomes of a lone run otherwise: it ends, panics, or leaves the base. -/
def Lost (P : Program) (b : Frame) (g : Goroutine) (e : Env) (u : World) : Prop :=
  Ends P g u ∨ ∃ t l w' es, stepG P true g u = .go (G { b.at ⟨t, e.D⟩ (l ++ e.k) with mode := .returning } e.cs) w' es

theorem Step1.mono {u u' : World} {es : Array Event} {go go' : World → World → Prop} (h : Step1 u u' es go) (hm : ∀ w w', go w w' → go' w w') : Step1 u u' es go' :=
  ⟨h.1, h.2.1, h.2.2.1, fun X w hS ha => let ⟨w', a, r⟩ := h.2.2.2 X w hS ha; ⟨w', hm _ _ a, r⟩⟩

theorem sl {P : Program} {F : Nat → Bool} (hC : Closed P F) {b : Frame} (hb : b.kind ≠ .early) (s : St) (hs : s.ok P F) (hn : ∀ t, s ≠ .base t []) (u : World) :
    (∃ s' u' es, St.ok P F s' ∧ Step1 u u' es fun w w' => ∀ main e, stepG P main (s.mk b e) w = .go (s'.mk b e) w' es) ∨
    ∀ e : Env, (∀ id, exitTo id e.k = none) → Lost P b (s.mk b e) e u := by
  cases s with
  | base t l =>
    cases l with
    | nil => exact absurd rfl (hn t)
    | cons it l =>
      have hit : okItem P F it := hs it (by simp)
      have hl : okItems P F l := fun y hy => hs y (by simp [hy])
      rcases exec_any hC.early hb (t := t) hit hl u with ⟨out, u', es, h1, h2⟩ | h
      · cases out with
        | stay t' l' => exact .inl ⟨.base t' l', u', es, h1, h2.mono fun w w' h main e => h main e.D e.k e.cs⟩
        | enter f args =>
          obtain ⟨fn, body, hf, hbd, hob, _⟩ := hC.fn f h1
          refine .inl ⟨.up t it l [] f (args ++ Array.replicate (fn.ntmps - args.size) undef) [.code body] false, u', es, ⟨hs, by simp, h1, okItems_cons hob (by intro y hy; cases hy)⟩, h2.mono fun w w' h main e => ?_⟩
          have := h main e.D e.k e.cs
          rw [Out.to, enter_eq hf hbd] at this
          exact this
        | ret =>
          right
          intro e _
          obtain ⟨w', e1, _, _, _, _, _⟩ := h2.2.2.2 (fun _ => False) u ⟨rfl, fun _ _ => rfl, fun _ h => h.elim, rfl, rfl⟩ (fun _ _ _ => rfl)
          have := e1 true e.D e.k e.cs
          rw [Out.to] at this
          exact .inr ⟨t, it :: l, w', es, this⟩
      · exact .inr fun e he => .inl (h e.D e.k e.cs he)
  | up t it l mid f t' l' ret =>
    obtain ⟨h1, h2, h3, h4⟩ := hs
    have hN : (bN f).kind ≠ .early := by simp [bN]
    cases ret with
    | false =>
      cases l' with
      | nil =>
        refine .inl ⟨.up t it l mid f t' [] true, u, #[], ⟨h1, h2, h3, h4⟩, .still fun w main e => ?_⟩
        exact stepG_end
      | cons it' l' =>
        have hit : okItem P F it' := h4 it' (by simp)
        have hl : okItems P F l' := fun y hy => h4 y (by simp [hy])
        rcases exec_any hC.early hN (t := t') hit hl u with ⟨out, u', es, k1, k2⟩ | h
        · cases out with
          | stay t'' l'' =>
            refine .inl ⟨.up t it l mid f t'' l'' false, u', es, ⟨h1, h2, h3, k1⟩, k2.mono fun w w' h main e => ?_⟩
            have := h main [] [] (mid.map Wt.fr ++ b.at ⟨t, e.D⟩ ((it :: l) ++ e.k) :: e.cs)
            simp only [List.append_nil, Out.to] at this
            exact this
          | enter f' args =>
            obtain ⟨fn, body, hf, hbd, hob, _⟩ := hC.fn f' k1
            refine .inl ⟨.up t it l (⟨f, t', it', l'⟩ :: mid) f' (args ++ Array.replicate (fn.ntmps - args.size) undef) [.code body] false, u', es, ⟨h1, ?_, k1, okItems_cons hob (by intro y hy; cases hy)⟩, k2.mono fun w w' h main e => ?_⟩
            · intro x hx
              rcases List.mem_cons.1 hx with rfl | hx
              · exact ⟨h3, h4⟩
              · exact h2 x hx
            · have := h main [] [] (mid.map Wt.fr ++ b.at ⟨t, e.D⟩ ((it :: l) ++ e.k) :: e.cs)
              simp only [List.append_nil, Out.to] at this
              rw [enter_eq hf hbd] at this
              exact this
          | ret =>
            refine .inl ⟨.up t it l mid f t' (it' :: l') true, u', es, ⟨h1, h2, h3, h4⟩, k2.mono fun w w' h main e => ?_⟩
            have := h main [] [] (mid.map Wt.fr ++ b.at ⟨t, e.D⟩ ((it :: l) ++ e.k) :: e.cs)
            simp only [List.append_nil, Out.to] at this
            exact this
        · refine .inr fun e _ => .inl ?_
          have := h [] [] (mid.map Wt.fr ++ b.at ⟨t, e.D⟩ ((it :: l) ++ e.k) :: e.cs) (fun id => rfl)
          simp only [List.append_nil] at this
          exact this
    | true =>
      obtain ⟨fn, body, hf, _, _, hres⟩ := hC.fn f h3
      obtain ⟨s0, hstep⟩ : ∃ s0 : String, ∀ main c cs w, stepG P main (G (topF f t' l' true) (c :: cs)) w =
          GStep.after (seen P f ((results fn t').runT P w #[]).2) (match ((results fn t').runT P w #[]).1 with
            | .ok v w => .go (G (c.finish v) cs) w #[]
            | .halt (.stuck s) w => .ended (.stuck s ((topF f t' l' true).pos P)) w #[]
            | .halt _ w => .ended (.stuck s0 ((topF f t' l' true).pos P)) w #[]) := ⟨_, by
        intro main c cs w
        simp [stepG, unwind, G, topF, Frame.at, bN, hf, doReturn]
        rfl⟩
      cases hr : (results fn t').runT P u #[] with
      | mk r es =>
        cases r with
        | ok v u' =>
          have hran := fun X w hS => ran (X := X) (results fn t') (hres t') u w #[] v u' es hS hr
          have bs := hran (fun _ => False) u ⟨rfl, fun _ _ => rfl, fun _ h => h.elim, rfl, rfl⟩
          left
          cases mid with
          | nil =>
            refine ⟨.base (fin1 it t v).1 ((fin1 it t v).2 ++ l), u', seen P f es, fin1_ok h1, bs.1, bs.2.1, bs.2.2.1, fun X w hS hag => ?_⟩
            obtain ⟨_, w', e1, e2, e3, e4, e5, e6⟩ := (hran X w hS).2.2.2 hag
            refine ⟨w', fun main e => ?_, e2, e3, e4, e5, fun e he => (e6 e (mem_seen he)).resolve_left (by simp)⟩
            simp only [St.mk, List.map_nil, List.nil_append]
            rw [hstep, e1, List.cons_append]
            dsimp only
            rw [finish_any (h1 it (by simp))]
            simp [GStep.after, List.append_assoc]
          | cons x mid =>
            have hx := h2 x (by simp)
            refine ⟨.up t it l mid x.f (fin1 x.it x.t v).1 ((fin1 x.it x.t v).2 ++ x.l) false, u', seen P f es, ⟨h1, fun y hy => h2 y (by simp [hy]), hx.1, fin1_ok hx.2⟩, bs.1, bs.2.1, bs.2.2.1, fun X w hS hag => ?_⟩
            obtain ⟨_, w', e1, e2, e3, e4, e5, e6⟩ := (hran X w hS).2.2.2 hag
            refine ⟨w', fun main e => ?_, e2, e3, e4, e5, fun e he => (e6 e (mem_seen he)).resolve_left (by simp)⟩
            simp only [St.mk, List.map_cons, List.cons_append]
            rw [hstep, e1]
            dsimp only
            rw [Wt.fr, finish_any (hx.2 x.it (by simp))]
            simp [GStep.after, topF]
        | halt h u' =>
          refine .inr fun e _ => .inl (.inl ?_)
          have : ∃ c cs, (St.up t it l mid f t' l' true).mk b e = G (topF f t' l' true) (c :: cs) := by
            cases mid <;> exact ⟨_, _, rfl⟩
          obtain ⟨c, cs, hg⟩ := this
          rw [hg, hstep, hr]
          cases h <;> exact ⟨_, _, _, rfl⟩
end Go.Bp

/- The bar: plain code goes, whatever the others do. -/
namespace Go.Bp
open Go Go.Conc

def stuckF : Frame := { fn := 0, tmps := #[], todo := [.code (.refuse "")], defers := [⟨.nil, #[]⟩], mode := .run, kind := .normal }
def k0 : List Item := [.code (.refuse "")]
def e0 : Env := ⟨[], k0, [stuckF]⟩

def NT (P : Program) (b : Frame) (m : Machine) : Prop := ∀ n a w', runN P n m ≠ .next (lone (b.at a k0) [stuckF] w')

theorem NT.of {P : Program} {b : Frame} {m : Machine} (h : ∀ a w', m ≠ lone (b.at a k0) [stuckF] w') (hs : ∀ m', step P m = .next m' → NT P b m') : NT P b m := by
  intro n a w'
  cases n with
  | zero => intro e; simp only [runN] at e; cases e; exact h a w' rfl
  | succ n =>
    simp only [runN]
    cases hst : step P m with
    | next m' => exact hs m' hst n a w'
    | ended o w => intro e; cases e

theorem lone_inj {fr fr' : Frame} {cs cs' : List Frame} {w w' : World} (h : lone fr cs w = lone fr' cs' w') : fr = fr' ∧ cs = cs' ∧ w = w' := by
  have h1 := congrArg Machine.gs h
  have h2 := congrArg Machine.world h
  simp only [lone, Array.mk.injEq, List.cons.injEq, Goroutine.mk.injEq] at h1 h2
  exact ⟨h1.1.1, h1.1.2.1, h2⟩

theorem step_go {P : Program} {fr fr' : Frame} {cs cs' : List Frame} {w w' : World} {es : Array Event} (h : stepG P true (G fr cs) w = .go (G fr' cs') w' es) : step P (lone fr cs w) = .next (lone fr' cs' w') :=
  step_lone_go (by rw [show ({ frame := fr, callers := cs, status := .running, dying := none } : Goroutine) = G fr cs from rfl, h]; rfl)

theorem step_ended {P : Program} {fr : Frame} {cs : List Frame} {w w' : World} {es : Array Event} {o : Outcome} (h : stepG P true (G fr cs) w = .ended o w' es) : step P (lone fr cs w) = .ended o w' :=
  step_lone_ended (by rw [show ({ frame := fr, callers := cs, status := .running, dying := none } : Goroutine) = G fr cs from rfl, h]; rfl)

theorem nt_ended {P : Program} {b : Frame} {fr : Frame} {cs : List Frame} {w w' : World} {es : Array Event} {o : Outcome} (h : stepG P true (G fr cs) w = .ended o w' es)
    (hn : ∀ a w', lone fr cs w ≠ lone (b.at a k0) [stuckF] w') : NT P b (lone fr cs w) :=
  .of hn fun m' hm => by rw [step_ended h] at hm; cases hm

theorem refused_ends {P : Program} {fr : Frame} {cs : List Frame} {w : World} {k : List Item} (hm : fr.mode = .run) (ht : fr.todo = .code (.refuse "") :: k) : ∃ o w' es, stepG P true (G fr cs) w = .ended o w' es :=
  ⟨_, _, _, by simp [stepG, stepG.exec, G, hm, ht]; exact ⟨rfl, rfl, rfl⟩⟩
theorem nt_stuck {P : Program} {b : Frame} {w : World} : NT P b (lone stuckF [] w) := by
  obtain ⟨o, w1, es, h⟩ := refused_ends (P := P) (fr := stuckF) (cs := []) (w := w) rfl rfl
  exact nt_ended h fun a w' e => by have := (lone_inj e).2.1; cases this

theorem nt_stuckP {P : Program} {b : Frame} {w : World} {ch : List PanicEntry} : NT P b (lone { stuckF with mode := .panicking ch } [] w) := by
  refine NT.of (fun a w' e => by have := (lone_inj e).2.1; cases this) fun m' hm => ?_
  have : ∃ o w' es, stepG P true (G { stuckF with mode := .panicking ch } []) w = .ended o w' es := ⟨_, _, _, by simp [stepG, unwind, stuckF, G, callDeferred]; exact ⟨rfl, rfl, rfl⟩⟩
  obtain ⟨o, w', es, h⟩ := this
  rw [step_ended h] at hm
  cases hm

theorem pan_step {P : Program} {fr c : Frame} {cs : List Frame} {w : World} {ch : List PanicEntry} (hd : fr.defers = []) (hm : c.mode = .run) :
    (∃ o w' es, stepG P true (G { fr with mode := .panicking ch } (c :: cs)) w = .ended o w' es) ∨ stepG P true (G { fr with mode := .panicking ch } (c :: cs)) w = .go (G { c with mode := .panicking ch } cs) w #[] := by
  obtain ⟨fn, tmps, todo, defers, mode, kind, ro⟩ := fr
  obtain ⟨fn', tmps', todo', defers', mode', kind', ro'⟩ := c
  simp only at hd hm
  subst hd hm
  by_cases hc : Frame.catches P ⟨fn, tmps, todo, [], .panicking ch, kind, ro⟩ = true
  · exact .inl ⟨_, _, _, by simp [stepG, unwind, G, hc]; exact ⟨rfl, rfl, rfl⟩⟩
  · exact .inr (by simp [stepG, unwind, G, hc, Frame.raise])

theorem nt_pan {P : Program} {b : Frame} {ch : List PanicEntry} : ∀ (cs : List Frame) (fr : Frame) (w : World), fr.defers = [] → (∀ c ∈ cs, c.defers = [] ∧ c.mode = .run) → NT P b (lone { fr with mode := .panicking ch } (cs ++ [stuckF]) w)
  | [], fr, w, hd, _ => by
    refine NT.of (fun a w' e => by have := congrArg Frame.mode (lone_inj e).1; cases this) fun m' hm => ?_
    rcases pan_step (P := P) (cs := []) (w := w) (ch := ch) (c := stuckF) hd rfl with ⟨o, w', es, h⟩ | h
    · rw [List.nil_append, step_ended h] at hm; cases hm
    · rw [List.nil_append, step_go h] at hm
      cases hm
      exact nt_stuckP
  | c :: cs, fr, w, hd, hcs => by
    refine NT.of (fun a w' e => by have := congrArg Frame.mode (lone_inj e).1; cases this) fun m' hm => ?_
    have hc := hcs c (by simp)
    rcases pan_step (P := P) (cs := cs ++ [stuckF]) (w := w) (ch := ch) (c := c) hd hc.2 with ⟨o, w', es, h⟩ | h
    · rw [List.cons_append, step_ended h] at hm; cases hm
    · rw [List.cons_append, step_go h] at hm
      cases hm
      exact nt_pan cs c w hc.1 (fun x hx => hcs x (by simp [hx]))

theorem nt_ret {P : Program} {b : Frame} {t : Array Value} {l : List Item} {w : World} : NT P b (lone { b.at ⟨t, []⟩ l with mode := .returning } [stuckF] w) := by
  refine NT.of (fun a w' e => by have := congrArg Frame.mode (lone_inj e).1; cases this) fun m' hm => ?_
  have key : ∀ v w, ∃ w', (doReturn P true { b.at ⟨t, []⟩ l with mode := .returning } [stuckF] none v w) = .go (G stuckF []) w' #[] := by
    intro v w
    refine ⟨w, ?_⟩
    cases hk : b.kind <;> simp [doReturn, Frame.at, hk, stuckF, Frame.finish, G]
  have : (∃ o w' es, stepG P true (G { b.at ⟨t, []⟩ l with mode := .returning } [stuckF]) w = .ended o w' es) ∨ ∃ w' es, stepG P true (G { b.at ⟨t, []⟩ l with mode := .returning } [stuckF]) w = .go (G stuckF []) w' es := by
    have hu : stepG P true (G { b.at ⟨t, []⟩ l with mode := .returning } [stuckF]) w = unwind P true { b.at ⟨t, []⟩ l with mode := .returning } [stuckF] none w := by
      simp [stepG, G, Frame.at]
    rw [hu]
    cases hf : P.funcs[b.fn]? with
    | none =>
      obtain ⟨w', h⟩ := key ((Array.getD t 0 undef)) w
      refine .inr ⟨w', #[], ?_⟩
      rw [← h]
      simp [unwind, Frame.at, hf]
    | some fn =>
      obtain ⟨s0, hun⟩ : ∃ s0 : String, unwind P true { b.at ⟨t, []⟩ l with mode := .returning } [stuckF] none w =
          GStep.after (seen P b.fn ((results fn t).runT P w #[]).2) (match ((results fn t).runT P w #[]).1 with
            | .ok v w => doReturn P true { b.at ⟨t, []⟩ l with mode := .returning } [stuckF] none v w
            | .halt (.stuck s) w => .ended (.stuck s (({ b.at ⟨t, []⟩ l with mode := .returning } : Frame).pos P)) w #[]
            | .halt _ w => .ended (.stuck s0 (({ b.at ⟨t, []⟩ l with mode := .returning } : Frame).pos P)) w #[]) := ⟨_, by
        simp [unwind, Frame.at, hf]
        rfl⟩
      rw [hun]
      cases hr : (results fn t).runT P w #[] with
      | mk r es =>
        cases r with
        | ok v w1 =>
          obtain ⟨w', h⟩ := key v w1
          dsimp only
          rw [h]
          exact .inr ⟨_, _, rfl⟩
        | halt x w1 => cases x <;> exact .inl ⟨_, _, _, rfl⟩
  rcases this with ⟨o, w', es, h⟩ | ⟨w', es, h⟩
  · rw [step_ended h] at hm; cases hm
  · rw [step_go h] at hm; cases hm; exact nt_stuck

theorem mk_e0 {b : Frame} (s : St) : ∃ fr cs, s.mk b e0 = G fr (cs ++ [stuckF]) ∧ fr.defers = [] ∧ (∀ c ∈ cs, c.defers = [] ∧ c.mode = .run) := by
  cases s with
  | base t l => exact ⟨_, [], rfl, rfl, by simp⟩
  | up t it l mid f t' l' ret =>
    refine ⟨topF f t' l' ret, mid.map Wt.fr ++ [b.at ⟨t, []⟩ ((it :: l) ++ k0)], by simp [St.mk, e0], by cases ret <;> rfl, fun c hc => ?_⟩
    rcases List.mem_append.1 hc with h | h
    · obtain ⟨x, _, rfl⟩ := List.mem_map.1 h; exact ⟨rfl, rfl⟩
    · simp at h; subst h; exact ⟨rfl, rfl⟩

def Last : St → Prop
  | .base _ [] => True
  | _ => False

theorem not_target {b : Frame} {s : St} (h : ¬ Last s) {fr : Frame} {cs : List Frame} (he : s.mk b e0 = G fr cs) {w : World} : ∀ a w', lone fr cs w ≠ lone (b.at a k0) [stuckF] w' := by
  intro a w' e
  obtain ⟨e1, e2, _⟩ := lone_inj e
  cases s with
  | base t l =>
    cases l with
    | nil => exact h trivial
    | cons x l =>
      have e3 : b.at ⟨t, []⟩ ((x :: l) ++ k0) = fr := congrArg Goroutine.frame he
      have e4 := congrArg (fun f => f.todo.length) (e3.trans e1)
      simp [Frame.at, k0] at e4
  | up t it l mid f t' l' ret =>
    have e3 : mid.map Wt.fr ++ b.at ⟨t, []⟩ ((it :: l) ++ k0) :: [stuckF] = cs := congrArg Goroutine.callers he
    have e4 := congrArg List.length (e3.trans e2)
    simp at e4

theorem lost_nt {P : Program} {b : Frame} {s : St} (hl : ¬ Last s) {u : World} (h : Lost P b (s.mk b e0) e0 u) {fr : Frame} {cs : List Frame} (he : s.mk b e0 = G fr cs) : NT P b (lone fr cs u) := by
  refine NT.of (not_target hl he) fun m' hm => ?_
  obtain ⟨fr', cs', he', hd, hcs⟩ := mk_e0 (b := b) s
  obtain ⟨rfl, rfl⟩ : fr' = fr ∧ cs' ++ [stuckF] = cs := by
    have := he'.symm.trans he
    exact ⟨congrArg Goroutine.frame this, congrArg Goroutine.callers this⟩
  rw [he] at h
  rcases h with (⟨o, w', es, h⟩ | ⟨ch, w', es, h⟩) | ⟨t, l, w', es, h⟩
  · rw [step_ended h] at hm; cases hm
  · rw [step_go (show _ = GStep.go (G { fr' with mode := .panicking ch } (cs' ++ [stuckF])) w' es from h)] at hm
    cases hm
    exact nt_pan cs' fr' w' hd hcs
  · rw [step_go h] at hm
    cases hm
    exact nt_ret
end Go.Bp

/- 'Wk': a goroutine goes, whatever the others do; out of the lone run on every tape. -/
namespace Go.Bp
open Go Go.Conc

inductive Wk (P : Program) (main : Bool) (R : World → World → Prop) (D : World → World → Array Event → Prop) (Stop : Goroutine → World → Prop) : Goroutine → World → Prop
  | stop {g : Goroutine} {w : World} : (∀ w₁, R w w₁ → Stop g w₁) → Wk P main R D Stop g w
  | step {g : Goroutine} {w : World} (f : World → Goroutine × World × Array Event) : g.status = .running →
      (∀ w₁, R w w₁ → stepG P main g w₁ = .go (f w₁).1 (f w₁).2.1 (f w₁).2.2 ∧ D w₁ (f w₁).2.1 (f w₁).2.2) → (∀ w₁, R w w₁ → Wk P main R D Stop (f w₁).1 (f w₁).2.1) → Wk P main R D Stop g w

theorem Wk.next {P : Program} {main : Bool} {R : World → World → Prop} {D : World → World → Array Event → Prop} {Stop : Goroutine → World → Prop} {g : Goroutine} {w : World} (hg : g.status = .running)
    (h : ∀ w₁, R w w₁ → ∃ g' w' es, stepG P main g w₁ = .go g' w' es ∧ D w₁ w' es ∧ Wk P main R D Stop g' w') : Wk P main R D Stop g w := by
  have h' : ∀ w₁, ∃ x : Goroutine × World × Array Event, R w w₁ → stepG P main g w₁ = .go x.1 x.2.1 x.2.2 ∧ D w₁ x.2.1 x.2.2 ∧ Wk P main R D Stop x.1 x.2.1 := by
    intro w₁
    by_cases hr : R w w₁
    · obtain ⟨g', w', es, h1, h2, h3⟩ := h w₁ hr
      exact ⟨(g', w', es), fun _ => ⟨h1, h2, h3⟩⟩
    · exact ⟨(g, w, #[]), fun x => absurd x hr⟩
  exact .step (fun w₁ => (h' w₁).choose) hg (fun w₁ hr => ⟨((h' w₁).choose_spec hr).1, ((h' w₁).choose_spec hr).2.1⟩) (fun w₁ hr => ((h' w₁).choose_spec hr).2.2)

/-- The others' doing: the hidden blocks' cells alone. -/
structure RX (X : Nat → Prop) (w w₁ : World) : Prop where
  size : w₁.heap.size = w.heap.size
  same : ∀ k, ¬ X k → w₁.heap[k]? = w.heap[k]?
  hid : ∀ k, X k → ∀ c e fr, w.heap[k]? = some (.cells c e fr) → ∃ c', w₁.heap[k]? = some (.cells c' e fr)
  os : w₁.os = w.os
  output : w₁.output = w.output

theorem RX.refl (X : Nat → Prop) (w : World) : RX X w w := ⟨rfl, fun _ _ => rfl, fun _ _ c _ _ h => ⟨c, h⟩, rfl, rfl⟩
theorem Sim.rely {X : Nat → Prop} {u w w₁ : World} (h : Sim X u w) (r : RX X w w₁) : Sim X u w₁ :=
  ⟨r.size.trans h.size, fun k hk => (r.same k hk).trans (h.same k hk), fun k hk => by
    obtain ⟨c, e, fr, h1, h2⟩ := h.hid k hk
    obtain ⟨c', h3⟩ := r.hid k hk c e fr h1
    exact ⟨c', e, fr, h3, h2⟩, r.os.trans h.os, r.output.trans h.output⟩

/-- One's own doing. -/
def DX (X : Nat → Prop) (w w' : World) (es : Array Event) : Prop := (∀ k, X k → w'.heap[k]? = w.heap[k]?) ∧ ∀ e ∈ es, EvX X e

def re (w : World) (T : Nat → Question → Nat) (d : Nat) : World := { w with tape := T, drawn := d }

theorem sim_re {u w : World} (h : Sim (fun _ => False) u w) : w = re u w.tape w.drawn := by
  have hh : w.heap = u.heap := by
    apply Array.ext_getElem?
    intro i
    exact h.same i (fun x => x)
  obtain ⟨_, _, _, _, _⟩ := w
  obtain ⟨_, _, _, _, _⟩ := u
  have h4 := h.os
  have h5 := h.output
  simp only at hh h4 h5
  subst hh h4 h5
  rfl

theorem re_sim (u : World) (T T' : Nat → Question → Nat) (d d' : Nat) : Sim (fun _ => False) (re u T d) (re u T' d') := ⟨rfl, fun _ _ => rfl, fun _ h => h.elim, rfl, rfl⟩

section
variable {P : Program} {F : Nat → Bool} {b : Frame}

/-- The lone run from s, u comes to the end of the piece. -/
def Come (P : Program) (b : Frame) (Q : Act → World → Prop) (s : St) (w : World) : Prop :=
  ∃ n a w', runN P n (solo (s.mk b e0) w) = .next (lone (b.at a k0) [stuckF] w') ∧ Q a w'

def Cn (P : Program) (F : Nat → Bool) (b : Frame) (Q : Act → World → Prop) (s : St) (u : World) : Prop := s.ok P F ∧ ∀ T d, Come P b Q s (re u T d)

theorem solo_lone {b : Frame} (s : St) (w : World) : ∃ fr cs, s.mk b e0 = G fr cs ∧ solo (s.mk b e0) w = lone fr cs w := by
  obtain ⟨fr, cs, h, _⟩ := mk_e0 (b := b) s
  exact ⟨fr, cs ++ [stuckF], h, by rw [h]; rfl⟩

theorem step_solo {b : Frame} {s s' : St} {w w' : World} {es : Array Event} (h : stepG P true (s.mk b e0) w = .go (s'.mk b e0) w' es) : step P (solo (s.mk b e0) w) = .next (solo (s'.mk b e0) w') := by
  obtain ⟨fr, cs, h1, h2⟩ := solo_lone (b := b) s w
  obtain ⟨fr', cs', h1', h2'⟩ := solo_lone (b := b) s' w'
  rw [h2, h2']
  rw [h1, h1'] at h
  exact step_go h

theorem e0_exit : ∀ id, exitTo id e0.k = none := fun _ => rfl

/-- A step in the lone world: it is there, where the run comes to its end. -/
theorem come_step {Q : Act → World → Prop} (hC : Closed P F) (hb : b.kind ≠ .early) {s : St} (hs : s.ok P F) (hl : ¬ Last s) {u : World} (h : Come P b Q s u) :
    ∃ s' u' es, St.ok P F s' ∧ Step1 u u' es (fun w w' => ∀ main e, stepG P main (s.mk b e) w = .go (s'.mk b e) w' es) ∧ Come P b Q s' u' := by
  obtain ⟨n, a, w', hn, hq⟩ := h
  rcases sl hC hb s hs (fun t e => hl (by rw [e]; trivial)) u with ⟨s', u', es, h1, h2⟩ | h
  · refine ⟨s', u', es, h1, h2, ?_⟩
    obtain ⟨w1, e1, e2, e3, e4, _⟩ := h2.2.2.2 (fun _ => False) u ⟨rfl, fun _ _ => rfl, fun _ h => h.elim, rfl, rfl⟩ (fun _ _ _ => rfl)
    have hw : w1 = u' := by
      rw [sim_re e2, e3, e4, show u.drawn + (u'.drawn - u.drawn) = u'.drawn by have := h2.1; omega, ← h2.2.1]
      rfl
    subst hw
    have hst := step_solo (e1 true e0)
    cases n with
    | zero =>
      obtain ⟨fr, cs, k1, k2⟩ := solo_lone (b := b) s u
      simp only [runN, k2] at hn
      cases hn
      exact absurd rfl (not_target hl k1 (w := u) a _)
    | succ n =>
      simp only [runN, hst] at hn
      exact ⟨n, a, w', hn, hq⟩
  · exfalso
    obtain ⟨fr, cs, k1, k2⟩ := solo_lone (b := b) s u
    have := lost_nt hl (h e0 e0_exit) k1
    rw [k2] at hn
    exact this n a w' hn

/-- Two tapes that say the same from here on. -/
theorem come_tape {Q : Act → World → Prop} (hQ : ∀ a w T d, Q a w → Q a (re w T d)) (hC : Closed P F) (hb : b.kind ≠ .early) :
    ∀ (n : Nat) (s : St) (u : World) (T : Nat → Question → Nat) (d : Nat), s.ok P F → (∀ j q, T (d + j) q = u.tape (u.drawn + j) q) →
      (∃ a w', runN P n (solo (s.mk b e0) u) = .next (lone (b.at a k0) [stuckF] w') ∧ Q a w') → Come P b Q s (re u T d) := by
  intro n
  induction n with
  | zero =>
    intro s u T d hs hT ⟨a, w', hn, hq⟩
    obtain ⟨fr, cs, k1, k2⟩ := solo_lone (b := b) s u
    simp only [runN, k2] at hn
    cases hn
    refine ⟨0, a, re u T d, ?_, hQ _ _ _ _ hq⟩
    rw [k1]
    rfl
  | succ n ih =>
    intro s u T d hs hT ⟨a, w', hn, hq⟩
    by_cases hl : Last s
    · exfalso
      cases s with
      | base t l =>
        cases l with
        | nil =>
          have hend : ∃ o w2, step P (solo ((St.base t []).mk b e0) u) = .ended o w2 := by
            obtain ⟨o, w2, es, h⟩ := refused_ends (P := P) (fr := { b.at ⟨t, []⟩ k0 with mode := .run }) (cs := [stuckF]) (w := u) rfl rfl
            exact ⟨o, w2, step_ended h⟩
          obtain ⟨o, w2, he⟩ := hend
          simp only [runN, he] at hn
          cases hn
        | cons x l => exact hl
      | up => exact hl
    · rcases come_step (Q := Q) hC hb hs hl ⟨n + 1, a, w', hn, hq⟩ with ⟨s', u', es, h1, h2, h3⟩
      obtain ⟨w1, e1, e2, e3, e4, _⟩ := h2.2.2.2 (fun _ => False) (re u T d) (re_sim u u.tape T u.drawn d) (fun j _ q => hT j q)
      obtain ⟨w2, f1, f2, f3, f4, _⟩ := h2.2.2.2 (fun _ => False) u ⟨rfl, fun _ _ => rfl, fun _ h => h.elim, rfl, rfl⟩ (fun _ _ _ => rfl)
      have hw : w2 = u' := by
        rw [sim_re f2, f3, f4, show u.drawn + (u'.drawn - u.drawn) = u'.drawn by have := h2.1; omega, ← h2.2.1]
        rfl
      subst hw
      have hst := step_solo (f1 true e0)
      simp only [runN, hst] at hn
      have hw1 : w1 = re w2 T (d + (w2.drawn - u.drawn)) := by rw [sim_re e2, e3, e4]; rfl
      subst hw1
      have := ih s' w2 T (d + (w2.drawn - u.drawn)) h1 (fun j q => by
        have := hT (w2.drawn - u.drawn + j) q
        rw [← Nat.add_assoc] at this
        rw [this, h2.2.1]
        congr 1
        have := h2.1
        omega) ⟨a, w', hn, hq⟩
      obtain ⟨m, a2, w3, hm, hq2⟩ := this
      refine ⟨m + 1, a2, w3, ?_, hq2⟩
      simp only [runN, step_solo (e1 true e0)]
      exact hm

theorem cn_step {Q : Act → World → Prop} (hQ : ∀ a w T d, Q a w → Q a (re w T d)) (hC : Closed P F) (hb : b.kind ≠ .early) {s : St} {u : World} (h : Cn P F b Q s u) (hl : ¬ Last s) (T : Nat → Question → Nat) (d : Nat) :
    ∃ s' u' es, Cn P F b Q s' u' ∧ Step1 (re u T d) u' es (fun w w' => ∀ main e, stepG P main (s.mk b e) w = .go (s'.mk b e) w' es) := by
  obtain ⟨s', u', es, h1, h2, _⟩ := come_step hC hb h.1 hl (h.2 T d)
  refine ⟨s', u', es, ⟨h1, fun T' d' => ?_⟩, h2⟩
  -- splice
  let K := u'.drawn - d
  let T2 : Nat → Question → Nat := fun j q => if j < K then T (d + j) q else T' (d' + (j - K)) q
  obtain ⟨w1, e1, e2, e3, e4, _⟩ := h2.2.2.2 (fun _ => False) (re u T2 0) (re_sim u T T2 d 0) (fun j hj q => by
    show T2 (0 + j) q = T (d + j) q
    have hj' : j < K := hj
    simp [T2, hj'])
  have hw1 : w1 = re u' T2 K := by
    rw [sim_re e2, e3, e4]
    show re u' T2 (0 + K) = _
    rw [Nat.zero_add]
  subst hw1
  obtain ⟨n, a, w', hn, hq⟩ := h.2 T2 0
  cases n with
  | zero =>
    obtain ⟨fr, cs, k1, k2⟩ := solo_lone (b := b) s (re u T2 0)
    simp only [runN, k2] at hn
    cases hn
    exact absurd rfl (not_target hl k1 (w := re u T2 0) a _)
  | succ n =>
    simp only [runN, step_solo (e1 true e0)] at hn
    have := come_tape hQ hC hb n s' (re u' T2 K) T' d' h1 (fun j q => by
      show T' (d' + j) q = T2 (K + j) q
      simp [T2]
      intro hh; omega) ⟨a, w', hn, hq⟩
    exact this

/-- ████ PLAIN CODE GOES, WHATEVER THE OTHERS DO WITH THE HIDDEN BLOCKS AND WHATEVER THE SCHEDULER DRAWS. ████ -/
theorem bar {Q : Act → World → Prop} (hQ : ∀ a w T d, Q a w → Q a (re w T d)) (hC : Closed P F) (hb : b.kind ≠ .early) {s : St} {u w : World} {X : Nat → Prop} (h : Cn P F b Q s u) (hS : Sim X u w) (main : Bool) (e : Env) :
    Wk P main (RX X) (DX X) (fun g w' => ∃ t u', g = G (b.at ⟨t, e.D⟩ e.k) e.cs ∧ Q ⟨t, []⟩ u' ∧ Sim X u' w') (s.mk b e) w := by
  apply Classical.byContradiction
  intro hno
  let Pt := { p : St × World × World // Cn P F b Q p.1 p.2.1 ∧ Sim X p.2.1 p.2.2 ∧ ¬ Wk P main (RX X) (DX X) (fun g w' => ∃ t u', g = G (b.at ⟨t, e.D⟩ e.k) e.cs ∧ Q ⟨t, []⟩ u' ∧ Sim X u' w') (p.1.mk b e) p.2.2 }
  have notLast : ∀ p : Pt, ¬ Last p.1.1 := by
    rintro ⟨⟨s, u, w⟩, hc, hS, hn⟩ hl
    cases s with
    | base t l =>
      cases l with
      | nil =>
        refine hn (.stop fun w₁ hr => ⟨t, re u u.tape u.drawn, rfl, ?_, hS.rely hr⟩)
        obtain ⟨n, a, w', hr, hq⟩ := hc.2 u.tape u.drawn
        cases n with
        | zero =>
          simp only [runN] at hr
          have he : solo ((St.base t []).mk b e0) (re u u.tape u.drawn) = lone (b.at ⟨t, []⟩ k0) [stuckF] (re u u.tape u.drawn) := rfl
          rw [he] at hr
          have h3 := lone_inj (Stepped.next.inj hr)
          have ha : a = ⟨t, []⟩ := by
            have h4 := h3.1
            obtain ⟨at_, ad⟩ := a
            simp only [Frame.at, Frame.mk.injEq] at h4
            rw [← h4.2.1, ← h4.2.2.2.1]
          rw [ha, ← h3.2.2] at hq
          exact hq
        | succ n =>
          exfalso
          have hend : ∃ o w2, step P (solo ((St.base t []).mk b e0) (re u u.tape u.drawn)) = .ended o w2 := by
            obtain ⟨o, w2, es, h⟩ := refused_ends (P := P) (fr := { b.at ⟨t, []⟩ k0 with mode := .run }) (cs := [stuckF]) (w := re u u.tape u.drawn) rfl rfl
            exact ⟨o, w2, step_ended h⟩
          obtain ⟨o, w2, he⟩ := hend
          simp only [runN, he] at hr
          cases hr
      | cons x l => exact hl
    | up => exact hl
  have nxt : ∀ p : Pt, ∃ (p' : Pt) (T : Nat → Question → Nat) (d : Nat) (es : Array Event), Step1 (re p.1.2.1 T d) p'.1.2.1 es (fun w w' => ∀ main e, stepG P main (p.1.1.mk b e) w = .go (p'.1.1.mk b e) w' es) := by
    intro p
    have hl := notLast p
    obtain ⟨⟨s, u, w⟩, hc, hS, hn⟩ := p
    have hrun : (s.mk b e).status = .running := by cases s <;> rfl
    have : ∃ w₁, RX X w w₁ ∧ ∀ g' w' es, stepG P main (s.mk b e) w₁ = .go g' w' es → DX X w₁ w' es → ¬ Wk P main (RX X) (DX X) (fun g w' => ∃ t u', g = G (b.at ⟨t, e.D⟩ e.k) e.cs ∧ Q ⟨t, []⟩ u' ∧ Sim X u' w') g' w' := by
      apply Classical.byContradiction
      intro hx
      refine hn (.next hrun fun w₁ hr => ?_)
      apply Classical.byContradiction
      intro hy
      exact hx ⟨w₁, hr, fun g' w' es h1 h2 h3 => hy ⟨g', w', es, h1, h2, h3⟩⟩
    obtain ⟨w₁, hr, hw⟩ := this
    obtain ⟨s', u', es, h1, h2⟩ := cn_step hQ hC hb hc hl w₁.tape w₁.drawn
    have hS1 : Sim X (re u w₁.tape w₁.drawn) w₁ := by
      have := hS.rely hr
      exact ⟨this.size, this.same, this.hid, this.os, this.output⟩
    obtain ⟨w', e1, e2, e3, e4, e5, e6⟩ := h2.2.2.2 X w₁ hS1 (fun _ _ _ => rfl)
    exact ⟨⟨(s', u', w'), h1, e2, hw _ _ _ (e1 main e) ⟨e5, e6⟩⟩, w₁.tape, w₁.drawn, es, h2⟩
  let nx : Pt → Pt := fun p => (nxt p).choose
  let tT : Pt → Nat → Question → Nat := fun p => (nxt p).choose_spec.choose
  let tD : Pt → Nat := fun p => (nxt p).choose_spec.choose_spec.choose
  have hnx : ∀ p : Pt, ∃ es, Step1 (re p.1.2.1 (tT p) (tD p)) (nx p).1.2.1 es (fun w w' => ∀ main e, stepG P main (p.1.1.mk b e) w = .go ((nx p).1.1.mk b e) w' es) := fun p => (nxt p).choose_spec.choose_spec.choose_spec
  let p0 : Pt := ⟨(s, u, w), h, hS, hno⟩
  let pt : Nat → Pt := fun i => Nat.rec p0 (fun _ p => nx p) i
  have pts : ∀ i, pt (i + 1) = nx (pt i) := fun i => rfl
  let K : Nat → Nat := fun i => (pt (i + 1)).1.2.1.drawn - tD (pt i)
  let ee : Nat → Nat := fun i => Nat.rec 0 (fun i x => x + K i) i
  have ees : ∀ i, ee (i + 1) = ee i + K i := fun i => rfl
  have mono : ∀ i k, ee i ≤ ee (i + k) := by
    intro i k
    induction k with
    | zero => exact Nat.le_refl _
    | succ k ih => rw [← Nat.add_assoc, ees]; omega
  have only : ∀ i j n, ee i ≤ n → n < ee (i + 1) → ee j ≤ n → n < ee (j + 1) → i = j := by
    intro i j n a1 a2 b1 b2
    rcases Nat.lt_trichotomy i j with hij | hij | hij
    · have := mono (i + 1) (j - (i + 1))
      rw [show i + 1 + (j - (i + 1)) = j by omega] at this
      omega
    · exact hij
    · have := mono (j + 1) (i - (j + 1))
      rw [show j + 1 + (i - (j + 1)) = i by omega] at this
      omega
  let Tw : Nat → Question → Nat := fun n q => open Classical in if hx : ∃ i, ee i ≤ n ∧ n < ee (i + 1) then tT (pt hx.choose) (tD (pt hx.choose) + (n - ee hx.choose)) q else 0
  have hTw : ∀ i j q, j < K i → Tw (ee i + j) q = tT (pt i) (tD (pt i) + j) q := by
    intro i j q hj
    have hx : ∃ i', ee i' ≤ ee i + j ∧ ee i + j < ee (i' + 1) := ⟨i, by omega, by rw [ees]; omega⟩
    have hi : hx.choose = i := only _ _ _ hx.choose_spec.1 hx.choose_spec.2 (by omega) (by rw [ees]; omega)
    show (open Classical in if hx : ∃ i', ee i' ≤ ee i + j ∧ ee i + j < ee (i' + 1) then tT (pt hx.choose) (tD (pt hx.choose) + (ee i + j - ee hx.choose)) q else 0) = _
    rw [dif_pos hx, hi, show ee i + j - ee i = j by omega]
  have run : ∀ i, runN P i (solo ((pt 0).1.1.mk b e0) (re (pt 0).1.2.1 Tw 0)) = .next (solo ((pt i).1.1.mk b e0) (re (pt i).1.2.1 Tw (ee i))) := by
    intro i
    induction i with
    | zero => rfl
    | succ i ih =>
      rw [runN_add, ih]
      obtain ⟨es, h2⟩ := hnx (pt i)
      obtain ⟨w1, e1, e2, e3, e4, _⟩ := h2.2.2.2 (fun _ => False) (re (pt i).1.2.1 Tw (ee i)) (re_sim _ _ _ _ _) (fun j hj q => hTw i j q hj)
      have hw1 : w1 = re (pt (i + 1)).1.2.1 Tw (ee (i + 1)) := by
        rw [sim_re e2, e3, e4]
        rfl
      subst hw1
      simp only [runN, step_solo (e1 true e0)]
      rfl
  obtain ⟨n, a, w', hr, _⟩ := h.2 Tw 0
  have hr' := (run n).symm.trans hr
  obtain ⟨fr, cs, k1, k2⟩ := solo_lone (b := b) (pt n).1.1 (re (pt n).1.2.1 Tw (ee n))
  rw [k2] at hr'
  exact not_target (notLast (pt n)) k1 a w' (Stepped.next.inj hr')
end
end Go.Bp

/- Which operations are plain. -/
namespace Go.Bp
open Go Go.Conc

section
variable {p : Program} {α β : Type}

theorem dead_bind {f : α → Sem β} : ∀ {s : Sem α}, Dead p s → Dead p (s.bind f) := by
  intro s
  induction s with
  | pure a => intro h; exact h.elim
  | load m a k ih => intro h v; exact ih v (h v)
  | store m a v k ih => intro h; exact ih h
  | new o k ih => intro h r; exact ih r (h r)
  | shape r k ih => intro h r; exact ih r (h r)
  | freeze a n k ih => intro h; exact ih h
  | frozen a k ih => intro h r; exact ih r (h r)
  | getObj r k ih => intro h r; exact ih r (h r)
  | setObj r o k ih => intro h; exact ih h
  | choose q k ih => intro h r; exact ih r (h r)
  | sys c k ih => intro h r; exact ih r (h r)
  | program k ih => intro h; exact ih _ h
  | mark m k ih => intro h; exact ih h
  | halt x => intro h; exact h

theorem tame_bind {K : α → Prop} {K' : β → Prop} {f : α → Sem β} (hf : ∀ a, K a → Tame p K' (f a)) : ∀ {s : Sem α}, Tame p K s → Tame p K' (s >>= f) := by
  intro s
  show Tame p K s → Tame p K' (s.bind f)
  induction s with
  | pure a => intro h; exact hf a h
  | load m a k ih => intro h v; exact ih v (h v)
  | store m a v k ih => intro h; exact ih h
  | new o k ih => intro h r; exact ih r (h r)
  | shape r k ih =>
    intro h
    rcases h with h | ⟨h1, h2⟩
    · exact .inl (dead_bind h)
    · refine .inr ⟨?_, fun s => ih s (h2 s)⟩
      rcases h1 with h1 | h1
      · exact .inl fun e n n' => by show (k _).bind f = (k _).bind f; rw [h1 e n n']
      · exact .inr fun e => dead_bind (h1 e)
  | freeze a n k ih => intro h; exact h.elim
  | frozen a k ih => intro h r; exact ih r (h r)
  | getObj r k ih => intro h r; exact ih r (h r)
  | setObj r o k ih => intro h; exact ih h
  | choose q k ih => intro h r; exact ih r (h r)
  | sys c k ih => intro h; exact h.elim
  | program k ih => intro h; exact ih _ h
  | mark m k ih => intro h; exact ⟨h.1, ih h.2⟩
  | halt x => intro h; exact h

theorem tame_map {K : α → Prop} {f : α → β} {s : Sem α} (h : Tame p K s) : Tame p (fun _ => True) (s >>= fun a => pure (f a)) := by
  refine tame_bind (fun a _ => ?_) h
  exact trivial
theorem tame_pure {K : α → Prop} {a : α} (h : K a) : Tame p K (pure a : Sem α) := h
theorem tame_stuck {K : α → Prop} (w : String) : Tame p K (stuck w : Sem α) := .inr (.inr ⟨_, rfl⟩)
theorem tame_unsup {K : α → Prop} (w : Unsupported) : Tame p K (unsupported w : Sem α) := .inr (.inl ⟨_, rfl⟩)
theorem tame_panic {K : α → Prop} (w : Value) : Tame p K (goPanic w : Sem α) := .inl ⟨_, rfl⟩
theorem tame_program : Tame p (fun q => q = p) program := rfl
theorem tame_load (a : Addr) : Tame p (fun _ => True) (load a) := fun _ => trivial
theorem tame_store (a : Addr) (v : Value) : Tame p (fun _ => True) (store a v) := trivial
theorem tame_new (o : Obj) : Tame p (fun _ => True) (newObj o) := fun _ => trivial
theorem tame_choose (q : Question) : Tame p (fun _ => True) (choose q) := fun _ => trivial
theorem tame_getObj (r : Nat) : Tame p (fun _ => True) (getObj r) := fun _ => trivial
end

section
variable {p : Program}
abbrev Tr {α : Type} : α → Prop := fun _ => True

theorem t_typeInfo (t : TypeId) : Tame p Tr (typeInfo t) := by
  refine tame_bind (fun q hq => ?_) tame_program
  split
  · exact trivial
  · exact tame_stuck _
theorem t_underlying (t : TypeId) : Tame p (fun d => p.underlying t = some d) (underlying t) := by
  refine tame_bind (fun q hq => ?_) tame_program
  subst hq
  split
  · rename_i h; exact h
  · exact tame_stuck _
theorem t_und (t : TypeId) : Tame p Tr (underlying t) := by
  refine tame_bind (fun q hq => ?_) tame_program
  split
  · exact trivial
  · exact tame_stuck _
theorem t_sizeOf (t : TypeId) : Tame p Tr (sizeOf t) := tame_map (t_typeInfo t)
theorem t_zeroValue (t : TypeId) : Tame p Tr (zeroValue t) := by
  refine tame_bind (fun i _ => ?_) (t_typeInfo t)
  split
  · exact trivial
  · exact tame_unsup _
theorem t_isAgg (t : TypeId) : Tame p Tr (isAgg t) := by
  refine tame_bind (fun i _ => ?_) (t_und t)
  split <;> exact trivial
theorem t_loadCellsFrom (a : Addr) : ∀ (n i : Nat) (acc : Array Value), Tame p Tr (loadCellsFrom a i n acc)
  | 0, _, _ => trivial
  | n + 1, i, _acc => tame_bind (fun _v _ => t_loadCellsFrom a n (i + 1) _) (tame_load _)
theorem t_loadCells (a : Addr) (n : Nat) : Tame p Tr (loadCells a n) := t_loadCellsFrom a n 0 #[]
theorem t_storeCells (a : Addr) : ∀ (l : List Value) (i : Nat), Tame p Tr (storeCells a l i)
  | [], _ => trivial
  | _v :: l, i => tame_bind (fun _ _ => t_storeCells a l (i + 1)) (tame_store _ _)
theorem t_loadVar (t : TypeId) (a : Addr) : Tame p Tr (loadVar t a) := by
  refine tame_bind (fun b _ => ?_) (t_isAgg t)
  split
  · exact tame_bind (fun n _ => tame_map (t_loadCells a n)) (t_sizeOf t)
  · exact tame_load a
theorem t_storeVar (t : TypeId) (a : Addr) (v : Value) : Tame p Tr (storeVar t a v) := by
  refine tame_bind (fun n _ => ?_) (t_sizeOf t)
  split
  · exact tame_bind (fun _ _ => t_storeCells a _ 0) (tame_stuck (K := Tr) _)
  · exact t_storeCells a _ 0
theorem t_newRow (e : TypeId) (c : Array Value) : Tame p Tr (newRow e c) := tame_map (tame_new _)
theorem t_newVar (t : TypeId) (v : Value) : Tame p Tr (newVar t v) := t_newRow _ _
theorem t_part (t : TypeId) (c : Array Value) (o : Nat) : Tame p Tr (part t c o) := by
  refine tame_bind (fun b _ => ?_) (t_isAgg t)
  split
  · exact tame_map (t_sizeOf t)
  · split
    · exact trivial
    · exact tame_stuck _
theorem t_elemOf (t : TypeId) : Tame p Tr (elemOf t) := by
  refine tame_bind (fun d _ => ?_) (t_und t)
  split
  · exact trivial
  · exact tame_stuck _
theorem t_runtimePanic {α : Type} {K : α → Prop} (e : RuntimeError) : Tame p K (runtimePanic e : Sem α) := by
  refine tame_bind (fun q _ => ?_) tame_program
  cases e <;> first
    | exact tame_panic _
    | exact tame_bind (fun _ _ => tame_bind (fun _ _ => tame_panic _) (t_newVar _ _)) (t_elemOf _)
theorem t_boundsPanic {α : Type} {K : α → Prop} (k : IntKind) (x y : Int) (c : BoundsCode) : Tame p K (boundsPanic k x y c : Sem α) := by
  unfold boundsPanic
  split
  · exact tame_bind (fun _ _ => t_runtimePanic _) (K := Tr) (tame_map (tame_choose _))
  · exact tame_bind (fun _ _ => t_runtimePanic _) (K := Tr) trivial
theorem t_asIntOf (v : Value) : Tame p Tr (asIntOf v) := by
  unfold asIntOf
  split
  · exact trivial
  · exact tame_unsup _
  · exact tame_stuck _
theorem t_asInt (v : Value) : Tame p Tr (asInt v) := tame_map (t_asIntOf v)
theorem t_asBool (v : Value) : Tame p Tr (asBool v) := by
  unfold asBool
  split
  · exact trivial
  · exact tame_stuck _
theorem t_asString (v : Value) : Tame p Tr (asString v) := by
  unfold asString
  split
  · exact trivial
  · exact tame_stuck _
theorem t_asAgg (v : Value) : Tame p Tr (asAgg v) := by
  unfold asAgg
  split
  · exact trivial
  · exact tame_stuck _
theorem t_sureAddr (v : Value) : Tame p Tr (Instr.sureAddr v) := by
  unfold Instr.sureAddr
  split
  · exact trivial
  · exact tame_stuck _

theorem t_viewAt (r : Nat) : Tame p Tr (viewAt r) := by
  refine .inr ⟨.inl fun e n n' => rfl, fun s => ?_⟩
  cases s with
  | none => exact fun o => by cases o <;> exact trivial
  | some x => exact trivial
theorem t_numberAt (r : Nat) : Tame p Tr (numberAt r) := by
  refine .inr ⟨.inl fun e n n' => rfl, fun s => ?_⟩
  cases s with
  | none => exact fun o => by cases o <;> exact trivial
  | some x => exact trivial
theorem t_behindNumber (a : Addr) : Tame p Tr (behindNumber a) := tame_map (t_numberAt _)
theorem t_noView (a : Addr) : Tame p Tr (noView a) := by
  refine tame_bind (fun x _ => ?_) (t_viewAt _)
  split
  · exact tame_unsup _
  · exact trivial
theorem t_byteOf (a : Addr) : Tame p Tr (byteOf a) := by
  unfold byteOf
  split
  · exact trivial
  · refine tame_bind (fun q _ => tame_bind (fun _ _ => ?_) (t_noView a)) tame_program
    refine .inr ⟨.inl fun e n n' => rfl, fun s => ?_⟩
    cases s with
    | none => exact tame_stuck _
    | some x =>
      show Tame p Tr (if q.cellsOf x.1 = 0 then _ else _)
      split
      · exact trivial
      · show Tame p Tr (match byteOfCell q q.depth x.1 (a.off % q.cellsOf x.1) with | some b => _ | _ => _)
        split
        · exact trivial
        · exact tame_stuck _
theorem t_fieldPlace (a : Addr) (f : Field) : Tame p Tr (fieldPlace a f) := by
  refine tame_bind (fun n _ => ?_) (t_sizeOf _)
  split
  · exact tame_bind (fun _ _ => tame_map (t_byteOf _)) (t_byteOf _)
  · exact trivial
end
end Go.Bp

/- Plain operations, one by one. -/
namespace Go.Bp
open Go Go.Conc

section
variable {p : Program} {α β : Type}
theorem dead_then {f : α → Sem β} (hf : ∀ a, Dead p (f a)) : ∀ {s : Sem α}, Mild p s → Dead p (s >>= f) := by
  intro s
  show Mild p s → Dead p (s.bind f)
  induction s with
  | pure a => intro _; exact hf a
  | load m a k ih => intro h v; exact ih v (h v)
  | store m a v k ih => intro h; exact ih h
  | new o k ih => intro h r; exact ih r (h r)
  | shape r k ih => intro h r; exact ih r (h r)
  | freeze a n k ih => intro h; exact ih h
  | frozen a k ih => intro h r; exact ih r (h r)
  | getObj r k ih => intro h r; exact ih r (h r)
  | setObj r o k ih => intro h; exact ih h
  | choose q k ih => intro h r; exact ih r (h r)
  | sys c k ih => intro h r; exact ih r (h r)
  | program k ih => intro h; exact ih _ h
  | mark m k ih => intro h; exact ih h
  | halt x => intro h; exact h
theorem mild_bind {f : α → Sem β} (hf : ∀ a, Mild p (f a)) : ∀ {s : Sem α}, Mild p s → Mild p (s >>= f) := by
  intro s
  show Mild p s → Mild p (s.bind f)
  induction s with
  | pure a => intro _; exact hf a
  | load m a k ih => intro h v; exact ih v (h v)
  | store m a v k ih => intro h; exact ih h
  | new o k ih => intro h r; exact ih r (h r)
  | shape r k ih => intro h r; exact ih r (h r)
  | freeze a n k ih => intro h; exact ih h
  | frozen a k ih => intro h r; exact ih r (h r)
  | getObj r k ih => intro h r; exact ih r (h r)
  | setObj r o k ih => intro h; exact ih h
  | choose q k ih => intro h r; exact ih r (h r)
  | sys c k ih => intro h r; exact ih r (h r)
  | program k ih => intro h; exact ih _ h
  | mark m k ih => intro h; exact ih h
  | halt x => intro h; exact h
theorem mild_pure {a : α} : Mild p (pure a : Sem α) := trivial
theorem mild_map {f : α → β} {s : Sem α} (h : Mild p s) : Mild p (s >>= fun a => pure (f a)) := by
  refine mild_bind (fun a => ?_) h
  exact trivial
/-- What comes to a halt whatever a block's shape may be. -/
theorem tame_dead_shape {K : β → Prop} {r : Nat} {k : Option (TypeId × Nat) → Sem β} (h : Dead p (.shape r k)) : Tame p K (.shape r k) := .inl h

theorem m_frozen (a : Addr) : Mild p (frozen a) := fun _ => trivial
theorem m_holdsCells (a : Addr) (n : Nat) : Mild p (Builtin.holdsCells a n) := by
  unfold Builtin.holdsCells
  refine mild_bind (fun x => ?_) (fun _ => trivial : Mild p (shape a.block))
  split <;> exact trivial
theorem m_mayShare (size sLen n : Nat) (b : Option Addr) (x : Value) : Mild p (Builtin.mayShare size sLen n b x) := by
  unfold Builtin.mayShare
  have key : ∀ there : Bool, Mild p (if (!there) = true then pure true
      else
        match x with
        | Value.slice (some b_1) _ _ => do
          let __do_lift ← Builtin.holdsCells b_1 (n * size)
          pure (!__do_lift || Option.any (fun x => x.block == b_1.block) b)
        | _ => pure false : Sem Bool) := by
    intro there
    split
    · exact trivial
    · split
      · exact mild_map (m_holdsCells _ _)
      · exact trivial
  dsimp only
  split
  · exact mild_bind (fun y => key y) mild_pure
  · exact mild_bind (fun _ => mild_bind (fun _ => mild_bind (fun y => key y) mild_pure) (m_frozen _)) (m_holdsCells _ _)
end

section
variable {p : Program}
theorem t_lenOf (v : Value) : Tame p Tr (Builtin.lenOf v) := by
  unfold Builtin.lenOf
  split
  · exact trivial
  · exact trivial
  · exact tame_stuck _
theorem t_firstCells (s n : Nat) (v : Value) : Tame p Tr (Builtin.firstCells s n v) := by
  unfold Builtin.firstCells
  split
  · exact t_loadCells _ _
  · exact trivial
  · exact trivial
  · exact tame_stuck _
theorem t_mark : Tame p Tr (mark .noRoom) := ⟨rfl, trivial⟩
theorem t_askRoom (n : Nat) : Tame p Tr (askRoom n) := by
  unfold askRoom
  split
  · exact t_mark
  · exact trivial
end

section
variable {p : Program} {F : Nat → Bool}
theorem tv {α : Type} {K : α → Prop} {f : α → Value} {s : Sem α} (h : Tame p K s) : Tame p (KF F) (s >>= fun a => pure (.value (f a))) := by
  refine tame_bind (fun a _ => ?_) h
  exact trivial
theorem tu {α : Type} {K : α → Prop} {s : Sem α} (h : Tame p K s) : Tame p (KF F) (s >>= fun _ => pure .skip) := by
  refine tame_bind (fun a _ => ?_) h
  exact trivial

theorem t_alloc (e : TypeId) (b : Bool) (v : Value) : Tame p Tr (Instr.alloc e b v) := by
  unfold Instr.alloc
  refine tame_bind (fun z _ => ?_) (t_zeroValue _)
  split
  · exact tame_bind (fun _ _ => tame_pure trivial) (t_storeVar _ _ _)
  · exact tame_map (t_newVar _ _)
theorem t_box (e : TypeId) (v : Value) : Tame p Tr (Instr.box e v) := tame_map (t_newVar _ _)
theorem t_mapM {α β : Type} {f : α → Sem β} (hf : ∀ a, Tame p Tr (f a)) (xs : Array α) : Tame p Tr (xs.mapM f) := by
  rw [Array.mapM_eq_foldlM]
  rw [← Array.foldlM_toList]
  generalize xs.toList = l
  generalize (#[] : Array β) = acc
  induction l generalizing acc with
  | nil => exact trivial
  | cons x l ih =>
    rw [List.foldlM_cons]
    exact tame_bind (fun b _ => ih b) (tame_map (hf x))
theorem t_build (t : TypeId) (parts : Array (Nat × Value)) : Tame p Tr (Instr.build t parts) := by
  unfold Instr.build
  refine tame_bind (fun z _ => tame_bind (fun d _ => ?_) (t_und t)) (t_zeroValue t)
  split
  · refine tame_bind (fun pl _ => ?_) (t_mapM (fun f => tame_map (t_sizeOf _)) _)
    split
    · exact trivial
    · exact tame_stuck _
  · refine tame_bind (fun n _ => ?_) (t_sizeOf _)
    split
    · exact trivial
    · exact tame_stuck _
  · exact tame_stuck _
theorem t_buildSlice (t : TypeId) (n : Nat) (parts : Array (Nat × Value)) : Tame p Tr (Instr.buildSlice t n parts) := by
  unfold Instr.buildSlice
  refine tame_bind (fun d _ => ?_) (t_und t)
  split
  · rename_i elem _
    refine tame_bind (fun sz _ => ?_) (t_sizeOf _)
    dsimp only
    split
    · exact tame_unsup _
    · split
      · refine tame_bind (K := Tr) (fun z _ => ?_) (tame_pure trivial)
        split
        · exact tame_map (t_newRow _ _)
        · exact tame_stuck _
      · refine tame_bind (fun z _ => tame_bind (K := Tr) (fun y _ => ?_) (tame_pure trivial)) (t_zeroValue _)
        split
        · exact tame_map (t_newRow _ _)
        · exact tame_stuck _
  · exact tame_stuck _
end
end Go.Bp

/- Plain operations, on. -/
namespace Go.Bp
open Go Go.Conc

section
variable {p : Program} {F : Nat → Bool}

theorem t_makeSlice (t : TypeId) (l c : Value) : Tame p Tr (Instr.makeSlice t l c) := by
  unfold Instr.makeSlice
  refine tame_bind (fun d _ => ?_) (t_und t)
  split
  · rename_i elem _
    refine tame_bind (fun len _ => tame_bind (fun cap _ => tame_bind (fun ti _ => ?_) (t_typeInfo _)) (t_asInt _)) (t_asInt _)
    dsimp only
    have key : Tame p Tr (do
        askRoom ((IntKind.i64.wrap cap).toNat * ti.bytes)
        let __do_lift ← sizeOf elem
        if (IntKind.i64.wrap cap).toNat * __do_lift = 0 then do
          let zero ← pure #[]
          let a ← newRow elem ((Array.range ((IntKind.i64.wrap cap).toNat * __do_lift)).map (fun x => zero[x % zero.size]!))
          pure (Value.slice (some a) (IntKind.i64.wrap len).toNat (IntKind.i64.wrap cap).toNat)
        else do
          let __do_lift_1 ← zeroValue elem
          let zero ← pure __do_lift_1.cells
          let a ← newRow elem ((Array.range ((IntKind.i64.wrap cap).toNat * __do_lift)).map (fun x => zero[x % zero.size]!))
          pure (Value.slice (some a) (IntKind.i64.wrap len).toNat (IntKind.i64.wrap cap).toNat) : Sem Value) := by
      refine tame_bind (fun _ _ => tame_bind (fun sz _ => ?_) (t_sizeOf _)) (t_askRoom _)
      split
      · exact tame_bind (K := Tr) (fun z _ => tame_map (t_newRow _ _)) (tame_pure trivial)
      · exact tame_bind (fun z _ => tame_bind (K := Tr) (fun y _ => tame_map (t_newRow _ _)) (tame_pure trivial)) (t_zeroValue _)
    split
    · split
      · exact tame_bind (fun _ _ => key) (t_runtimePanic (K := Tr) _)
      · split
        · exact tame_bind (fun _ _ => key) (t_runtimePanic (K := Tr) _)
        · exact tame_bind (fun _ _ => tame_bind (fun _ _ => key) (t_runtimePanic (K := Tr) _)) (tame_choose _)
    · exact key
  · exact tame_stuck _

theorem t_indexAt (t : TypeId) (x i : Value) : Tame p Tr (Instr.indexAt t x i) := by
  unfold Instr.indexAt
  refine tame_bind (fun ki _ => ?_) (t_asIntOf _)
  dsimp only
  refine tame_bind (fun d _ => ?_) (t_und t)
  split
  · refine tame_bind (fun a _ => tame_bind (K := Tr) (fun z _ => tame_bind (fun d2 _ => ?_) (t_und t)) (tame_pure trivial)) (t_sureAddr _)
    split
    · split
      · exact tame_map (t_sizeOf _)
      · split <;>
        · split
          · exact tame_unsup _
          · exact t_boundsPanic _ _ _ _
    · exact t_boundsPanic _ _ _ _
  · refine tame_bind (K := Tr) (fun z _ => tame_bind (fun d2 _ => ?_) (t_und t)) (tame_pure trivial)
    split
    · split
      · exact tame_map (t_sizeOf _)
      · split <;>
        · split
          · exact tame_unsup _
          · exact t_boundsPanic _ _ _ _
    · exact t_boundsPanic _ _ _ _
  · refine tame_bind (K := Tr) (fun z _ => tame_bind (fun d2 _ => ?_) (t_und t)) (tame_stuck _)
    split
    · split
      · exact tame_map (t_sizeOf _)
      · split <;>
        · split
          · exact tame_unsup _
          · exact t_boundsPanic _ _ _ _
    · exact t_boundsPanic _ _ _ _

theorem t_fieldAt (s : TypeId) (x : Value) (f : Nat) : Tame p Tr (Instr.fieldAt s x f) := by
  unfold Instr.fieldAt
  refine tame_bind (fun d _ => ?_) (t_und s)
  split
  · split
    · exact tame_bind (fun a _ => tame_map (t_fieldPlace _ _)) (t_sureAddr _)
    · exact tame_stuck _
  · exact tame_stuck _
theorem t_loadAt (t : TypeId) (x : Value) : Tame p Tr (Instr.loadAt t x) := tame_bind (fun a _ => t_loadVar t a) (t_sureAddr x)
theorem t_storeAt (t : TypeId) (x v : Value) : Tame p Tr (Instr.storeAt t x v) := tame_bind (fun a _ => t_storeVar t a v) (t_sureAddr x)
theorem t_extract (x : Value) (i : Nat) : Tame p Tr (Instr.extract x i) := by
  unfold Instr.extract
  split
  · split
    · exact trivial
    · exact tame_stuck _
  · exact tame_stuck _
theorem t_not (x : Value) : Tame p Tr (Op.unary .not x) := by
  unfold Op.unary
  split <;> first | exact trivial | exact tame_stuck _ | exact tame_unsup _ | skip
  all_goals rename_i h; cases h

theorem t_len (a : Array TypeId) (t : TypeId) (x : Array Value) : Tame p Tr (Builtin.len_ a t x) := by
  unfold Builtin.len_
  split
  · refine tame_bind (fun d _ => ?_) (t_und _)
    split <;> first
      | exact trivial
      | exact tame_stuck _
      | (refine tame_bind (fun d _ => ?_) (t_und _); split; exact trivial; exact tame_stuck _)
      | (refine tame_bind (fun d _ => ?_) (tame_getObj _); split; exact trivial; exact tame_stuck _)
  · exact tame_stuck _
theorem t_copy (a : Array TypeId) (t : TypeId) (x : Array Value) : Tame p Tr (Builtin.copy_ a t x) := by
  unfold Builtin.copy_
  split
  · refine tame_bind (fun d _ => ?_) (t_und _)
    split
    · split
      · refine tame_bind (fun n _ => tame_bind (fun sz _ => tame_bind (fun cs _ => ?_) (t_firstCells _ _ _)) (t_sizeOf _)) (t_lenOf _)
        dsimp only
        split
        · exact tame_bind (fun _ _ => tame_pure trivial) (t_storeCells _ _ _)
        · exact trivial
      · exact tame_stuck _
    · exact tame_stuck _
  · exact tame_stuck _

theorem t_min2 (x y : Value) : Tame p Tr (Builtin.min2 x y) := by
  unfold Builtin.min2
  split
  · exact trivial
  · split
    · exact tame_map (tame_choose _)
    · exact trivial
    · exact trivial
    · exact trivial
  · refine tame_bind (K := Tr) (fun v _ => tame_map (t_asBool _)) ?_
    unfold Op.stringOp
    split <;> first | exact trivial | exact tame_stuck _ | (split <;> first | exact trivial | exact tame_stuck _ | exact tame_unsup _) | exact tame_unsup _
  · exact tame_unsup _
  · exact tame_unsup _
  · exact tame_stuck _
theorem t_foldlM {α β : Type} {f : β → α → Sem β} (hf : ∀ b a, Tame p Tr (f b a)) : ∀ (l : List α) (b : β), Tame p Tr (l.foldlM f b)
  | [], _ => trivial
  | x :: l, b => by rw [List.foldlM_cons]; exact tame_bind (fun c _ => t_foldlM hf l c) (hf b x)
theorem t_min (a : Array TypeId) (t : TypeId) (x : Array Value) : Tame p Tr (Builtin.min_ a t x) := by
  unfold Builtin.min_
  split
  · exact tame_stuck _
  · exact t_foldlM (fun b a => t_min2 b a) _ _

/-! ### binary operations at integers and booleans -/
theorem t_eqGuard (op : BinOp) {t : TypeId} (ht : (∃ k, p.underlying t = some (.int k)) ∨ p.underlying t = some .bool) (x y : Operand) (a b : Value) : Tame p Tr (eqGuard op t x y a b) := by
  have hg : ∀ (d : Nat) (a b : Value), Tame p (fun z => z = false) (Op.eqGuardIn (d + 1) t a b) := by
    intro d a b
    unfold Op.eqGuardIn
    refine tame_bind (fun z hz => ?_) (t_underlying t)
    rcases ht with ⟨k, h⟩ | h <;>
    · rw [h] at hz
      cases hz
      exact rfl
  have hT : Program.eqGuardType p p.depth t = false ∨ p.depth = 0 := by
    unfold Program.depth
    left
    show Program.eqGuardType p (2 * (p.types.size + Made.depth) + 1 + 1) t = false
    unfold Program.eqGuardType
    rcases ht with ⟨k, h⟩ | h <;> rw [h]
  have hg2 : ∀ a b : Value, Tame p (fun z => z = false) (Op.eqGuardIn Op.maxDepth t a b) := fun a b => hg 9999 a b
  have fin : ∀ (a b : Value) (u : Unsupported), Tame p Tr (do let z ← Op.eqGuardIn Op.maxDepth t a b; if z = true then unsupported u else pure () : Sem Unit) := fun a b u => by
    refine tame_bind (fun z hz => ?_) (hg2 a b)
    subst hz
    exact trivial
  unfold eqGuard
  cases op <;> first
    | exact trivial
    | (rw [if_neg (by decide)]
       split
       · cases x <;> cases y <;> first | exact trivial | exact fin _ _ _
       · refine tame_bind (fun q hq => tame_bind (fun q' hq' => ?_) tame_program) tame_program
         split
         · exact trivial
         · exact fin _ _ _
       · exact trivial)

theorem t_floatArith (op : BinOp) (k : FloatKind) (x y : Nat) : Tame p Tr (Op.floatArith op k x y) := by
  unfold Op.floatArith
  have fin : ∀ r : Option Nat, Tame p Tr (match r with | some r => pure (.float k r) | none => (do pure (.float k (← choose (.nanBits k x y))) : Sem Value)) := by
    intro r
    split
    · exact trivial
    · exact tame_map (tame_choose _)
  dsimp only
  split <;> first
    | exact tame_bind (K := Tr) (fun r _ => fin r) (tame_pure trivial)
    | exact tame_bind (K := Tr) (fun r _ => fin r) (tame_stuck _)
theorem t_floatCmp (op : BinOp) (k : FloatKind) (x y : Nat) : Tame p Tr (Op.floatCmp op k x y) := by
  unfold Op.floatCmp
  dsimp only
  split <;> first | exact trivial | exact tame_stuck _
theorem t_intArith (op : BinOp) (k : IntKind) (x y : Int) : Tame p Tr (Op.intArith op k x y) := by
  unfold Op.intArith
  split <;> first | exact trivial | exact tame_stuck _
theorem t_intDiv (op : BinOp) (k : IntKind) (x y : Int) : Tame p Tr (Op.intDiv op k x y) := by
  unfold Op.intDiv
  split
  · exact t_runtimePanic _
  · split <;> first | exact trivial | exact tame_stuck _
theorem t_intCmp (op : BinOp) (x y : Int) : Tame p Tr (Op.intCmp op x y) := by
  unfold Op.intCmp
  split <;> first | exact trivial | exact tame_stuck _
theorem t_stringOp (op : BinOp) (x y : ByteArray) : Tame p Tr (Op.stringOp op x y) := by
  unfold Op.stringOp
  dsimp only
  split <;> first | exact trivial | exact tame_stuck _ | (split <;> first | exact trivial | exact tame_unsup _)
theorem t_arith (op : BinOp) (k : FloatKind) (x y : Nat) : Tame p Tr (Op.Complex.arith op k x y) := by
  unfold Op.Complex.arith
  refine tame_bind (fun v _ => ?_) (t_floatArith _ _ _ _)
  split
  · exact trivial
  · exact tame_stuck _
theorem t_cmp (op : BinOp) (k : FloatKind) (x y : Nat) : Tame p Tr (Op.Complex.cmp op k x y) := tame_bind (fun v _ => t_asBool v) (t_floatCmp _ _ _ _)

def okBin : BinOp → Bool
  | .add | .sub | .eql | .neq | .lss | .leq | .gtr | .geq | .rem => true
  | _ => false

theorem t_complexOp {op : BinOp} (h : okBin op = true) (k : FloatKind) (a b c d : Nat) : Tame p Tr (Op.complexOp op k a b c d) := by
  unfold Op.complexOp
  cases op <;> first
    | exact absurd h (by decide)
    | exact tame_stuck _
    | exact tame_bind (fun _ _ => tame_map (t_arith _ _ _ _)) (t_arith _ _ _ _)
    | exact tame_bind (fun _ _ => tame_map (t_cmp _ _ _ _)) (t_cmp _ _ _ _)

theorem add_hid (a : Addr) (e : TypeId) (n : Int) (hn : ¬ n < 0) : cellAtBytes p p.depth e (0 / p.cellsOf e) a.off n = none := by
  unfold cellAtBytes
  simp only [Nat.zero_div, Nat.zero_mul]
  split
  · rfl
  · simp only [Option.bind_eq_bind]
    cases byteOfCell p p.depth e (a.off % p.cellsOf e) with
    | none => rfl
    | some h =>
      refine if_pos ?_
      have : (0 : Int) ≤ Int.ofNat (a.off / p.cellsOf e * p.bytesOf e + h) := Int.natCast_nonneg _
      simp only [Bool.or_eq_true, decide_eq_true_eq]
      right
      show (0 : Int) ≤ _
      omega

theorem t_moved (a : Array TypeId) (t : TypeId) (x y : Value) : Tame p Tr (Builtin.unsafeAdd_ a t #[x, y]) := by
  unfold Builtin.unsafeAdd_
  cases x <;> first | exact tame_stuck _ | skip
  rename_i ptr
  refine tame_bind (fun n _ => ?_) (t_asInt _)
  dsimp only
  split
  · cases ptr with
    | none => exact tame_unsup _
    | some a =>
      refine tame_bind (fun v _ => ?_) (t_viewAt _)
      split
      · exact tame_unsup _
      · exact trivial
  · split
    · exact tame_unsup _
    · rename_i hn
      cases ptr with
      | none => exact tame_unsup _
      | some a =>
        refine .inr ⟨.inr fun e => ?_, fun s => ?_⟩
        · show Dead p (match cellAtBytes p p.depth e (0 / p.cellsOf e) a.off n with | some off => _ | none => _)
          rw [add_hid a e n hn]
          exact .inr (.inl ⟨_, rfl⟩)
        · cases s with
          | none => exact tame_unsup _
          | some x =>
            show Tame p Tr (match cellAtBytes p p.depth x.1 (x.2 / p.cellsOf x.1) a.off n with | some off => _ | none => _)
            split
            · exact trivial
            · exact tame_unsup _

theorem t_movedNumber (t : TypeId) (x y : Value) : Tame p Tr (movedNumber t x y) := by
  unfold movedNumber
  refine tame_bind (fun d _ => ?_) (t_und t)
  dsimp only
  split
  · exact tame_unsup _
  · rw [if_neg (by decide)]
    split
    · refine tame_bind (fun al _ => tame_bind (fun v _ => ?_) (t_moved _ _ _ _)) (t_behindNumber _)
      split
      · exact tame_map (tame_new _)
      · exact trivial
    · exact t_moved _ _ _ _
theorem t_movedPointer (t : TypeId) (x y : Value) : Tame p Tr (movedPointer t x y) := by
  unfold movedPointer
  dsimp only
  split
  · refine tame_bind (fun v _ => ?_) (t_numberAt _)
    split
    · exact tame_unsup _
    · exact t_moved _ _ _ _
  · exact t_moved _ _ _ _
theorem t_twoPlaces (a b : Addr) : Tame p Tr (Op.twoPlaces a b) := by
  unfold Op.twoPlaces
  refine tame_bind (fun q _ => ?_) tame_program
  dsimp only
  split
  · exact tame_unsup _
  · exact tame_bind (fun _ _ => tame_map (t_byteOf _)) (t_byteOf _)
theorem t_addrSub (k : IntKind) (a b : Addr) : Tame p Tr (Op.addrSub k a b) := tame_map (t_twoPlaces a b)
theorem t_addrCmp (op : BinOp) (a b : Addr) : Tame p Tr (Op.addrCmp op a b) := by
  unfold Op.addrCmp
  refine tame_bind (fun q _ => ?_) (t_twoPlaces a b)
  dsimp only
  split <;> first | exact trivial | exact tame_unsup _
theorem t_addrMod (k : IntKind) (a : Addr) (n : Int) : Tame p Tr (Op.addrMod k a n) := by
  unfold Op.addrMod
  refine .inr ⟨.inl fun e n n' => rfl, fun s => ?_⟩
  cases s with
  | none => exact tame_unsup _
  | some x =>
    refine tame_bind (K := fun z => z = some x) (fun z hz => ?_) rfl
    subst hz
    refine tame_bind (fun ti _ => ?_) (t_typeInfo _)
    dsimp only
    split
    · exact tame_unsup _
    · exact tame_map (t_byteOf _)
theorem t_equal {t : TypeId} (ht : (∃ k, p.underlying t = some (.int k)) ∨ p.underlying t = some .bool) (x y : Value) : Tame p Tr (Op.equal t x y) := by
  unfold Op.equal
  show Tame p Tr (Op.equalIn (9999 + 1) t x y)
  unfold Op.equalIn
  refine tame_bind (fun z hz => ?_) (t_underlying t)
  rcases ht with ⟨k, h⟩ | h <;> rw [h] at hz <;> cases hz
  · split <;> first
      | exact trivial
      | exact tame_stuck _
      | exact tame_unsup _
      | (split <;> first | exact trivial | exact tame_stuck _)
      | skip
    all_goals first
      | (rename_i h; cases h)
      | skip
    refine tame_bind (fun a _ => tame_bind (fun b _ => ?_) (t_behindNumber _)) (t_behindNumber _)
    dsimp only
    refine tame_bind (fun q _ => ?_) tame_program
    split
    · exact tame_bind (fun _ _ => tame_map (t_byteOf _)) (t_byteOf _)
    · refine tame_bind (fun ti _ => ?_) (t_typeInfo _)
      split
      · split
        · exact trivial
        · exact tame_unsup _
      · exact tame_unsup _
  · split <;> first
      | exact trivial
      | exact tame_stuck _
      | exact tame_unsup _
      | skip
    all_goals first
      | (rename_i h; cases h)
      | skip
end
end Go.Bp

/- Plain operations: the check, and what it says. -/
namespace Go.Bp
open Go Go.Conc

section
variable {p : Program} {F : Nat → Bool}

theorem t_binOp {op : BinOp} (h : okBin op = true) {t : TypeId} (ht : (∃ k, p.underlying t = some (.int k)) ∨ p.underlying t = some .bool) (x y : Value) : Tame p Tr (binOp op t x y) := by
  unfold binOp
  split <;> first
    | exact absurd h (by decide)
    | exact t_stringOp _ _ _
    | exact tame_stuck _
    | exact tame_unsup _
    | exact tame_map (t_equal ht _ _)
    | exact t_movedNumber _ _ _
    | (split <;> first | exact tame_stuck _ | exact t_complexOp h _ _ _ _ _ | (cases op <;> first | exact absurd h (by decide) | exact t_intArith _ _ _ _ | exact t_intDiv _ _ _ _ | exact t_intCmp _ _ _ | exact t_floatArith _ _ _ _ | exact t_floatCmp _ _ _ _))
    | exact tame_bind (fun a _ => tame_bind (fun b _ => t_addrCmp _ _ _) (t_behindNumber _)) (t_behindNumber _)
    | exact tame_bind (fun a _ => tame_bind (fun b _ => t_addrSub _ _ _) (t_behindNumber _)) (t_behindNumber _)
    | exact tame_bind (fun a _ => t_addrMod _ _ _) (t_behindNumber _)
    | (refine tame_bind (fun d _ => ?_) (t_und _); cases d <;> first | exact t_movedPointer _ _ _ | exact t_movedNumber _ _ _)

theorem t_followBlind : ∀ (l : List FieldStep) (t : TypeId) (x : Option Value), Tame p Tr (followBlind l t x)
  | [], _, _ => trivial
  | s :: rest, t, x => by
    unfold followBlind
    refine tame_bind (fun d _ => ?_) (t_und _)
    split
    · split
      · split <;> first
          | exact trivial
          | exact tame_stuck _
          | exact t_followBlind rest _ _
          | exact tame_bind (fun v _ => t_followBlind rest _ _) (t_part _ _ _)
      · exact tame_stuck _
    · exact tame_stuck _
theorem t_nilAhead : ∀ (n : Nat) (t : TypeId) (v : Value) (s : String), Tame p Tr (nilAhead n t v s)
  | 0, _, _, _ => trivial
  | n + 1, t, v, s => by
    unfold nilAhead
    refine tame_bind (fun ti _ => ?_) (t_typeInfo _)
    split
    · refine tame_bind (fun r _ => ?_) (t_followBlind _ _ _)
      split
      · exact trivial
      · split <;> first
          | exact trivial
          | exact tame_stuck _
          | exact t_nilAhead n _ _ _
          | (refine tame_bind (fun d _ => ?_) (t_und _); split <;> exact trivial)
    · exact tame_stuck _

theorem plain_nilCheck (x : Operand) (a : Act) (o : Oper) (ho : o.op = .nilCheck x) : Tame p (KF F) (execOp a.eval o) := by
  unfold execOp
  rw [ho]
  dsimp only
  split
  · exact t_runtimePanic _
  · exact t_runtimePanic _
  · exact t_runtimePanic _
  · split
    · exact t_runtimePanic _
    · refine tame_bind (fun q _ => tame_bind (fun b _ => ?_) (t_nilAhead _ _ _ _)) tame_program
      split
      · exact tame_unsup _
      · exact trivial
    · exact trivial
  · exact trivial

/-- A lemma whose subject is found at its use. -/
theorem absorb {α : Type} {G : Prop} {S : Nat → Bool → Sem α} (main : (∀ n z, Tame p Tr (S n z)) → G) (side : ∀ n z, Tame p Tr (S n z)) : G := main side
theorem absorb0 {α : Type} {G : Prop} {S : Sem α} (main : Tame p Tr S → G) (side : Tame p Tr S) : G := main side

theorem t_share {size sLen n : Nat} {base : Option Addr} {x : Value} {k : Bool → Sem Unit} (hk : ∀ b, Dead p (k b)) (ht : ∀ b, Tame p Tr (k b)) : Tame p Tr (Builtin.mayShare size sLen n base x >>= k) := by
  have hd : Dead p (Builtin.mayShare size sLen n base x >>= k) := dead_then hk (m_mayShare _ _ _ _ _)
  -- the first thing asked is a shape, or nothing
  unfold Builtin.mayShare at hd ⊢
  dsimp only at hd ⊢
  cases base with
  | none =>
    cases x with
    | slice b l c =>
      cases b with
      | some b => exact .inl hd
      | none => exact tame_bind (K := Tr) (fun b _ => ht b) (tame_bind (K := Tr) (fun _ _ => by split <;> exact tame_pure trivial) (tame_pure trivial))
    | _ => exact tame_bind (K := Tr) (fun b _ => ht b) (tame_bind (K := Tr) (fun _ _ => by split <;> exact tame_pure trivial) (tame_pure trivial))
  | some a => exact .inl hd

theorem tame_ite {α : Type} {K : α → Prop} {c : Prop} [Decidable c] {x y : Sem α} (h1 : c → Tame p K x) (h2 : ¬ c → Tame p K y) : Tame p K (if c then x else y) := by
  by_cases h : c
  · rw [if_pos h]; exact h1 h
  · rw [if_neg h]; exact h2 h
theorem t_append (a : Array TypeId) (t : TypeId) (x : Array Value) : Tame p Tr (Builtin.append_ a t x) := by
  unfold Builtin.append_
  split
  · rename_i sType s xv _
    refine tame_bind (fun d _ => ?_) (t_und _)
    split
    · rename_i elem _
      split
      · rename_i base sLen sCap _
        refine tame_bind (fun size _ => ?_) (t_sizeOf _)
        dsimp only
        apply absorb (α := Value)
        · intro h3
          generalize a[1]? = a1
          cases a1 with
          | some xType =>
            refine tame_bind (fun d _ => tame_bind (K := Tr) (fun zeros _ => ?_) (tame_pure trivial)) (t_und _)
            refine tame_ite (fun _ => ?_) (fun _ => ?_)
            · refine tame_bind (fun i _ => ?_) (t_asInt _)
              refine tame_ite (fun _ => ?_) (fun _ => ?_)
              · refine tame_bind (fun _ _ => ?_) (t_runtimePanic (K := Tr) _)
                refine tame_bind (fun ti _ => ?_) (t_typeInfo _)
                refine tame_ite (fun _ => ?_) (fun _ => ?_)
                · exact tame_bind (fun _ _ => tame_bind (fun _ _ => tame_bind (K := Tr) (fun n _ => h3 n zeros) (tame_pure trivial)) (t_runtimePanic (K := Tr) _)) (tame_choose _)
                · exact tame_bind (K := Tr) (fun n _ => h3 n zeros) (tame_pure trivial)
              · refine tame_bind (fun ti _ => ?_) (t_typeInfo _)
                refine tame_ite (fun _ => ?_) (fun _ => ?_)
                · exact tame_bind (fun _ _ => tame_bind (fun _ _ => tame_bind (K := Tr) (fun n _ => h3 n zeros) (tame_pure trivial)) (t_runtimePanic (K := Tr) _)) (tame_choose _)
                · exact tame_bind (K := Tr) (fun n _ => h3 n zeros) (tame_pure trivial)
            · exact tame_bind (fun n _ => h3 n zeros) (t_lenOf _)
          | none =>
            refine tame_bind (K := Tr) (fun zeros _ => ?_) (tame_pure trivial)
            refine tame_ite (fun _ => ?_) (fun _ => ?_)
            · refine tame_bind (fun i _ => ?_) (t_asInt _)
              refine tame_ite (fun _ => ?_) (fun _ => ?_)
              · refine tame_bind (fun _ _ => ?_) (t_runtimePanic (K := Tr) _)
                refine tame_bind (fun ti _ => ?_) (t_typeInfo _)
                refine tame_ite (fun _ => ?_) (fun _ => ?_)
                · exact tame_bind (fun _ _ => tame_bind (fun _ _ => tame_bind (K := Tr) (fun n _ => h3 n zeros) (tame_pure trivial)) (t_runtimePanic (K := Tr) _)) (tame_choose _)
                · exact tame_bind (K := Tr) (fun n _ => h3 n zeros) (tame_pure trivial)
              · refine tame_bind (fun ti _ => ?_) (t_typeInfo _)
                refine tame_ite (fun _ => ?_) (fun _ => ?_)
                · exact tame_bind (fun _ _ => tame_bind (fun _ _ => tame_bind (K := Tr) (fun n _ => h3 n zeros) (tame_pure trivial)) (t_runtimePanic (K := Tr) _)) (tame_choose _)
                · exact tame_bind (K := Tr) (fun n _ => h3 n zeros) (tame_pure trivial)
            · exact tame_bind (fun n _ => h3 n zeros) (t_lenOf _)
        · intro n zeros
          apply absorb0 (α := Array Value)
          · intro ha
            apply absorb0 (α := Value)
            · intro ht
              apply absorb0 (α := Value)
              · intro h2
                refine tame_ite (fun _ => ?_) (fun _ => ?_)
                · refine tame_bind (fun new _ => ?_) ha
                  split
                  · exact tame_bind (fun _ _ => tame_pure trivial) (t_storeCells _ _ _)
                  · exact trivial
                · refine tame_bind (fun ti _ => ?_) (t_typeInfo _)
                  refine tame_ite (fun _ => ?_) (fun _ => ?_)
                  · exact tame_bind (fun _ _ => h2) (t_runtimePanic (K := Tr) _)
                  · exact h2
              · refine tame_bind (fun ti _ => ?_) (t_typeInfo _)
                refine tame_ite (fun _ => ?_) (fun _ => ?_)
                · refine tame_bind (K := Tr) (fun _ _ => ht) ?_
                  refine tame_ite (fun _ => ?_) (fun _ => ?_)
                  · exact t_runtimePanic _
                  · refine t_share (fun b => ?_) (fun b => ?_)
                    · split
                      · exact .inr (.inl ⟨_, rfl⟩)
                      · exact .inr (.inl ⟨_, rfl⟩)
                    · split
                      · exact tame_bind (fun _ _ => tame_unsup _) t_mark
                      · exact tame_unsup _
                · exact ht
            · refine tame_bind (fun nc _ => tame_bind (fun ti _ => tame_bind (fun _ _ => tame_bind (fun old _ => tame_bind (fun new _ => tame_bind (fun z _ => ?_) (t_zeroValue _)) ha) (t_firstCells _ _ _)) (t_askRoom _)) (t_typeInfo _)) (tame_choose _)
              exact tame_map (t_newRow _ _)
          · refine tame_ite (fun _ => ?_) (fun _ => ?_)
            · exact t_firstCells _ _ _
            · refine tame_ite (fun _ => ?_) (fun _ => ?_)
              · exact trivial
              · exact tame_map (t_zeroValue _)
      · exact tame_stuck _
    · exact tame_stuck _
  · exact tame_stuck _

/-! ### the check -/

def okB (F U : Nat → Bool) (o : Oper) : Bool :=
  match o.op with
  | .move _ | .assign _ | .pick .. | .alloc _ | .box .. | .build .. | .buildSlice .. | .load .. | .store .. | .nilCheck _ | .makeSlice .. | .fieldAddr .. | .indexAddr .. | .extract .. => true
  | .unOp .not _ _ => true
  | .binOp op t _ _ _ => okBin op && U t
  | .call c => match c.callee with
    | .builtin .append | .builtin .copy | .builtin .len | .builtin .min => true
    | .value (.func f) => F f
    | _ => false
  | _ => false

theorem plain_of {P : Program} {F U : Nat → Bool} (hU : ∀ t, U t = true → (∃ k, P.underlying t = some (.int k)) ∨ P.underlying t = some .bool)
    (hF : ∀ f, F f = true → ∃ fn, P.funcs[f]? = some fn ∧ fn.body.isNone = false ∧ (fn.name == "runtime.NumGoroutine") = false) {o : Oper} (h : okB F U o = true) : PlainOp P F o := by
  intro a
  obtain ⟨dst, op, ty, pos, aft, gd⟩ := o
  cases op with
  | move x => exact trivial
  | assign x => exact trivial
  | pick c x y => exact tv (t_asBool _)
  | alloc e => exact tv (t_alloc _ _ _)
  | box e x => exact tv (t_box _ _)
  | build t ps => exact tv (t_build _ _)
  | buildSlice t n ps => exact tv (t_buildSlice _ _ _)
  | load t x => exact tv (t_loadAt _ _)
  | store t x v => exact tu (t_storeAt _ _ _)
  | nilCheck x => exact plain_nilCheck x a _ rfl
  | binOp op t x y u =>
    simp only [okB, Bool.and_eq_true] at h
    exact tv (tame_bind (fun _ _ => t_binOp h.1 (hU t h.2) _ _) (t_eqGuard op (hU t h.2) x y _ _))
  | unOp op t x =>
    cases op with
    | not => exact tv (t_not _)
    | _ => cases h
  | makeSlice t l c => exact tv (t_makeSlice _ _ _)
  | fieldAddr s x f => exact tv (t_fieldAt _ _ _)
  | indexAddr t x i => exact tv (t_indexAt _ _ _)
  | extract t i => exact tv (t_extract _ _)
  | call c =>
    obtain ⟨cal, args, ats⟩ := c
    cases cal with
    | builtin b =>
      cases b with
      | append => exact tv (t_append _ _ _)
      | copy => exact tv (t_copy _ _ _)
      | len => exact tv (t_len _ _ _)
      | min => exact tv (t_min _ _ _)
      | _ => cases h
    | value x =>
      cases x with
      | func f =>
        obtain ⟨fn, h1, h2, h3⟩ := hF f h
        have e : execOp a.eval { dst := dst, op := .call { callee := .value (.func f), args := args, argTypes := ats }, type := ty, pos := pos, after := aft, guard := gd } = (do
            let d ← Deferred.ofValue (.func (.func f) #[] #[]) (args.map a.eval)
            invoke d.target d.args) := rfl
        rw [e]
        refine tame_bind (K := fun d => d = { target := .fn (.func f) #[], args := #[] ++ args.map a.eval }) (fun d hd => ?_) (by unfold Deferred.ofValue; exact rfl)
        subst hd
        show Tame P (KF F) (callFunc f ((#[] ++ args.map a.eval) ++ #[]))
        unfold callFunc
        refine tame_bind (fun q hq => ?_) tame_program
        subst hq
        rw [h1]
        dsimp only
        rw [h2, h3]
        exact h
      | _ => cases h
    | invoke r n => cases h
  | _ => cases h

def okCB (F U : Nat → Bool) : Code → Bool
  | .skip | .ret | .exit _ => true
  | .seq a b | .cond _ a b => okCB F U a && okCB F U b
  | .block _ c | .loop c => okCB F U c
  | .region _ ops _ => ops.all (okB F U)
  | _ => false

theorem code_of {P : Program} {F U : Nat → Bool} (hU : ∀ t, U t = true → (∃ k, P.underlying t = some (.int k)) ∨ P.underlying t = some .bool)
    (hF : ∀ f, F f = true → ∃ fn, P.funcs[f]? = some fn ∧ fn.body.isNone = false ∧ (fn.name == "runtime.NumGoroutine") = false) : ∀ {c : Code}, okCB F U c = true → okCode P F c := by
  intro c
  induction c with
  | skip => intro _; trivial
  | ret => intro _; trivial
  | exit id => intro _; trivial
  | seq a b iha ihb => intro h; simp only [okCB, Bool.and_eq_true] at h; exact ⟨iha h.1, ihb h.2⟩
  | cond c a b iha ihb => intro h; simp only [okCB, Bool.and_eq_true] at h; exact ⟨iha h.1, ihb h.2⟩
  | block id c ih => intro h; exact ih h
  | loop c ih => intro h; exact ih h
  | region id ops d =>
    intro h o ho
    simp only [okCB, Array.all_eq_true_iff_forall_mem] at h
    exact plain_of hU hF (h o ho)
  | _ => intro h; cases h

theorem t_results (fn : Func) (t : Array Value) : Tame p Tr (results fn t) := by
  unfold results
  refine tame_bind (fun vs _ => tame_pure trivial) (t_mapM (fun x => ?_) _)
  split
  · exact trivial
  · refine tame_bind (K := Tr) (fun a _ => t_loadVar _ _) ?_
    unfold asAddr
    split
    · exact trivial
    · exact t_runtimePanic _
    · exact tame_stuck _
end
end Go.Bp

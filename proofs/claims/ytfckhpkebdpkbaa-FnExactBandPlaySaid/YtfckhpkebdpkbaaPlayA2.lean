/-
  The traces: goroutine 0 beside leavers; beside a worker that is joined.
-/
import Derived.Test.YtfckhpkebdpkbaaPlayA1
import Derived.Conc.FxGenDone
import Derived.Conc.Strewn
import Derived.Conc.BesideWords
import Derived.Listen
namespace Go.Bp
open Go Go.Conc

def SX (X : Nat → Prop) (l : Loc) : Prop := ∃ a : Addr, l = .cell a ∧ X a.block

/-- What goroutine 0 may list: a hidden block's cell it does not touch plainly. -/
def Ev0 (X : Nat → Prop) (e : Event) : Prop := ∀ x, (MemAct.ofEvent e).touch? = some x → SX X x.loc → x.kind ≠ .plain

theorem evX_touch {X : Nat → Prop} {e : Event} (h : EvX X e) {x : Touch} (hx : (MemAct.ofEvent e).touch? = some x) : ¬ SX X x.loc := by
  obtain ⟨loc, wr, sy⟩ := e
  rintro ⟨a, ha, hxa⟩
  cases loc with
  | cell a' =>
    simp only [MemAct.ofEvent, MemAct.touch?, Option.some.injEq] at hx
    subst hx
    cases ha
    exact h.1 a rfl hxa
  | obj r =>
    cases wr <;> cases sy <;> simp [MemAct.ofEvent, MemAct.touch?] at hx <;> subst hx <;> cases ha
  | mark m =>
    have := h.2.2 m rfl
    cases m <;> simp [MemAct.ofEvent, MemAct.touch?] at hx
    · exact (this.2.2 _).1 rfl
    · exact (this.2.2 _).2 rfl
  | _ => simp [MemAct.ofEvent, MemAct.touch?] at hx; subst hx; cases ha

theorem evX_ev0 {X : Nat → Prop} {e : Event} (h : EvX X e) : Ev0 X e := fun _ hx hs => absurd hs (evX_touch h hx)
theorem evX_still {X : Nat → Prop} {e : Event} (h : EvX X e) : e.loc ≠ .mark .disable ∧ e.loc ≠ .mark .enable :=
  ⟨fun e => (h.2.2 _ e).1 rfl, fun e => (h.2.2 _ e).2.1 rfl⟩

structure Ps (X : Nat → Prop) (d : Nat) (t : Trace) : Prop where
  clean : ∀ said, ¬ Race said t
  known : ∀ i a, touchAt t i = some a → a.loc.isMemory = true → Knows t 0 i ∨ (SX X a.loc ∧ a.kind = .atomic)
  over : t.HandedOver
  deaf : Deaf t 0 = d

theorem no_conflict {said : Bool} {a b : Touch} (h : a.conflicts said b) (ha : a.kind = .atomic) (hb : b.kind ≠ .plain) : False := by
  obtain ⟨_, _, _, hk⟩ := h
  rw [ha] at hk
  rcases hk with z | z | ⟨_, z, _⟩
  · cases z
  · exact hb z
  · cases z

theorem Ps.mono {X X' : Nat → Prop} {d : Nat} {t : Trace} (h : Ps X d t) (hX : ∀ k, X k → X' k) : Ps X' d t :=
  ⟨h.clean, fun i a ha hm => (h.known i a ha hm).imp id fun ⟨⟨b, e1, e2⟩, z⟩ => ⟨⟨b, e1, hX _ e2⟩, z⟩, h.over, h.deaf⟩

theorem known_app {t u : Trace} {i : Nat} {a : Touch} (h : touchAt (t ++ u) i = some a) : (i < t.size ∧ touchAt t i = some a) ∨ ∃ op ∈ u, (t ++ u)[i]? = some op ∧ op.act.touch? = some a ∧ t.size ≤ i := by
  obtain ⟨x, hx, hxa⟩ := touch_of h
  rcases getElem?_append_cases hx with ⟨hi, hx'⟩ | ⟨hi, hxu⟩
  · exact .inl ⟨hi, by rw [touchAt_of hx']; exact hxa⟩
  · exact .inr ⟨x, hxu, hx, hxa, hi⟩

theorem Ps.own {X : Nat → Prop} {d : Nat} {t : Trace} (h : Ps X d t) {fn : FuncId} {pos : String} {es : Array Event} (hes : ∀ e ∈ es, Ev0 X e) : Ps X (deafBehind d es) (t ++ MemOp.ofEvents 0 fn pos es) := by
  have hop : ∀ op ∈ MemOp.ofEvents 0 fn pos es, op.g = 0 ∧ ∀ x, op.act.touch? = some x → SX X x.loc → x.kind ≠ .plain := fun op hop => by
    obtain ⟨e, he, rfl⟩ := Go.Conc.mem_ofEvents hop; exact ⟨rfl, hes e he⟩
  refine ⟨fun said => noRace_append (h.clean said) (fun op ho => (hop op ho).1) fun i a ha op ho b hb hc => ?_, fun i a ha hm => ?_, handedOver_app h.over fun op ho => .inl (hop op ho).1, by rw [Deaf_own, h.deaf]⟩
  · rcases h.known i a ha hc.2.1 with hk | ⟨hs, hka⟩
    · exact hk
    · exact (no_conflict hc hka ((hop op ho).2 b hb (hc.1 ▸ hs))).elim
  · rcases known_app ha with ⟨_, ha'⟩ | ⟨op, ho, hx, hxa, _⟩
    · exact (h.known i a ha' hm).imp (·.app _) id
    · have := knows_own hx
      rw [(hop op ho).1] at this
      exact .inl this

theorem Ps.mute {X : Nat → Prop} {d : Nat} {t : Trace} (h : Ps X d t) {γ : Nat} (hγ : γ ≠ 0) {fn : FuncId} {pos : String} {es : Array Event} (hm : ∀ e ∈ es, e.mute = true) : Ps X d (t ++ MemOp.ofEvents γ fn pos es) := by
  have hop : ∀ op ∈ MemOp.ofEvents γ fn pos es, op.g = γ ∧ op.act.touch? = none := fun op hop => by
    obtain ⟨e, he, rfl⟩ := Go.Conc.mem_ofEvents hop; exact ⟨rfl, touch_mute (hm e he)⟩
  refine ⟨fun said => noRace_append (h.clean said) (fun op ho => (hop op ho).1) fun i a ha op ho b hb hc => ?_, fun i a ha hm => ?_, handedOver_app h.over fun op ho => .inr (hop op ho).2, by rw [Deaf_other t hγ _ (fun op ho => (hop op ho).1), h.deaf]⟩
  · rw [(hop op ho).2] at hb; cases hb
  · rcases known_app ha with ⟨_, ha'⟩ | ⟨op, ho, hx, hxa, _⟩
    · exact (h.known i a ha' hm).imp (·.app _) id
    · rw [(hop op ho).2] at hxa; cases hxa

/-! ### beside a worker -/

/-- Worker c is at work. -/
structure Pw (X : Nat → Prop) (c d dc : Nat) (t : Trace) : Prop where
  clean : ∀ said, ¬ Race said t
  known0 : ∀ i a, touchAt t i = some a → a.loc.isMemory = true → Knows t 0 i ∨ (SX X a.loc ∧ a.kind = .atomic) ∨ (t.g? i = some c ∧ ¬ SX X a.loc)
  knownc : ∀ i a, touchAt t i = some a → a.loc.isMemory = true → Knows t c i ∨ (SX X a.loc ∧ a.kind ≠ .plain)
  over : ∀ i g, t.g? i = some g → g ≠ 0 → g ≠ c → t.counts i → ∃ j, t.g? j = some 0 ∧ HappensBefore t i j
  deaf0 : Deaf t 0 = d
  deafc : Deaf t c = dc

theorem gk_old {t u : Trace} {i g : Nat} (h : t.g? i = some g) : (t ++ u).g? i = some g := by rw [g?_old (lt_of_g? h)]; exact h

/-- What goroutine 0 may list beside the worker. -/
def Ev1 (X : Nat → Prop) (e : Event) : Prop := ∀ x, (MemAct.ofEvent e).touch? = some x → SX X x.loc ∧ x.kind ≠ .plain
/-- What the worker may list. -/
def Ev2 (X : Nat → Prop) (e : Event) : Prop := ∀ x, (MemAct.ofEvent e).touch? = some x → SX X x.loc → x.kind = .atomic

theorem evX_ev2 {X : Nat → Prop} {e : Event} (h : EvX X e) : Ev2 X e := fun _ hx hs => absurd hs (evX_touch h hx)

theorem over_app {t u : Trace} {c : Nat} (h : ∀ i g, t.g? i = some g → g ≠ 0 → g ≠ c → t.counts i → ∃ j, t.g? j = some 0 ∧ HappensBefore t i j) (hu : ∀ op ∈ u, op.g = 0 ∨ op.g = c ∨ op.act.touch? = none) :
    ∀ i g, (t ++ u).g? i = some g → g ≠ 0 → g ≠ c → (t ++ u).counts i → ∃ j, (t ++ u).g? j = some 0 ∧ HappensBefore (t ++ u) i j := by
  intro i g hg h0 hc hcn
  obtain ⟨op, hop, rfl⟩ := Option.map_eq_some_iff.1 hg
  rcases getElem?_append_cases hop with ⟨hi, hop'⟩ | ⟨_, hopu⟩
  · obtain ⟨j, hj, hb⟩ := h i op.g (by rw [← g?_old (u := u) hi]; exact hg) h0 hc ((counts_old hi).1 hcn)
    exact ⟨j, gk_old hj, hb_app u hb⟩
  · rcases hu op hopu with e | e | e
    · exact absurd e h0
    · exact absurd e hc
    · obtain ⟨x, hx, _⟩ := id hcn
      have : touchAt (t ++ u) i = some x := hx
      rw [touchAt_of hop, e] at this
      cases this

theorem Pw.own0 {X : Nat → Prop} {c d dc : Nat} {t : Trace} (hc : c ≠ 0) (h : Pw X c d dc t) {fn : FuncId} {pos : String} {es : Array Event} (hes : ∀ e ∈ es, Ev1 X e) : Pw X c (deafBehind d es) dc (t ++ MemOp.ofEvents 0 fn pos es) := by
  have hop : ∀ op ∈ MemOp.ofEvents 0 fn pos es, op.g = 0 ∧ ∀ x, op.act.touch? = some x → SX X x.loc ∧ x.kind ≠ .plain := fun op hop => by
    obtain ⟨e, he, rfl⟩ := Go.Conc.mem_ofEvents hop; exact ⟨rfl, hes e he⟩
  refine ⟨fun said => noRace_append (h.clean said) (fun op ho => (hop op ho).1) fun i a ha op ho b hb hcf => ?_, fun i a ha hm => ?_, fun i a ha hm => ?_, over_app h.over fun op ho => .inl (hop op ho).1,
    by rw [Deaf_own, h.deaf0], by rw [Deaf_other t (Ne.symm hc) _ (fun op ho => (hop op ho).1), h.deafc]⟩
  · obtain ⟨h1, h2⟩ := (hop op ho).2 b hb
    rcases h.known0 i a ha hcf.2.1 with hk | ⟨hs, hka⟩ | ⟨_, hn⟩
    · exact hk
    · exact (no_conflict hcf hka h2).elim
    · exact absurd (hcf.1 ▸ h1) hn
  · rcases known_app ha with ⟨hi, ha'⟩ | ⟨op, ho, hx, hxa, _⟩
    · rcases h.known0 i a ha' hm with hk | hk | ⟨hk, hn⟩
      · exact .inl (hk.app _)
      · exact .inr (.inl hk)
      · exact .inr (.inr ⟨gk_old hk, hn⟩)
    · have := knows_own hx
      rw [(hop op ho).1] at this
      exact .inl this
  · rcases known_app ha with ⟨hi, ha'⟩ | ⟨op, ho, hx, hxa, _⟩
    · exact (h.knownc i a ha' hm).imp (·.app _) id
    · exact .inr ((hop op ho).2 a hxa)

theorem no_conflict2 {said : Bool} {a b : Touch} (h : a.conflicts said b) (ha : a.kind ≠ .plain) (hb : b.kind = .atomic) : False := by
  obtain ⟨_, _, _, hk⟩ := h
  rw [hb] at hk
  rcases hk with z | z | ⟨_, _, z⟩
  · exact ha z
  · cases z
  · cases z

theorem Pw.ownc {X : Nat → Prop} {c d dc : Nat} {t : Trace} (hc : c ≠ 0) (h : Pw X c d dc t) {fn : FuncId} {pos : String} {es : Array Event} (hes : ∀ e ∈ es, Ev2 X e) : Pw X c d (deafBehind dc es) (t ++ MemOp.ofEvents c fn pos es) := by
  have hop : ∀ op ∈ MemOp.ofEvents c fn pos es, op.g = c ∧ ∀ x, op.act.touch? = some x → SX X x.loc → x.kind = .atomic := fun op hop => by
    obtain ⟨e, he, rfl⟩ := Go.Conc.mem_ofEvents hop; exact ⟨rfl, hes e he⟩
  refine ⟨fun said => noRace_append (h.clean said) (fun op ho => (hop op ho).1) fun i a ha op ho b hb hcf => ?_, fun i a ha hm => ?_, fun i a ha hm => ?_, over_app h.over fun op ho => .inr (.inl (hop op ho).1),
    by rw [Deaf_other t hc _ (fun op ho => (hop op ho).1), h.deaf0], by rw [Deaf_own, h.deafc]⟩
  · rcases h.knownc i a ha hcf.2.1 with hk | ⟨hs, hka⟩
    · exact hk
    · exact (no_conflict2 hcf hka ((hop op ho).2 b hb (hcf.1 ▸ hs))).elim
  · rcases known_app ha with ⟨hi, ha'⟩ | ⟨op, ho, hx, hxa, _⟩
    · rcases h.known0 i a ha' hm with hk | hk | ⟨hk, hn⟩
      · exact .inl (hk.app _)
      · exact .inr (.inl hk)
      · exact .inr (.inr ⟨gk_old hk, hn⟩)
    · by_cases hs : SX X a.loc
      · exact .inr (.inl ⟨hs, (hop op ho).2 a hxa hs⟩)
      · exact .inr (.inr ⟨by simp [Trace.g?, hx, (hop op ho).1], hs⟩)
  · rcases known_app ha with ⟨hi, ha'⟩ | ⟨op, ho, hx, hxa, _⟩
    · exact (h.knownc i a ha' hm).imp (·.app _) id
    · have := knows_own hx
      rw [(hop op ho).1] at this
      exact .inl this

theorem Pw.mute {X : Nat → Prop} {c d dc : Nat} {t : Trace} (h : Pw X c d dc t) {γ : Nat} (hγ : γ ≠ 0) (hγc : γ ≠ c) {fn : FuncId} {pos : String} {es : Array Event} (hm : ∀ e ∈ es, e.mute = true) : Pw X c d dc (t ++ MemOp.ofEvents γ fn pos es) := by
  have hop : ∀ op ∈ MemOp.ofEvents γ fn pos es, op.g = γ ∧ op.act.touch? = none := fun op hop => by
    obtain ⟨e, he, rfl⟩ := Go.Conc.mem_ofEvents hop; exact ⟨rfl, touch_mute (hm e he)⟩
  have old : ∀ i a, touchAt (t ++ MemOp.ofEvents γ fn pos es) i = some a → i < t.size ∧ touchAt t i = some a := fun i a ha => by
    rcases known_app ha with h | ⟨op, ho, _, hxa, _⟩
    · exact h
    · rw [(hop op ho).2] at hxa; cases hxa
  refine ⟨fun said => noRace_append (h.clean said) (fun op ho => (hop op ho).1) fun i a ha op ho b hb hcf => ?_, fun i a ha hm => ?_, fun i a ha hm => ?_, over_app h.over fun op ho => .inr (.inr (hop op ho).2),
    by rw [Deaf_other t hγ _ (fun op ho => (hop op ho).1), h.deaf0], by rw [Deaf_other t hγc _ (fun op ho => (hop op ho).1), h.deafc]⟩
  · rw [(hop op ho).2] at hb; cases hb
  · rcases h.known0 i a (old i a ha).2 hm with hk | hk | ⟨hk, hn⟩
    · exact .inl (hk.app _)
    · exact .inr (.inl hk)
    · exact .inr (.inr ⟨gk_old hk, hn⟩)
  · exact (h.knownc i a (old i a ha).2 hm).imp (·.app _) id

/-- THE go STATEMENT. -/
theorem Ps.fork {X : Nat → Prop} {t : Trace} (h : Ps X 0 t) {c : Nat} (_hc : c ≠ 0) (hdc : Deaf t c = 0) {fn fn' : FuncId} {pos pos' : String} :
    Pw X c 0 0 (t ++ #[{ g := 0, fn, pos, act := .go c }, { g := c, fn := fn', pos := pos', act := .start }]) := by
  have g0 : (t ++ #[{ g := 0, fn, pos, act := .go c }, { g := c, fn := fn', pos := pos', act := .start }])[t.size]? = some { g := 0, fn, pos, act := .go c } := by simp
  have g1 : (t ++ #[{ g := 0, fn, pos, act := .go c }, { g := c, fn := fn', pos := pos', act := .start }])[t.size + 1]? = some { g := c, fn := fn', pos := pos', act := .start } := by simp
  have e1 : ∀ a b : MemOp, t ++ #[a, b] = (t ++ #[a]) ++ #[b] := fun a b => by apply Array.ext'; simp
  have dd0 : Deaf (t ++ #[{ g := 0, fn, pos, act := .go c }, { g := c, fn := fn', pos := pos', act := .start }]) 0 = 0 := by
    rw [e1, Deaf_push, Deaf_push, h.deaf]; rfl
  have ddc : Deaf (t ++ #[{ g := 0, fn, pos, act := .go c }, { g := c, fn := fn', pos := pos', act := .start }]) c = 0 := by
    rw [e1, Deaf_push, Deaf_push, hdc]; rfl
  have old : ∀ i a, touchAt (t ++ #[{ g := 0, fn, pos, act := .go c }, { g := c, fn := fn', pos := pos', act := .start }]) i = some a → i < t.size ∧ touchAt t i = some a := fun i a ha => by
    rcases known_app ha with h | ⟨op, ho, _, hxa, _⟩
    · exact h
    · simp at ho
      rcases ho with rfl | rfl <;> cases hxa
  have edge : HappensBefore (t ++ #[{ g := 0, fn, pos, act := .go c }, { g := c, fn := fn', pos := pos', act := .start }]) t.size (t.size + 1) := by
    have q0 : (t ++ #[({ g := 0, fn, pos, act := .go c } : MemOp), ({ g := c, fn := fn', pos := pos', act := .start } : MemOp)]).g? t.size = some 0 := by simp only [Trace.g?, g0, Option.map_some]
    have q1 : (t ++ #[({ g := 0, fn, pos, act := .go c } : MemOp), ({ g := c, fn := fn', pos := pos', act := .start } : MemOp)]).g? (t.size + 1) = some c := by simp only [Trace.g?, g1, Option.map_some]
    refine .single (.inr ⟨.spawn (child := c) (by rw [act?_of g0]) (by rw [act?_of g1]) q1, ⟨0, q0, ?_⟩, ⟨c, q1, ?_⟩⟩)
    · rw [deaf_old (Nat.le_refl _)]; exact h.deaf
    · have : (t ++ #[({ g := 0, fn, pos, act := .go c } : MemOp), ({ g := c, fn := fn', pos := pos', act := .start } : MemOp)]).deaf c (t.size + 1) = Deaf (t ++ #[({ g := 0, fn, pos, act := .go c } : MemOp)]) c := by
        rw [e1, show t.size + 1 = (t ++ #[({ g := 0, fn, pos, act := .go c } : MemOp)]).size by simp, deaf_old (Nat.le_refl _)]; rfl
      rw [this, Deaf_push, hdc]; rfl
  refine ⟨fun said => ?_, fun i a ha hm => ?_, fun i a ha hm => ?_, over_app (fun i g hg h0 _ hcn => h.over i g hg h0 hcn) (fun op ho => ?_), dd0, ddc⟩
  · rintro ⟨i, j, hij, ⟨a, b, ha, hb, hcf⟩, n1, n2⟩
    obtain ⟨hi, ha'⟩ := old i a ha
    obtain ⟨hj, hb'⟩ := old j b hb
    exact h.clean said ⟨i, j, hij, ⟨a, b, ha', hb', hcf⟩, fun e => n1 (hb_app _ e), fun e => n2 (hb_app _ e)⟩
  · rcases h.known i a (old i a ha).2 hm with hk | hk
    · exact .inl (hk.app _)
    · exact .inr (.inl hk)
  · rcases h.known i a (old i a ha).2 hm with hk | hk
    · have h1 := hk.hb_new (u := #[({ g := 0, fn, pos, act := .go c } : MemOp), ({ g := c, fn := fn', pos := pos', act := .start } : MemOp)]) (Nat.le_refl _) g0 rfl
      exact .inl ⟨t.size + 1, _, g1, rfl, .inr (h1.trans edge)⟩
    · exact .inr ⟨hk.1, by rw [hk.2]; simp⟩
  · simp at ho
    rcases ho with rfl | rfl
    · exact .inl rfl
    · exact .inr (.inl rfl)

/-- The worker has said its release, at r. -/
structure Rl (X : Nat → Prop) (Wg c r : Nat) (t : Trace) : Prop where
  act : t.act? r = some (.mark (.releaseMerge (ConcX.stA Wg)))
  g : t.g? r = some c
  heard : t.heard r
  bef : ∀ i a, touchAt t i = some a → t.g? i = some c → Before t i r ∨ (SX X a.loc ∧ a.kind = .atomic ∧ ¬ t.heard i)
  norel : ∀ k, r < k → t.act? k ≠ some (.mark (.release (ConcX.stA Wg)))

theorem Rl.lt {X : Nat → Prop} {Wg c r : Nat} {t : Trace} (h : Rl X Wg c r t) : r < t.size := lt_of_act? h.act

theorem Rl.app {X : Nat → Prop} {Wg c r : Nat} {t u : Trace} (h : Rl X Wg c r t) (hr : ∀ op ∈ u, op.act ≠ .mark (.release (ConcX.stA Wg)))
    (hb : ∀ i op a, (t ++ u)[i]? = some op → t.size ≤ i → op.g = c → op.act.touch? = some a → SX X a.loc ∧ a.kind = .atomic ∧ ¬ (t ++ u).heard i) : Rl X Wg c r (t ++ u) := by
  refine ⟨by rw [act?_old h.lt]; exact h.act, gk_old h.g, (heard_old h.lt).2 h.heard, fun i a ha hg => ?_, fun k hk e => ?_⟩
  · rcases known_app ha with ⟨hi, ha'⟩ | ⟨op, ho, hx, hxa, hle⟩
    · rcases h.bef i a ha' (by rw [← g?_old (u := u) hi]; exact hg) with e | ⟨e1, e2, e3⟩
      · exact .inl (e.app u)
      · exact .inr ⟨e1, e2, fun e => e3 ((heard_old hi).1 e)⟩
    · exact .inr (hb i op a hx hle (by simpa [Trace.g?, hx] using hg) hxa)
  · obtain ⟨op, hop, hoa⟩ := Option.map_eq_some_iff.1 e
    rcases getElem?_append_cases hop with ⟨hi, hop'⟩ | ⟨_, hopu⟩
    · exact h.norel k hk (by rw [act?_of hop', hoa])
    · exact hr op hopu hoa

theorem Rl.quiet {X : Nat → Prop} {Wg c r : Nat} {t : Trace} (h : Rl X Wg c r t) {γ : Nat} {fn : FuncId} {pos : String} {es : Array Event} (hr : ∀ e ∈ es, MemAct.ofEvent e ≠ .mark (.release (ConcX.stA Wg))) (hq : γ = c → ∀ e ∈ es, (MemAct.ofEvent e).touch? = none) :
    Rl X Wg c r (t ++ MemOp.ofEvents γ fn pos es) :=
  h.app (fun op ho => by obtain ⟨e, he, rfl⟩ := Go.Conc.mem_ofEvents ho; exact hr e he) fun i op a hi hle hg ha => by
    rcases getElem?_append_cases hi with ⟨hlt, _⟩ | ⟨_, hu⟩
    · omega
    · obtain ⟨e, he, rfl⟩ := Go.Conc.mem_ofEvents hu
      rw [show ({ g := γ, fn, pos, act := .ofEvent e } : MemOp).act.touch? = none from hq hg e he] at ha
      cases ha

theorem deaf_still {c : Nat} : ∀ (l : List MemOp) (t : Trace), (∀ op ∈ l, op.act ≠ .mark .disable ∧ op.act ≠ .mark .enable) → ∀ m, m ≤ l.length → (t ++ l.toArray).deaf c (t.size + m) = Deaf t c
  | [], t, _, m, hm => by
    have : m = 0 := by simpa using hm
    subst this
    simp [Deaf]
  | y :: l, t, hl, m, hm => by
    have e : t ++ (y :: l).toArray = (t ++ #[y]) ++ l.toArray := by simp
    cases m with
    | zero => rw [Nat.add_zero, deaf_old (Nat.le_refl _)]; rfl
    | succ m =>
      rw [e, show t.size + (m + 1) = (t ++ #[y]).size + m by simp; omega, deaf_still l (t ++ #[y]) (fun op h => hl op (by simp [h])) m (by simpa using hm), Deaf_push]
      have := hl y (by simp)
      obtain ⟨h, fn, pos, act⟩ := y
      cases act with
      | mark mk => cases mk <;> first | rfl | exact absurd rfl this.1 | exact absurd rfl this.2
      | _ => rfl

theorem Rl.deafc {X : Nat → Prop} {Wg c r : Nat} {t : Trace} (h : Rl X Wg c r t) {fn : FuncId} {pos : String} {es : Array Event} (hr : ∀ e ∈ es, MemAct.ofEvent e ≠ .mark (.release (ConcX.stA Wg)))
    (hs : ∀ e ∈ es, e.loc ≠ .mark .disable ∧ e.loc ≠ .mark .enable) (hd : Deaf t c ≠ 0) (ht : ∀ e ∈ es, ∀ a, (MemAct.ofEvent e).touch? = some a → SX X a.loc ∧ a.kind = .atomic) : Rl X Wg c r (t ++ MemOp.ofEvents c fn pos es) :=
  h.app (fun op ho => by obtain ⟨e, he, rfl⟩ := Go.Conc.mem_ofEvents ho; exact hr e he) fun i op a hi hle hg ha => by
    rcases getElem?_append_cases hi with ⟨hlt, _⟩ | ⟨_, hu⟩
    · omega
    · obtain ⟨e, he, rfl⟩ := Go.Conc.mem_ofEvents hu
      refine ⟨(ht e he a ha).1, (ht e he a ha).2, ?_⟩
      rintro ⟨g', hg', hz⟩
      have hgc : g' = c := by
        have : (t ++ MemOp.ofEvents c fn pos es).g? i = some c := by simp [Trace.g?, hi]
        exact Option.some.inj (hg'.symm.trans this)
      subst hgc
      have hlt := lt_size_of_getElem? hi
      have key := deaf_still (c := g') (MemOp.ofEvents g' fn pos es).toList t (fun op hop => by
        obtain ⟨e', he', rfl⟩ := Go.Conc.mem_ofEvents (Array.mem_toList_iff.1 hop)
        have := hs e' he'
        refine ⟨fun h => this.1 ?_, fun h => this.2 ?_⟩ <;>
        · obtain ⟨loc, wr, sy⟩ := e'
          cases loc <;> cases wr <;> cases sy <;> simp_all [MemAct.ofEvent]) (i - t.size) (by simp at hlt ⊢; omega)
      rw [show t.size + (i - t.size) = i by omega] at key
      simp only [Array.toArray_toList] at key
      rw [key] at hz
      exact hd hz

/-- The worker says its release. -/
theorem Pw.release {X : Nat → Prop} {Wg c d : Nat} {t : Trace} (h : Pw X c d 0 t) (hc : c ≠ 0) {fn : FuncId} {pos : String} :
    Pw X c d 0 (t ++ MemOp.ofEvents c fn pos #[ConcX.mk (.releaseMerge (ConcX.stA Wg))]) ∧ Rl X Wg c t.size (t ++ MemOp.ofEvents c fn pos #[ConcX.mk (.releaseMerge (ConcX.stA Wg))]) := by
  have hw := Pw.ownc hc h (fn := fn) (pos := pos) (es := #[ConcX.mk (.releaseMerge (ConcX.stA Wg))]) (fun e he x hx => by
    simp at he; subst he; simp [ConcX.mk, MemAct.ofEvent, MemAct.touch?] at hx)
  have hop : (t ++ MemOp.ofEvents c fn pos #[ConcX.mk (.releaseMerge (ConcX.stA Wg))])[t.size]? = some { g := c, fn, pos, act := .mark (.releaseMerge (ConcX.stA Wg)) } := by
    simp [MemOp.ofEvents, ConcX.mk, MemAct.ofEvent]
  refine ⟨hw, by rw [act?_of hop], by simp [Trace.g?, hop], ⟨c, by simp [Trace.g?, hop], by rw [deaf_old (Nat.le_refl _)]; exact h.deafc⟩, fun i a ha hg => ?_, fun k hk e => ?_⟩
  · rcases known_app ha with ⟨hi, ha'⟩ | ⟨op, ho, hx, hxa, _⟩
    · obtain ⟨z, hz, hzg⟩ := Option.map_eq_some_iff.1 hg
      exact .inl (.inr (hb_po hi hz hop hzg))
    · simp [MemOp.ofEvents, ConcX.mk, MemAct.ofEvent] at ho
      subst ho
      cases hxa
  · have hl := lt_of_act? e
    simp [MemOp.ofEvents] at hl
    omega

/-- Goroutine 0 says its acquire, hearing. -/
theorem Pw.acquire {X : Nat → Prop} {Wg c r dc : Nat} {t : Trace} (h : Pw X c 0 dc t) (hr : Rl X Wg c r t) {fn : FuncId} {pos : String} :
    Ps X 0 (t ++ MemOp.ofEvents 0 fn pos #[ConcX.mk (.acquire (ConcX.stA Wg))]) := by
  have hop : (t ++ MemOp.ofEvents 0 fn pos #[ConcX.mk (.acquire (ConcX.stA Wg))])[t.size]? = some { g := 0, fn, pos, act := .mark (.acquire (ConcX.stA Wg)) } := by
    simp [MemOp.ofEvents, ConcX.mk, MemAct.ofEvent]
  have old : ∀ i a, touchAt (t ++ MemOp.ofEvents 0 fn pos #[ConcX.mk (.acquire (ConcX.stA Wg))]) i = some a → i < t.size ∧ touchAt t i = some a := fun i a ha => by
    rcases known_app ha with h | ⟨op, ho, _, hxa, _⟩
    · exact h
    · simp [MemOp.ofEvents, ConcX.mk, MemAct.ofEvent] at ho
      subst ho; cases hxa
  have edge : HappensBefore (t ++ MemOp.ofEvents 0 fn pos #[ConcX.mk (.acquire (ConcX.stA Wg))]) r t.size := by
    refine .single (.inr ⟨.marked (a := ConcX.stA Wg) hr.lt (.inr (by rw [act?_old hr.lt]; exact hr.act)) (by rw [act?_of hop]) (fun k h1 h2 => by rw [act?_old h2]; exact hr.norel k h1), (heard_old hr.lt).2 hr.heard, ⟨0, by simp [Trace.g?, hop], by rw [deaf_old (Nat.le_refl _)]; exact h.deaf0⟩⟩)
  refine ⟨fun said => ?_, fun i a ha hm => ?_, fun i g hg h0 hcn => ?_, by rw [Deaf_own, h.deaf0]; rfl⟩
  · rintro ⟨i, j, hij, ⟨a, b, ha, hb, hcf⟩, n1, n2⟩
    obtain ⟨hi, ha'⟩ := old i a ha
    obtain ⟨hj, hb'⟩ := old j b hb
    exact h.clean said ⟨i, j, hij, ⟨a, b, ha', hb', hcf⟩, fun e => n1 (hb_app _ e), fun e => n2 (hb_app _ e)⟩
  · obtain ⟨hi, ha'⟩ := old i a ha
    rcases h.known0 i a ha' hm with hk | hk | ⟨hk, hn⟩
    · exact .inl (hk.app _)
    · exact .inr hk
    · rcases hr.bef i a ha' hk with e | ⟨e, _⟩
      · exact .inl ⟨t.size, _, hop, rfl, .inr ((e.app _).hb edge)⟩
      · exact absurd e hn
  · obtain ⟨x, hx, hmem, hkind⟩ := id hcn
    obtain ⟨hi, hx'⟩ := old i x hx
    have hg' : t.g? i = some g := by rw [← g?_old (u := MemOp.ofEvents 0 fn pos #[ConcX.mk (.acquire (ConcX.stA Wg))]) hi]; exact hg
    by_cases hgc : g = c
    · subst hgc
      rcases hr.bef i x hx' hg' with e | ⟨_, e2, e3⟩
      · exact ⟨t.size, by simp [Trace.g?, hop], (e.app _).hb edge⟩
      · rcases hkind with z | z
        · exact absurd e2 z
        · exact absurd ((heard_old hi).1 z) e3
    · obtain ⟨j, hj, hb⟩ := h.over i g hg' h0 hgc ((counts_old hi).1 hcn)
      exact ⟨j, gk_old hj, hb_app _ hb⟩
end Go.Bp

/- The machine: the active goroutines beside those that only leave. -/
namespace Go.Bp
open Go Go.Conc
open Go.ConcN (sumTo upd sumTo_upd upd_ne upd_same)

def Act2 (g : Goroutine) : Prop := g.status = .running ∨ (g.status = .blocked ∧ g.offers = none)
def Wok (g g' : Goroutine) : Prop := g' = g ∨ (g.status = .blocked ∧ g.offers = none ∧ g' = { g with status := .running })

theorem Wok.trans {a b c : Goroutine} (h : Wok a b) (k : Wok b c) : Wok a c := by
  rcases h with rfl | ⟨h1, h2, rfl⟩
  · exact k
  · rcases k with rfl | ⟨k1, _⟩
    · exact .inr ⟨h1, h2, rfl⟩
    · cases k1

theorem wok_woken {P : Program} {g g' o : Goroutine} {w : World} (h : Act2 o) : Wok o (woken P g g' w o) := by
  unfold woken
  split
  · rcases h with h | ⟨h1, h2⟩
    · exact .inl (again_running _ (.inl h))
    · exact .inr ⟨h1, h2, by unfold Goroutine.again; rw [h1, h2]⟩
  · exact .inl rfl

theorem Wok.act2 {g g' : Goroutine} (h : Wok g g') (ha : Act2 g) : Act2 g' := by
  rcases h with rfl | ⟨_, _, rfl⟩
  · exact ha
  · exact .inl rfl

structure Lv (P : Program) (act : Nat → Bool) (t : Trace) (gs : Array Goroutine) (q : Nat → Nat) : Prop where
  old : ∀ i g, act i = false → gs[i]? = some g → QuitsD P (q i) (Deaf t i) g
  above : ∀ j, gs.size ≤ j → Deaf t j = 0

def Muted (act : Nat → Bool) (T : Trace → Prop) : Prop := ∀ t γ fn pos (es : Array Event), act γ = false → (∀ e ∈ es, e.mute = true) → T t → T (t ++ MemOp.ofEvents γ fn pos es)

theorem pick {P : Program} {act : Nat → Bool} (h00 : act 0 = true) {T : Trace → Prop} (hT : Muted act T) :
    ∀ (M : Nat) (gs : Array Goroutine) (w : World) (sl : Option (Nat × Nat)) (t : Trace) (q : Nat → Nat), sumTo gs.size q ≤ M → Lv P act t gs q →
      (∀ i g, act i = true → gs[i]? = some g → Act2 g) → (∃ i g, act i = true ∧ gs[i]? = some g ∧ g.status = .running) → T t →
      ∃ (N : Nat) (gs' : Array Goroutine) (d : Nat) (sl' : Option (Nat × Nat)) (t' : Trace) (q' : Nat → Nat) (i : Nat) (g : Goroutine) (d2 : Nat) (sl2 : Option (Nat × Nat)),
        runNT P N (crowd gs w sl) t = (.next (crowd gs' (w.at d) sl'), t') ∧ gs'.size = gs.size ∧ Lv P act t' gs' q' ∧ T t' ∧ act i = true ∧ gs'[i]? = some g ∧ g.status = .running ∧
        (∀ j x, act j = true → gs[j]? = some x → ∃ x', gs'[j]? = some x' ∧ Wok x x') ∧
        stepT P (crowd gs' (w.at d) sl') = runT P (crowd gs' (w.at d2) sl2) i ∧ sumTo gs'.size q' ≤ sumTo gs.size q ∧ (sumTo gs'.size q' < sumTo gs.size q ∨ ∀ j, act j = true → gs'[j]? = gs[j]?) := by
  intro M
  induction M with
  | zero =>
    intro gs w sl t q hM hL hA hr ht
    have haw : ∀ g ∈ gs, awake g := by
      intro g hg
      obtain ⟨i, hi, rfl⟩ := Array.mem_iff_getElem.1 hg
      cases ha : act i with
      | true =>
        rcases hA i _ ha (Array.getElem?_eq_getElem hi) with h | ⟨h, _⟩ <;> intro s hs <;> rw [h] at hs <;> cases hs
      | false => exact awake_of ((hL.old i _ ha (Array.getElem?_eq_getElem hi)).status.elim .inl fun x => .inr (.inr x))
    obtain ⟨i0, g0, ha0, hi0, hg0⟩ := hr
    obtain ⟨i, g, d, sl', hi, hg, hst⟩ := crowd_pick (P := P) (w := w) (sl := sl) haw ⟨i0, g0, hi0, hg0⟩
    cases ha : act i with
    | true => exact ⟨0, gs, w.drawn, sl, t, q, i, g, d, sl', rfl, rfl, hL, ht, ha, hi, hg, fun j x _ hx => ⟨x, hx, .inl rfl⟩, hst, Nat.le_refl _, .inr fun _ _ => rfl⟩
    | false =>
      have hq := hL.old i g ha hi
      have hlt : i < gs.size := (Array.getElem?_eq_some_iff.1 hi).1
      have h0 : q i = 0 := by have := Go.ConcN.le_sumTo (f := q) hlt; omega
      rw [h0] at hq
      rw [hq.1] at hg
      cases hg
  | succ M ih =>
    intro gs w sl t q hM hL hA hr ht
    have haw : ∀ g ∈ gs, awake g := by
      intro g hg
      obtain ⟨i, hi, rfl⟩ := Array.mem_iff_getElem.1 hg
      cases ha : act i with
      | true =>
        rcases hA i _ ha (Array.getElem?_eq_getElem hi) with h | ⟨h, _⟩ <;> intro s hs <;> rw [h] at hs <;> cases hs
      | false => exact awake_of ((hL.old i _ ha (Array.getElem?_eq_getElem hi)).status.elim .inl fun x => .inr (.inr x))
    obtain ⟨i0, g0, ha0, hi0', hg0⟩ := id hr
    obtain ⟨i, g, d, sl', hi, hg, hst⟩ := crowd_pick (P := P) (w := w) (sl := sl) haw ⟨i0, g0, hi0', hg0⟩
    cases ha : act i with
    | true => exact ⟨0, gs, w.drawn, sl, t, q, i, g, d, sl', rfl, rfl, hL, ht, ha, hi, hg, fun j x _ hx => ⟨x, hx, .inl rfl⟩, hst, Nat.le_refl _, .inr fun _ _ => rfl⟩
    | false =>
      have hq := hL.old i g ha hi
      have hlt : i < gs.size := (Array.getElem?_eq_some_iff.1 hi).1
      cases hqi : q i with
      | zero => rw [hqi] at hq; rw [hq.1] at hg; cases hg
      | succ k =>
        rw [hqi] at hq
        rcases hq with ⟨hf, _⟩ | ⟨_, g', es, hm, hstp, hq'⟩
        · rw [hf] at hg; cases hg
        have hne0 : i ≠ 0 := fun e => by rw [e, h00] at ha; cases ha
        have hi0 : (i == 0) = false := by simp [hne0]
        have hrunT := runT_crowd_go (P := P) (sl := sl') (i := i) hi (by rw [hi0]; exact hstp (w.at d))
        have hsz : ((gs.map (woken P g g' (w.at d))).setIfInBounds i g').size = gs.size := by simp
        have hsum : sumTo gs.size (upd q i k) + (k + 1) = sumTo gs.size q + k := by
          have := sumTo_upd q k id hlt
          simpa [hqi] using this
        have hwk : ∀ j x, act j = true → gs[j]? = some x → ∃ x', ((gs.map (woken P g g' (w.at d))).setIfInBounds i g')[j]? = some x' ∧ Wok x x' := by
          intro j x hj hx
          have hji : i ≠ j := fun e => by rw [e, hj] at ha; cases ha
          exact ⟨woken P g g' (w.at d) x, by rw [Array.getElem?_setIfInBounds_ne hji, Array.getElem?_map, hx]; rfl, wok_woken (hA j x hj hx)⟩
        have back : ∀ j y, act j = true → ((gs.map (woken P g g' (w.at d))).setIfInBounds i g')[j]? = some y → ∃ x, gs[j]? = some x ∧ Wok x y := by
          intro j y hj hy
          have hji : i ≠ j := fun e => by rw [e, hj] at ha; cases ha
          rw [Array.getElem?_setIfInBounds_ne hji, Array.getElem?_map] at hy
          obtain ⟨x, hx, rfl⟩ := Option.map_eq_some_iff.1 hy
          exact ⟨x, hx, wok_woken (hA j x hj hx)⟩
        obtain ⟨N, gs', d', sl'', t', q', i', g1, d2, sl2, r1, r2, r3, r4, r5, r6, r7, r8, r9, r10, _⟩ := ih ((gs.map (woken P g g' (w.at d))).setIfInBounds i g') (w.at d) sl' (t ++ MemOp.ofEvents i g.frame.fn g.frame.place es) (upd q i k) (by rw [hsz]; omega)
          ⟨fun j x hj hx => by
            by_cases hji : i = j
            · subst hji
              rw [Array.getElem?_setIfInBounds_self_of_lt (by simpa using hlt)] at hx
              obtain rfl := Option.some.inj hx
              rw [upd_same, Deaf_own]
              exact hq'
            · rw [Array.getElem?_setIfInBounds_ne hji, Array.getElem?_map] at hx
              obtain ⟨y, hy, rfl⟩ := Option.map_eq_some_iff.1 hx
              have hqj := hL.old j y hj hy
              rw [woken_quitsD hqj, upd_ne q k (Ne.symm hji), Deaf_other t hji _ (fun op hop => by obtain ⟨e, _, rfl⟩ := Go.Conc.mem_ofEvents hop; rfl)]
              exact hqj, fun j hj => by
            rw [Deaf_other t (g' := i) (by simp at hj; omega) _ (fun op hop => by obtain ⟨e, _, rfl⟩ := Go.Conc.mem_ofEvents hop; rfl)]
            exact hL.above j (by simpa using hj)⟩
          (fun j y hj hy => by obtain ⟨x, hx, hw⟩ := back j y hj hy; exact hw.act2 (hA j x hj hx))
          (by
            obtain ⟨y, hy, hw⟩ := hwk i0 g0 ha0 hi0'
            rcases hw with rfl | ⟨h, _⟩
            · exact ⟨i0, _, ha0, hy, hg0⟩
            · rw [hg0] at h; cases h)
          (hT t i _ _ es ha hm ht)
        refine ⟨N + 1, gs', d', sl'', t', q', i', g1, d2, sl2, ?_, r2.trans hsz, r3, r4, r5, r6, r7, fun j x hj hx => ?_, r9, ?_, .inl ?_⟩
        · simp only [runNT, hst, hrunT]; exact r1
        · obtain ⟨y, hy, hw⟩ := hwk j x hj hx
          obtain ⟨z, hz, hw2⟩ := r8 j y hj hy
          exact ⟨z, hz, hw.trans hw2⟩
        · rw [hsz] at r10; omega
        · rw [hsz] at r10; omega

/-! ### goroutine 0 alone beside leavers -/

def act0 : Nat → Bool := fun i => i == 0

def Fr (P : Program) (T : Trace → Prop) (a : Goroutine) (w : World) (m : Machine) (t : Trace) : Prop :=
  ∃ gs sl q, m = crowd gs w sl ∧ gs[0]? = some a ∧ Lv P act0 t gs q ∧ T t

/-- From wherever S holds the run comes to where S' holds. -/
def To (P : Program) (S S' : Machine → Trace → Prop) : Prop := ∀ m t, S m t → ∃ N m' t', runNT P N m t = (.next m', t') ∧ S' m' t'

theorem To.refl {P : Program} {S : Machine → Trace → Prop} : To P S S := fun m t h => ⟨0, m, t, rfl, h⟩
theorem To.trans {P : Program} {S S' S'' : Machine → Trace → Prop} (h : To P S S') (k : To P S' S'') : To P S S'' := fun m t hs => by
  obtain ⟨N, m', t', h1, h2⟩ := h m t hs
  obtain ⟨K, m'', t'', k1, k2⟩ := k m' t' h2
  exact ⟨N + K, m'', t'', by rw [runNT_add, h1]; exact k1, k2⟩
theorem To.mono {P : Program} {S S' S'' : Machine → Trace → Prop} (h : To P S S') (k : ∀ m t, S' m t → S'' m t) : To P S S'' := fun m t hs => by
  obtain ⟨N, m', t', h1, h2⟩ := h m t hs
  exact ⟨N, m', t', h1, k _ _ h2⟩
theorem To.pre {P : Program} {S S' S'' : Machine → Trace → Prop} (h : To P S' S'') (k : ∀ m t, S m t → S' m t) : To P S S'' := fun m t hs => h m t (k m t hs)

theorem one0 {P : Program} {T T' : Trace → Prop} (hT : Muted act0 T) {a : Goroutine} {w : World} (ha : a.status = .running) {Nx : Goroutine → World → Prop}
    (hs : ∀ d, ∃ a' w' es, stepG P true a (w.at d) = .go a' w' es ∧ (∀ t fn pos, T t → T' (t ++ MemOp.ofEvents 0 fn pos es)) ∧ Nx a' w') :
    To P (Fr P T a w) (fun m t => ∃ a' w', Fr P T' a' w' m t ∧ Nx a' w') := by
  rintro m t ⟨gs, sl, q, rfl, h0, hL, ht⟩
  obtain ⟨N, gs', d, sl', t', q', i, g, d2, sl2, r1, r2, r3, r4, r5, r6, r7, r8, r9, _⟩ := pick (act := act0) rfl hT _ gs w sl t q (Nat.le_refl _) hL
    (fun i g hi hg => by
      have : i = 0 := by simpa [act0] using hi
      subst this
      rw [h0] at hg; cases hg; exact .inl ha) ⟨0, a, rfl, h0, ha⟩ ht
  have hi : i = 0 := by simpa [act0] using r5
  subst hi
  obtain ⟨x, hx, hw⟩ := r8 0 a rfl h0
  have hxa : x = a := by
    rcases hw with h | ⟨h, _⟩
    · exact h
    · rw [ha] at h; cases h
  have hga : g = a := by rw [r6] at hx; rw [← hxa]; exact Option.some.inj hx
  subst hga
  obtain ⟨a', w', es, e1, e2, e3⟩ := hs d2
  have hrunT := runT_crowd_go (P := P) (sl := sl2) (i := 0) r6 (show stepG P (0 == 0) g (w.at d2) = _ from e1)
  have hlt : 0 < gs'.size := (Array.getElem?_eq_some_iff.1 r6).1
  refine ⟨N + 1, _, _, by rw [runNT_add, r1]; simp only [runNT, r9, hrunT]; rfl, a', w', ⟨_, sl2, q', rfl, by simp [hlt], ⟨fun j y hj hy => ?_, fun j hj => ?_⟩, e2 _ _ _ r4⟩, e3⟩
  · have hj0 : 0 ≠ j := by
      intro e; subst e; simp [act0] at hj
    rw [Array.getElem?_setIfInBounds_ne hj0, Array.getElem?_map] at hy
    obtain ⟨z, hz, rfl⟩ := Option.map_eq_some_iff.1 hy
    have hqj := r3.old j z hj hz
    rw [woken_quitsD hqj, Deaf_other t' hj0 _ (fun op hop => by obtain ⟨e, _, rfl⟩ := Go.Conc.mem_ofEvents hop; rfl)]
    exact hqj
  · rw [Deaf_other t' (g' := 0) (by simp at hj; omega) _ (fun op hop => by obtain ⟨e, _, rfl⟩ := Go.Conc.mem_ofEvents hop; rfl)]
    exact r3.above j (by simpa using hj)

/-- A walk of goroutine 0's beside leavers. -/
theorem goes_to {P : Program} {T : Trace → Prop} (hT : Muted act0 T) {R : World → World → Prop} {D : World → World → Array Event → Prop} {Stop : Goroutine → World → Prop}
    (hR : ∀ w d, R w (w.at d)) (hD : ∀ w w' es t fn pos, D w w' es → T t → T (t ++ MemOp.ofEvents 0 fn pos es)) :
    ∀ (n : Nat) (a : Goroutine) (w : World), Goes P true R D Stop n a w → To P (Fr P T a w) (fun m t => ∃ a' w', Fr P T a' w' m t ∧ ∀ w₁, R w' w₁ → Stop a' w₁) := by
  intro n
  induction n with
  | zero => intro a w h m t hf; exact ⟨0, m, t, rfl, a, w, hf, h⟩
  | succ n ih =>
    intro a w h
    rcases h with h | ⟨ha, h⟩
    · intro m t hf; exact ⟨0, m, t, rfl, a, w, hf, h⟩
    · refine (one0 (T' := T) (Nx := fun a' w' => Goes P true R D Stop n a' w') hT ha fun d => ?_).trans fun m t ⟨a', w', hf, hg⟩ => ih a' w' hg m t hf
      have := h (w.at d) (hR w d)
      cases hst : stepG P true a (w.at d) with
      | go a' w' es =>
        rw [hst, goes_go] at this
        exact ⟨a', w', es, rfl, fun t fn pos ht => hD _ _ _ _ _ _ this.1 ht, this.2⟩
      | _ => rw [hst] at this; exact this.elim

theorem wk_to {P : Program} {T : Trace → Prop} (hT : Muted act0 T) {R : World → World → Prop} {D : World → World → Array Event → Prop} {Stop : Goroutine → World → Prop}
    (hR : ∀ w d, R w (w.at d)) (hD : ∀ w w' es t fn pos, D w w' es → T t → T (t ++ MemOp.ofEvents 0 fn pos es)) {a : Goroutine} {w : World} (h : Wk P true R D Stop a w) :
    To P (Fr P T a w) (fun m t => ∃ a' w', Fr P T a' w' m t ∧ ∀ w₁, R w' w₁ → Stop a' w₁) := by
  induction h with
  | stop h => intro m t hf; exact ⟨0, m, t, rfl, _, _, hf, h⟩
  | @step g w f hg hs _ ih =>
    refine (one0 (T' := T) (Nx := fun a' w' => ∃ w₁, R w w₁ ∧ a' = (f w₁).1 ∧ w' = (f w₁).2.1) hT hg fun d => ?_).trans fun m t ⟨a', w', hf, w₁, hr, e1, e2⟩ => ?_
    · exact ⟨_, _, _, (hs (w.at d) (hR w d)).1, fun t fn pos ht => hD _ _ _ _ _ _ (hs (w.at d) (hR w d)).2 ht, w.at d, hR w d, rfl, rfl⟩
    · subst e1 e2
      exact ih w₁ hr m t hf
end Go.Bp

/- sync.WaitGroup's Wait, walked beside a worker that turns whatever it will but the group's block. -/
namespace Go.Bp
open Go Go.Conc Go.RowKit Go.Conc.Lib
open Go.ConcX (WgAt KK stA smA rd wr mk DC0)
open Go.ConcX.Gen

section
variable (P : Program) (ty : TypeId) (Wg : Nat) (J : World → Prop) (Anch Ret : Goroutine → World → Prop)

def KwC (w : World) : Prop := WgAt ty Wg w 0 0 ∧ J w
def KwA (w : World) : Prop := WgAt ty Wg w KK 0 ∨ KwC ty Wg J w
def KwF (w : World) : Prop := WgAt ty Wg w 0 1 ∧ J w
def KwB (w : World) : Prop := WgAt ty Wg w (KK + 1) 0 ∨ WgAt ty Wg w 1 0 ∨ WgAt ty Wg w 0 0 ∨ KwF ty Wg J w

structure RA (w w₁ : World) : Prop where
  a : KwA ty Wg J w → KwA ty Wg J w₁
  c : KwC ty Wg J w → KwC ty Wg J w₁
structure RB (w w₁ : World) : Prop where
  b : KwB ty Wg J w → KwB ty Wg J w₁
  f : KwF ty Wg J w → KwF ty Wg J w₁
def RJ (w w₁ : World) : Prop := KwC ty Wg J w → KwC ty Wg J w₁

def AtAcq (g : Goroutine) (w : World) : Prop :=
  g.status = .running ∧ ∃ g', stepG P true g w = .go g' w #[mk (.acquire (stA Wg))] ∧ ∃ m, Goes P true (RJ ty Wg J) DC0 Ret m g' w
def AtKe (g : Goroutine) (w : World) : Prop :=
  g.status = .running ∧ ∃ g', stepG P true g w = .go g' w #[mk .enable] ∧ ∃ m, Goes P true (RJ ty Wg J) DC0 (AtAcq P ty Wg J Ret) m g' w
def AtW4 (g : Goroutine) (w : World) : Prop :=
  g.status = .running ∧ ∃ g', stepG P true g w = .go g' w #[rd (stA Wg)] ∧ ∃ m, Goes P true (RJ ty Wg J) DC0 (AtKe P ty Wg J Ret) m g' w
def AtW3 (g : Goroutine) (w : World) : Prop :=
  g.status = .running ∧ g.offers = none ∧ ((∃ st, WgAt ty Wg w st 0) → stepG P true g w = .go { g with status := .blocked } w #[]) ∧
    (KwF ty Wg J w → ∃ g', stepG P true g w = .go g' (w.setCell (smA Wg) (.int .u32 0)) (semEvents (smA Wg)) ∧ ∃ m, Goes P true (RJ ty Wg J) DC0 (AtW4 P ty Wg J Ret) m g' (w.setCell (smA Wg) (.int .u32 0)))
def AtWm (g : Goroutine) (w : World) : Prop :=
  g.status = .running ∧ ∃ g', stepG P true g w = .go g' w #[mk (.write (smA Wg))] ∧ ∃ m, Goes P true (RB ty Wg J) DC0 (AtW3 P ty Wg J Ret) m g' w
def AtW2 (g : Goroutine) (w : World) : Prop :=
  g.status = .running ∧
    (WgAt ty Wg w KK 0 → ∃ g', stepG P true g w = .go g' (w.setCell (stA Wg) (.int .u64 (KK + 1))) #[rd (stA Wg), wr (stA Wg)] ∧
      ∃ m, Goes P true (RB ty Wg J) DC0 (AtWm P ty Wg J Ret) m g' (w.setCell (stA Wg) (.int .u64 (KK + 1)))) ∧
    (KwC ty Wg J w → ∃ g', stepG P true g w = .go g' w #[rd (stA Wg)] ∧ ∃ m, Goes P true (RA ty Wg J) DC0 Anch m g' w)
def AtW1 (g : Goroutine) (w : World) : Prop :=
  g.status = .running ∧ ∃ g', stepG P true g w = .go g' w #[rd (stA Wg)] ∧
    (WgAt ty Wg w KK 0 → ∃ m, Goes P true (RA ty Wg J) DC0 (AtW2 P ty Wg J Anch Ret) m g' w) ∧
    (KwC ty Wg J w → ∃ m, Goes P true (RJ ty Wg J) DC0 (AtKe P ty Wg J Ret) m g' w)
def AtKd (g : Goroutine) (w : World) : Prop :=
  g.status = .running ∧ ∃ g', stepG P true g w = .go g' w #[mk .disable] ∧ ∃ m, Goes P true (RA ty Wg J) DC0 Anch m g' w
end

section
variable {ty : TypeId} {Wg : Nat} {J : World → Prop}
theorem ra_rely {w w₁ : World} (h : KwA ty Wg J w) (r : RA ty Wg J w w₁) : KwA ty Wg J w₁ := r.a h
theorem rb_rely {w w₁ : World} (h : KwB ty Wg J w) (r : RB ty Wg J w w₁) : KwB ty Wg J w₁ := r.b h
theorem rj_rely {w w₁ : World} (h : KwC ty Wg J w) (r : RJ ty Wg J w w₁) : KwC ty Wg J w₁ := r h
theorem KwB.cell1 {w : World} (h : KwB ty Wg J w) : ∃ v, w.cell? ⟨Wg, 1, none⟩ = some v := by
  rcases h with x | x | x | x
  · exact ⟨_, x.cellSm⟩
  · exact ⟨_, x.cellSm⟩
  · exact ⟨_, x.cellSm⟩
  · exact ⟨_, x.1.cellSm⟩
end

/-- J is kept by writes to the group's block. -/
def Kept (Wg : Nat) (J : World → Prop) : Prop := ∀ w a v, a.block = Wg → J w → J (w.setCell a v)

/-- At the head of Wait's loop. -/
def AnchB (L : WgLink) (Wg : Nat) (J : World → Prop) (c : Frame) (cs : List Frame) (g : Goroutine) (w : World) : Prop :=
  ∃ T : Array Value, g = G ((base L.wait).at ⟨T, []⟩ [.code (L7 L), .inLoop (L7 L), .inBlock 0]) (c :: cs) ∧ T.size = 84 ∧ T[0]? = some (.pointer (some ⟨Wg, 0, none⟩)) ∧ KwA L.tWg Wg J w

section
variable {L : WgLink} {Wg : Nat} {J : World → Prop} {b₀ : Frame} {a₀ : Act} {ops₀ : Array Oper} {i₀ : Nat} {rest₀ : List Nat} {k₀ : List Item} {cs : List Frame}

/-- Behind Wait. -/
def RetB (L : WgLink) (Wg : Nat) (J : World → Prop) (b₀ : Frame) (a₀ : Act) (ops₀ : Array Oper) (i₀ : Nat) (rest₀ : List Nat) (k₀ : List Item) (cs : List Frame) (g : Goroutine) (w : World) : Prop :=
  g = G (b₀.at (a₀.put ((ops₀[i₀]?).bind (·.dst)) (.tuple #[])) (.inRegion ops₀ rest₀ :: k₀)) cs ∧ KwC L.tWg Wg J w

set_option maxRecDepth 100000 in
theorem waitIn {P : Program} (H : WgLib P L) (w : World) (hF : KwA L.tWg Wg J w) :
    Goes P true (RA L.tWg Wg J) DC0 (AtKd P L.tWg Wg J (AnchB L Wg J (b₀.at a₀ (.inRegion ops₀ (i₀ :: rest₀) :: k₀)) cs)) 3
      (G ((base L.wait).at ⟨#[.pointer (some ⟨Wg, 0, none⟩)] ++ Array.replicate 83 undef, []⟩ [.code (body_wait L)]) (b₀.at a₀ (.inRegion ops₀ (i₀ :: rest₀) :: k₀) :: cs)) w := by
  lib_facts
  simp only [body_wait, waitFn, Option.getD_some]
  u_c stepG_seq ra_rely hF
  u_cond true ra_rely hF
  u_reg ra_rely hF
  refine Goes.stop (fun w₁ h₁ => ?_)
  replace hF := ra_rely hF h₁
  clear h₁
  refine ⟨rfl, _, stepG_mark0 .disable (by simp) rfl rfl (by k_ne) rfl H.f_disable (x_disable_n L) (x_disable_b L) (x_disable_x L) (x_disable_f L), 3, ?_⟩
  walk_nrm
  u_c stepG_region_end ra_rely hF
  u_c stepG_block ra_rely hF
  u_c stepG_loop ra_rely hF
  exact Goes.stop (fun w₂ h₂ => ⟨_, rfl, by simp, by simp, ra_rely hF h₂⟩)
end
end Go.Bp

/- One round of Wait's loop: the words are printed along the library's code. -/
namespace Go.Bp
open Go Go.Conc Go.RowKit Go.Conc.Lib
open Go.ConcX (WgAt KK stA smA rd wr mk DC0 kk_ne)
open Go.ConcX.Gen
section
variable {L : WgLink} {Wg : Nat} {J : World → Prop} {b₀ : Frame} {a₀ : Act} {ops₀ : Array Oper} {i₀ : Nat} {rest₀ : List Nat} {k₀ : List Item} {cs : List Frame}

set_option maxRecDepth 100000 in
set_option maxHeartbeats 8000000 in
theorem waitRound {P : Program} (H : WgLib P L) (hJ : Kept Wg J) (g : Goroutine) (w : World) (h : AnchB L Wg J (b₀.at a₀ (.inRegion ops₀ (i₀ :: rest₀) :: k₀)) cs g w) :
    ∃ m, Goes P true (RA L.tWg Wg J) DC0 (AtW1 P L.tWg Wg J (AnchB L Wg J (b₀.at a₀ (.inRegion ops₀ (i₀ :: rest₀) :: k₀)) cs) (RetB L Wg J b₀ a₀ ops₀ i₀ rest₀ k₀ cs)) m g w := by
  lib_facts
  obtain ⟨T, rfl, hT84, t0, hF⟩ := h
  obtain ⟨v0, v1, v2, v3, v4, v5, v6, v7, v8, v9, v10, v11, v12, v13, v14, v15, v16, v17, v18, v19, v20, v21, v22, v23, v24, v25, v26, v27, v28, v29, v30, v31, v32, v33, v34, v35, v36, v37, v38, v39, v40, v41, v42, v43, v44, v45, v46, v47, v48, v49, v50, v51, v52, v53, v54, v55, v56, v57, v58, v59, v60, v61, v62, v63, v64, v65, v66, v67, v68, v69, v70, v71, v72, v73, v74, v75, v76, v77, v78, v79, v80, v81, v82, v83, rfl⟩ := array84 T hT84
  simp only [List.getElem?_toArray, List.getElem?_cons_zero, Option.some.injEq] at t0
  subst t0
  refine ⟨30, ?_⟩
  simp only [L7, body_wait, waitFn, Option.getD_some]
  u_c stepG_block ra_rely hF
  u_c stepG_seq ra_rely hF
  u_reg ra_rely hF
  u_op ra_rely hF
  u_op ra_rely hF
  u_op ra_rely hF
  u_call H.f_uLoad (nm_uLoad L) uLoadFn ra_rely hF
  u_c stepG_seq ra_rely hF
  u_reg ra_rely hF
  u_op ra_rely hF
  u_c stepG_region_end ra_rely hF
  u_c stepG_seq ra_rely hF
  u_reg ra_rely hF
  u_op ra_rely hF
  u_op ra_rely hF
  u_op ra_rely hF
  refine Goes.stop (fun w₁ h₁ => ?_)
  replace hF := ra_rely hF h₁
  clear h₁
  rcases hF with hw | hc
  · refine ⟨rfl, _, stepG_load_atomic (v := 4294967296) rfl rfl (by k_ne) rfl H.f_loadU64 (x_loadU64_n L) (x_loadU64_b L) (x_loadU64_x L) .u64 (x_loadU64_f L) rfl hw.cellSt, fun _ => ⟨60, ?_⟩, fun hc => absurd (hw.unique hc.1).1 kk_ne⟩
    have hF : KwA L.tWg Wg J w₁ := .inl hw
    clear hw
    walk_nrm
    u_op ra_rely hF
    u_c stepG_region_end ra_rely hF
    u_c stepG_ret' ra_rely hF
    u_leave1 H.f_uLoad ra_rely hF
    u_op ra_rely hF
    u_c stepG_region_end ra_rely hF
    u_c stepG_seq ra_rely hF
    u_reg ra_rely hF
    u_op ra_rely hF
    u_op ra_rely hF
    u_op ra_rely hF
    u_op ra_rely hF
    u_c stepG_region_end ra_rely hF
    u_c stepG_seq ra_rely hF
    u_reg ra_rely hF
    u_op ra_rely hF
    u_op ra_rely hF
    u_op ra_rely hF
    u_op ra_rely hF
    u_c stepG_region_end ra_rely hF
    u_c stepG_seq ra_rely hF
    u_c stepG_seq ra_rely hF
    u_reg ra_rely hF
    u_op ra_rely hF
    u_op ra_rely hF
    u_c stepG_region_end ra_rely hF
    u_cond false ra_rely hF
    u_c stepG_skip ra_rely hF
    u_c stepG_seq ra_rely hF
    u_reg ra_rely hF
    u_op ra_rely hF
    u_op ra_rely hF
    u_op ra_rely hF
    u_op ra_rely hF
    u_op ra_rely hF
    u_op ra_rely hF
    u_call H.f_uCas (nm_uCas L) uCasFn ra_rely hF
    u_c stepG_seq ra_rely hF
    u_reg ra_rely hF
    u_op ra_rely hF
    u_c stepG_region_end ra_rely hF
    u_c stepG_seq ra_rely hF
    u_reg ra_rely hF
    u_op ra_rely hF
    u_op ra_rely hF
    u_op ra_rely hF
    u_op ra_rely hF
    u_op ra_rely hF
    refine Goes.stop (fun w₂ h₂ => ?_)
    replace hF := ra_rely hF h₂
    clear h₂
    refine ⟨rfl, fun hw => ?_, fun hc => ?_⟩
    · refine ⟨_, (stepG_cas_hit (v := 4294967296) (n := 4294967297) rfl rfl (by k_ne) rfl H.f_casU64 (x_casU64_n L) (x_casU64_b L) (x_casU64_x L) .u64 (x_casU64_f L) rfl rfl rfl hw.cellSt (hw.thaw 0)).trans (by rfl), 70, ?_⟩
      replace hF : KwB L.tWg Wg J (w₂.setCell (stA Wg) (.int .u64 (KK + 1))) := .inl (hw.setSt _)
      clear hw
      walk_nrm
      u_op rb_rely hF
      u_c stepG_region_end rb_rely hF
      u_c stepG_ret' rb_rely hF
      u_leave1 H.f_uCas rb_rely hF
      u_c stepG_region_end rb_rely hF
      u_cond true rb_rely hF
      u_c stepG_seq rb_rely hF
      u_c stepG_seq rb_rely hF
      u_reg rb_rely hF
      u_op rb_rely hF
      first | u_skip rb_rely hF | u_op rb_rely hF
      first | u_skip rb_rely hF | u_op rb_rely hF
      u_op rb_rely hF
      u_c stepG_region_end rb_rely hF
      u_cond true rb_rely hF
      u_reg rb_rely hF
      u_op rb_rely hF
      u_op rb_rely hF
      u_op rb_rely hF
      u_conv H.underlying_tPU32 H.room_tU32 (KwB.cell1 hF).choose_spec rb_rely hF
      refine Goes.stop (fun w₃ h₃ => ?_)
      replace hF := rb_rely hF h₃
      clear h₃
      refine ⟨rfl, _, stepG_markAt .write (by simp) rfl rfl (by k_ne) rfl H.f_raceWrite (x_raceWrite_n L) (x_raceWrite_b L) (x_raceWrite_x L) (x_raceWrite_f L) (ad := ⟨Wg, 1, none⟩) (by simp [Act.eval]), 30, ?_⟩
      walk_nrm
      u_c stepG_region_end rb_rely hF
      u_c stepG_seq rb_rely hF
      u_reg rb_rely hF
      u_op rb_rely hF
      u_c stepG_region_end rb_rely hF
      u_c stepG_seq rb_rely hF
      u_c stepG_seq rb_rely hF
      u_reg rb_rely hF
      u_op rb_rely hF
      u_op rb_rely hF
      u_op rb_rely hF
      u_op rb_rely hF
      first | u_skip rb_rely hF | u_op rb_rely hF
      u_op rb_rely hF
      u_c stepG_region_end rb_rely hF
      u_cond false rb_rely hF
      u_c stepG_skip rb_rely hF
      u_c stepG_seq rb_rely hF
      u_reg rb_rely hF
      u_op rb_rely hF
      u_op rb_rely hF
      u_op rb_rely hF
      u_op rb_rely hF
      refine Goes.stop (fun w₃ h₃ => ?_)
      replace hF := rb_rely hF h₃
      clear h₃
      refine ⟨rfl, rfl, fun ⟨st, hw⟩ => stepG_semacquire_wait rfl rfl rfl H.f_semacquire (x_semacquire_n L) (x_semacquire_b L) (x_semacquire_x L) (x_semacquire_f L) (by simp [Act.eval, smA]) hw.cellSm, fun hf => ?_⟩
      refine ⟨_, (stepG_semacquire (n := 1) rfl rfl (by k_ne) rfl H.f_semacquire (x_semacquire_n L) (x_semacquire_b L) (x_semacquire_x L) (x_semacquire_f L) (by simp [Act.eval, smA]) hf.1.cellSm (by k_ne) (hf.1.thaw 1)).trans (by rfl), 30, ?_⟩
      replace hF : KwC L.tWg Wg J (w₃.setCell (smA Wg) (.int .u32 0)) := ⟨hf.1.setSm 0, hJ _ _ _ rfl hf.2⟩
      clear hf
      walk_nrm
      u_c stepG_region_end rj_rely hF
      u_c stepG_seq rj_rely hF
      u_reg rj_rely hF
      u_op rj_rely hF
      u_op rj_rely hF
      u_op rj_rely hF
      u_call H.f_uLoad (nm_uLoad L) uLoadFn rj_rely hF
      u_c stepG_seq rj_rely hF
      u_reg rj_rely hF
      u_op rj_rely hF
      u_c stepG_region_end rj_rely hF
      u_c stepG_seq rj_rely hF
      u_reg rj_rely hF
      u_op rj_rely hF
      u_op rj_rely hF
      u_op rj_rely hF
      refine Goes.stop (fun w₄ h₄ => ?_)
      replace hF := rj_rely hF h₄
      clear h₄
      refine ⟨rfl, _, stepG_load_atomic (v := 0) rfl rfl (by k_ne) rfl H.f_loadU64 (x_loadU64_n L) (x_loadU64_b L) (x_loadU64_x L) .u64 (x_loadU64_f L) rfl hF.1.cellSt, 30, ?_⟩
      walk_nrm
      u_op rj_rely hF
      u_c stepG_region_end rj_rely hF
      u_c stepG_ret' rj_rely hF
      u_leave1 H.f_uLoad rj_rely hF
      u_op rj_rely hF
      u_op rj_rely hF
      u_c stepG_region_end rj_rely hF
      u_c stepG_seq rj_rely hF
      u_cond true rj_rely hF
      u_c stepG_seq rj_rely hF
      u_reg rj_rely hF
      refine Goes.stop (fun w₅ h₅ => ?_)
      replace hF := rj_rely hF h₅
      clear h₅
      refine ⟨rfl, _, stepG_mark0 .enable (by simp) rfl rfl (by k_ne) rfl H.f_enable (x_enable_n L) (x_enable_b L) (x_enable_x L) (x_enable_f L), 12, ?_⟩
      walk_nrm
      u_c stepG_region_end rj_rely hF
      u_reg rj_rely hF
      u_op rj_rely hF
      u_conv H.underlying_tWgP H.room_tWg (show World.cell? _ ⟨Wg, 0, none⟩ = some _ from hF.1.cellSt) rj_rely hF
      refine Goes.stop (fun w₆ h₆ => ?_)
      replace hF := rj_rely hF h₆
      clear h₆
      refine ⟨rfl, _, stepG_markAt .acquire (by simp) rfl rfl (by k_ne) rfl H.f_acquire (x_acquire_n L) (x_acquire_b L) (x_acquire_x L) (x_acquire_f L) (by simp [Act.eval, stA]), ⟨40, ?_⟩⟩
      walk_nrm
      u_c stepG_region_end rj_rely hF
      u_c stepG_seq rj_rely hF
      u_c stepG_seq rj_rely hF
      u_reg rj_rely hF
      u_op rj_rely hF
      u_c stepG_region_end rj_rely hF
      u_cond false rj_rely hF
      u_c stepG_skip rj_rely hF
      u_c stepG_ret' rj_rely hF
      u_leave0 H.f_wait rj_rely hF
      exact Goes.stop (fun w₇ h₇ => ⟨rfl, rj_rely hF h₇⟩)
    · refine ⟨_, stepG_cas_miss (v := 0) (old := 4294967296) (n := 4294967297) rfl rfl (by k_ne) rfl H.f_casU64 (x_casU64_n L) (x_casU64_b L) (x_casU64_x L) .u64 (x_casU64_f L) rfl rfl rfl hc.1.cellSt (hc.1.thaw 0) (by k_ne), 20, ?_⟩
      clear hc
      walk_nrm
      u_op ra_rely hF
      u_c stepG_region_end ra_rely hF
      u_c stepG_ret' ra_rely hF
      u_leave1 H.f_uCas ra_rely hF
      u_c stepG_region_end ra_rely hF
      u_cond false ra_rely hF
      u_c stepG_skip ra_rely hF
      u_c stepG_inBlock ra_rely hF
      u_c stepG_inLoop ra_rely hF
      refine Goes.stop (fun w₃ h₃ => ?_)
      replace hF := ra_rely hF h₃
      exact ⟨_, rfl, by simp, by simp, hF⟩
  · refine ⟨rfl, _, stepG_load_atomic (v := 0) rfl rfl (by k_ne) rfl H.f_loadU64 (x_loadU64_n L) (x_loadU64_b L) (x_loadU64_x L) .u64 (x_loadU64_f L) rfl hc.1.cellSt, fun hw => absurd (hw.unique hc.1).1 kk_ne, fun _ => ⟨50, ?_⟩⟩
    have hF : KwC L.tWg Wg J w₁ := hc
    clear hc
    walk_nrm
    u_op rj_rely hF
    u_c stepG_region_end rj_rely hF
    u_c stepG_ret' rj_rely hF
    u_leave1 H.f_uLoad rj_rely hF
    u_op rj_rely hF
    u_c stepG_region_end rj_rely hF
    u_c stepG_seq rj_rely hF
    u_reg rj_rely hF
    u_op rj_rely hF
    u_op rj_rely hF
    u_op rj_rely hF
    u_op rj_rely hF
    u_c stepG_region_end rj_rely hF
    u_c stepG_seq rj_rely hF
    u_reg rj_rely hF
    u_op rj_rely hF
    u_op rj_rely hF
    u_op rj_rely hF
    u_op rj_rely hF
    u_c stepG_region_end rj_rely hF
    u_c stepG_seq rj_rely hF
    u_c stepG_seq rj_rely hF
    u_reg rj_rely hF
    u_op rj_rely hF
    u_op rj_rely hF
    u_c stepG_region_end rj_rely hF
    u_cond true rj_rely hF
    u_c stepG_seq rj_rely hF
    u_cond true rj_rely hF
    u_c stepG_seq rj_rely hF
    u_reg rj_rely hF
    refine Goes.stop (fun w₅ h₅ => ?_)
    replace hF := rj_rely hF h₅
    clear h₅
    refine ⟨rfl, _, stepG_mark0 .enable (by simp) rfl rfl (by k_ne) rfl H.f_enable (x_enable_n L) (x_enable_b L) (x_enable_x L) (x_enable_f L), 12, ?_⟩
    walk_nrm
    u_c stepG_region_end rj_rely hF
    u_reg rj_rely hF
    u_op rj_rely hF
    u_conv H.underlying_tWgP H.room_tWg (show World.cell? _ ⟨Wg, 0, none⟩ = some _ from hF.1.cellSt) rj_rely hF
    refine Goes.stop (fun w₆ h₆ => ?_)
    replace hF := rj_rely hF h₆
    clear h₆
    refine ⟨rfl, _, stepG_markAt .acquire (by simp) rfl rfl (by k_ne) rfl H.f_acquire (x_acquire_n L) (x_acquire_b L) (x_acquire_x L) (x_acquire_f L) (by simp [Act.eval, stA]), ⟨40, ?_⟩⟩
    walk_nrm
    u_c stepG_region_end rj_rely hF
    u_c stepG_seq rj_rely hF
    u_c stepG_seq rj_rely hF
    u_reg rj_rely hF
    u_op rj_rely hF
    u_op rj_rely hF
    u_op rj_rely hF
    first | u_skip rj_rely hF | u_op rj_rely hF
    first | u_skip rj_rely hF | u_op rj_rely hF
    first | u_skip rj_rely hF | u_op rj_rely hF
    u_op rj_rely hF
    u_op rj_rely hF
    first | u_skip rj_rely hF | u_op rj_rely hF
    first | u_skip rj_rely hF | u_op rj_rely hF
    u_op rj_rely hF
    u_c stepG_region_end rj_rely hF
    u_cond false rj_rely hF
    u_c stepG_skip rj_rely hF
    u_c stepG_ret' rj_rely hF
    u_leave0 H.f_wait rj_rely hF
    exact Goes.stop (fun w₇ h₇ => ⟨rfl, rj_rely hF h₇⟩)
end
end Go.Bp

/- A worker and the caller in Wait: who moves, and what stands. -/
namespace Go.Bp
open Go Go.Conc Go.Conc.Lib
open Go.ConcX (WgAt KK stA smA rd wr mk DC0 kk_ne)
open Go.ConcN (sumTo)

def act2 (c : Nat) : Nat → Bool := fun i => i == 0 || i == c

def S2 (P : Program) (c : Nat) (a b : Goroutine) (w : World) (m : Machine) (t : Trace) : Prop :=
  ∃ gs sl q, m = crowd gs w sl ∧ gs[0]? = some a ∧ gs[c]? = some b ∧ Lv P (act2 c) t gs q

section
variable (P : Program) (ty : TypeId) (Wg : Nat) (J : World → Prop) (Anch Ret : Goroutine → World → Prop)

/-- The caller's place while the worker has not ended: rank, own steps left, deaf, what the group's state reads. -/
inductive Cp : Nat → Nat → Nat → Int → Goroutine → World → Prop
  | kd {m : Nat} {g : Goroutine} {w : World} : Goes P true (RA ty Wg J) DC0 (AtKd P ty Wg J Anch) m g w → WgAt ty Wg w KK 0 → Cp 6 m 0 KK g w
  | an {m : Nat} {g : Goroutine} {w : World} : Goes P true (RA ty Wg J) DC0 Anch m g w → WgAt ty Wg w KK 0 → Cp 5 m 1 KK g w
  | w1 {m : Nat} {g : Goroutine} {w : World} : Goes P true (RA ty Wg J) DC0 (AtW1 P ty Wg J Anch Ret) m g w → WgAt ty Wg w KK 0 → Cp 4 m 1 KK g w
  | w2 {m : Nat} {g : Goroutine} {w : World} : Goes P true (RA ty Wg J) DC0 (AtW2 P ty Wg J Anch Ret) m g w → WgAt ty Wg w KK 0 → Cp 3 m 1 KK g w
  | wm {m : Nat} {g : Goroutine} {w : World} {st : Int} : Goes P true (RB ty Wg J) DC0 (AtWm P ty Wg J Ret) m g w → WgAt ty Wg w st 0 → st ≠ KK → Cp 2 m 1 st g w
  | w3 {m : Nat} {g : Goroutine} {w : World} {st : Int} : Goes P true (RB ty Wg J) DC0 (AtW3 P ty Wg J Ret) m g w → WgAt ty Wg w st 0 → st ≠ KK → Cp 1 (m + 1) 1 st g w
  | bl {g : Goroutine} {w : World} {st : Int} : (∀ w₁, RB ty Wg J w w₁ → AtW3 P ty Wg J Ret g w₁) → WgAt ty Wg w st 0 → st ≠ KK → Cp 1 0 1 st { g with status := .blocked } w
end

section
variable {P : Program} {ty : TypeId} {Wg : Nat} {J : World → Prop} {Anch Ret : Goroutine → World → Prop}

theorem RA.trans {a b c : World} (h : RA ty Wg J a b) (k : RA ty Wg J b c) : RA ty Wg J a c := ⟨k.a ∘ h.a, k.c ∘ h.c⟩
theorem RB.trans {a b c : World} (h : RB ty Wg J a b) (k : RB ty Wg J b c) : RB ty Wg J a c := ⟨k.b ∘ h.b, k.f ∘ h.f⟩
theorem RJ.trans {a b c : World} (h : RJ ty Wg J a b) (k : RJ ty Wg J b c) : RJ ty Wg J a c := k ∘ h

theorem ra_same {w w₁ : World} (h : WgAt ty Wg w KK 0) (h' : WgAt ty Wg w₁ KK 0) : RA ty Wg J w w₁ :=
  ⟨fun _ => .inl h', fun x => absurd (h.unique x.1).1 kk_ne⟩
theorem rb_same {w w₁ : World} {st st' : Int} (h : WgAt ty Wg w st 0) (hs : st' = KK + 1 ∨ st' = 1 ∨ st' = 0) (h' : WgAt ty Wg w₁ st' 0) : RB ty Wg J w w₁ := by
  refine ⟨fun _ => ?_, fun x => absurd (h.unique x.1).2 (by decide)⟩
  rcases hs with rfl | rfl | rfl
  · exact .inl h'
  · exact .inr (.inl h')
  · exact .inr (.inr (.inl h'))

def Stt (st : Int) : Prop := st = KK ∨ st = KK + 1 ∨ st = 1 ∨ st = 0

theorem Cp.wg {r m d : Nat} {st : Int} {g : Goroutine} {w : World} (h : Cp P ty Wg J Anch Ret r m d st g w) : WgAt ty Wg w st 0 := by cases h <;> assumption

/-- The worker's doing, the group's block left alone, or its state turned from one that is not 2^32 to another. -/
theorem Cp.rely {r m d : Nat} {st st' : Int} {g : Goroutine} {w w₁ : World} (h : Cp P ty Wg J Anch Ret r m d st g w) (h' : WgAt ty Wg w₁ st' 0) (hs : st' = st ∨ (st ≠ KK ∧ (st' = 1 ∨ st' = 0))) (hst : Stt st) : Cp P ty Wg J Anch Ret r m d st' g w₁ := by
  have tA := fun a b c (h1 : RA ty Wg J a b) (h2 : RA ty Wg J b c) => h1.trans h2
  have tB := fun a b c (h1 : RB ty Wg J a b) (h2 : RB ty Wg J b c) => h1.trans h2
  have keep : st = KK → st' = KK := fun e => by rcases hs with rfl | ⟨h, _⟩; exact e; exact absurd e h
  have nk : st ≠ KK → (st' = KK + 1 ∨ st' = 1 ∨ st' = 0) ∧ st' ≠ KK := fun e => by
    rcases hs with rfl | ⟨_, rfl | rfl⟩
    · rcases hst with h | h | h | h
      · exact absurd h e
      · exact ⟨.inl h, e⟩
      · exact ⟨.inr (.inl h), e⟩
      · exact ⟨.inr (.inr h), e⟩
    · exact ⟨.inr (.inl rfl), by decide⟩
    · exact ⟨.inr (.inr rfl), by decide⟩
  cases h with
  | kd hg hw => obtain rfl := keep rfl; exact .kd (Goes.rely tA hg (ra_same hw h')) h'
  | an hg hw => obtain rfl := keep rfl; exact .an (Goes.rely tA hg (ra_same hw h')) h'
  | w1 hg hw => obtain rfl := keep rfl; exact .w1 (Goes.rely tA hg (ra_same hw h')) h'
  | w2 hg hw => obtain rfl := keep rfl; exact .w2 (Goes.rely tA hg (ra_same hw h')) h'
  | wm hg hw hk => exact .wm (Goes.rely tB hg (rb_same hw (nk hk).1 h')) h' (nk hk).2
  | w3 hg hw hk => exact .w3 (Goes.rely tB hg (rb_same hw (nk hk).1 h')) h' (nk hk).2
  | bl hg hw hk => exact .bl (fun w₂ h₂ => hg w₂ ((rb_same hw (nk hk).1 h').trans h₂)) h' (nk hk).2

theorem Cp.act2 {r m d : Nat} {st : Int} {g : Goroutine} {w : World} (hst : Stt st) (hAr : ∀ g w, Anch g w → g.status = .running) (h : Cp P ty Wg J Anch Ret r m d st g w) : Act2 g := by
  cases h with
  | kd hg hw => exact .inl (Goes.running (fun _ _ x => x.1) w (ra_same hw hw) hg)
  | an hg hw => exact .inl (Goes.running hAr w (ra_same hw hw) hg)
  | w1 hg hw => exact .inl (Goes.running (fun _ _ x => x.1) w (ra_same hw hw) hg)
  | w2 hg hw => exact .inl (Goes.running (fun _ _ x => x.1) w (ra_same hw hw) hg)
  | wm hg hw hk => exact .inl (Goes.running (fun _ _ x => x.1) w (rb_same hw (hst.resolve_left hk) hw) hg)
  | w3 hg hw hk => exact .inl (Goes.running (fun _ _ x => x.1) w (rb_same hw (hst.resolve_left hk) hw) hg)
  | @bl g _ _ hg hw hk => exact .inr ⟨rfl, (hg w (rb_same hw (hst.resolve_left hk) hw)).2.1⟩

theorem Cp.wok {r m d : Nat} {st : Int} {g g' : Goroutine} {w : World} (hst : Stt st) (hAr : ∀ g w, Anch g w → g.status = .running) (h : Cp P ty Wg J Anch Ret r m d st g w) (hk : Wok g g') : ∃ m', Cp P ty Wg J Anch Ret r m' d st g' w ∧ (g' = g ∧ m' = m ∨ m' ≤ m + 1) := by
  rcases hk with rfl | ⟨hb, ho, rfl⟩
  · exact ⟨m, h, .inl ⟨rfl, rfl⟩⟩
  · cases h with
    | kd hg hw => have := Goes.running (fun _ _ x => x.1) w (ra_same hw hw) hg; rw [this] at hb; cases hb
    | an hg hw => have := Goes.running hAr w (ra_same hw hw) hg; rw [this] at hb; cases hb
    | w1 hg hw => have := Goes.running (fun _ _ x => x.1) w (ra_same hw hw) hg; rw [this] at hb; cases hb
    | w2 hg hw => have := Goes.running (fun _ _ x => x.1) w (ra_same hw hw) hg; rw [this] at hb; cases hb
    | wm hg hw hk => have := Goes.running (fun _ _ x => x.1) w (rb_same hw (hst.resolve_left hk) hw) hg; rw [this] at hb; cases hb
    | w3 hg hw hk => have := Goes.running (fun _ _ x => x.1) w (rb_same hw (hst.resolve_left hk) hw) hg; rw [this] at hb; cases hb
    | @bl g _ _ hg hw hk =>
      have hr : g.status = .running := (hg w (rb_same hw (hst.resolve_left hk) hw)).1
      refine ⟨1, ?_, .inr (by omega)⟩
      have e : ({ ({ g with status := .blocked } : Goroutine) with status := .running } : Goroutine) = g := by
        obtain ⟨fr, cs, st, dy, off⟩ := g
        simp only at hr
        subst hr
        rfl
      rw [e]
      exact .w3 (m := 0) (.stop fun w₁ h₁ => hg w₁ h₁) hw hk

/-- What the caller's step leaves of the group: as it was, or 2^32 + 1 for 2^32. -/
def CW (_ty : TypeId) (Wg : Nat) (st st' : Int) (w w' : World) : Prop := (st' = st ∧ w' = w) ∨ (st = KK ∧ st' = KK + 1 ∧ w' = w.setCell (stA Wg) (.int .u64 (KK + 1)))

def EvC (X : Nat → Prop) (Wg : Nat) (es : Array Event) : Prop := ∀ e ∈ es, Ev1 X e ∧ MemAct.ofEvent e ≠ .mark (.release (stA Wg))

theorem evC_none (X : Nat → Prop) (Wg : Nat) : EvC X Wg #[] := by intro e he; simp at he
theorem ev1_mark {X : Nat → Prop} {m : Mark} (h : (MemAct.mark m).touch? = none) : Ev1 X (mk m) := fun x hx => by
  rw [show MemAct.ofEvent (mk m) = .mark m from rfl, h] at hx; cases hx
theorem ev1_wg {X : Nat → Prop} (hX : X Wg) (wr' : Bool) (off : Nat) : Ev1 X ⟨.cell ⟨Wg, off, none⟩, wr', true⟩ := fun x hx => by
  simp only [MemAct.ofEvent, MemAct.touch?, Option.some.injEq] at hx
  subst hx
  exact ⟨⟨_, rfl, hX⟩, by simp⟩

theorem goes_now {R : World → World → Prop} {D : World → World → Array Event → Prop} {Stop : Goroutine → World → Prop} {n : Nat} {g : Goroutine} {w : World} (h : Goes P true R D Stop n g w) :
    (∀ w₁, R w w₁ → Stop g w₁) ∨ ∃ n', n = n' + 1 ∧ ∀ w₁, R w w₁ → (stepG P true g w₁).goes fun g' w' es => D w₁ w' es ∧ Goes P true R D Stop n' g' w' := by
  cases n with
  | zero => exact .inl h
  | succ n => exact h.imp id fun x => ⟨n, rfl, x.2⟩

theorem Cp.step {X : Nat → Prop} (hX : X Wg) (hAn : ∀ g w, Anch g w → ∃ m, Goes P true (RA ty Wg J) DC0 (AtW1 P ty Wg J Anch Ret) m g w)
    {r m d : Nat} {st : Int} {g : Goroutine} {w : World} (hst : Stt st) (h : Cp P ty Wg J Anch Ret r m d st g w) (hg : g.status = .running) (dd : Nat) :
    ∃ r' m' st' g' w' es, stepG P true g (w.at dd) = .go g' w' es ∧ Cp P ty Wg J Anch Ret r' m' (deafBehind d es) st' g' w' ∧ (r' < r ∨ (r' = r ∧ m' < m)) ∧ CW ty Wg st st' (w.at dd) w' ∧ EvC X Wg es := by
  have idle : ∀ {R : World → World → Prop} {Stop : Goroutine → World → Prop} {n' : Nat}, (∀ w₁, R w w₁ → (stepG P true g w₁).goes fun g' w' es => DC0 w₁ w' es ∧ Goes P true R DC0 Stop n' g' w') → R w (w.at dd) →
      ∃ g', stepG P true g (w.at dd) = .go g' (w.at dd) #[] ∧ Goes P true R DC0 Stop n' g' (w.at dd) := by
    intro R Stop n' hx hr
    have := hx _ hr
    cases hs : stepG P true g (w.at dd) with
    | go g' w' es =>
      rw [hs, goes_go] at this
      obtain ⟨⟨rfl, rfl⟩, h2⟩ := this
      exact ⟨g', rfl, h2⟩
    | _ => rw [hs] at this; exact this.elim
  have atA : WgAt ty Wg w KK 0 → RA ty Wg J w (w.at dd) := fun hw => ra_same hw hw
  have step1 : ∀ {m : Nat}, Goes P true (RA ty Wg J) DC0 (AtW1 P ty Wg J Anch Ret) m g w → WgAt ty Wg w KK 0 →
      ∃ r' m' st' g' w' es, stepG P true g (w.at dd) = .go g' w' es ∧ Cp P ty Wg J Anch Ret r' m' (deafBehind 1 es) st' g' w' ∧ (r' < 4 ∨ (r' = 4 ∧ m' < m)) ∧ CW ty Wg KK st' (w.at dd) w' ∧ EvC X Wg es := by
    intro m hG hw
    rcases goes_now hG with hs | ⟨n', rfl, hs⟩
    · obtain ⟨_, g', h1, h2, _⟩ := hs _ (atA hw)
      obtain ⟨m', h3⟩ := h2 hw
      refine ⟨3, m', KK, g', _, _, h1, ?_, .inl (by omega), .inl ⟨rfl, rfl⟩, fun e he => ?_⟩
      · exact .w2 h3 hw
      · simp at he; subst he; exact ⟨ev1_wg hX _ _, by simp [rd, MemAct.ofEvent]⟩
    · obtain ⟨g', h1, h2⟩ := idle hs (atA hw)
      exact ⟨4, n', KK, g', _, _, h1, .w1 h2 hw, .inr ⟨rfl, by omega⟩, .inl ⟨rfl, rfl⟩, evC_none X Wg⟩
  cases h with
  | kd hG hw =>
    rcases goes_now hG with hs | ⟨n', rfl, hs⟩
    · obtain ⟨_, g', h1, m', h2⟩ := hs _ (atA hw)
      refine ⟨5, m', KK, g', _, _, h1, .an h2 hw, .inl (by omega), .inl ⟨rfl, rfl⟩, fun e he => ?_⟩
      simp at he; subst he; exact ⟨ev1_mark rfl, by simp [mk, MemAct.ofEvent]⟩
    · obtain ⟨g', h1, h2⟩ := idle hs (atA hw)
      exact ⟨6, n', KK, g', _, _, h1, .kd h2 hw, .inr ⟨rfl, by omega⟩, .inl ⟨rfl, rfl⟩, evC_none X Wg⟩
  | an hG hw =>
    rcases goes_now hG with hs | ⟨n', rfl, hs⟩
    · obtain ⟨m', h1⟩ := hAn g w (hs w (ra_same hw hw))
      obtain ⟨r', m', st', g', w', es, e1, e2, e3, e4⟩ := step1 h1 hw
      exact ⟨r', m', st', g', w', es, e1, e2, .inl (by omega), e4⟩
    · obtain ⟨g', h1, h2⟩ := idle hs (atA hw)
      exact ⟨5, n', KK, g', _, _, h1, .an h2 hw, .inr ⟨rfl, by omega⟩, .inl ⟨rfl, rfl⟩, evC_none X Wg⟩
  | w1 hG hw => exact step1 hG hw
  | w2 hG hw =>
    rcases goes_now hG with hs | ⟨n', rfl, hs⟩
    · obtain ⟨_, h1, _⟩ := hs _ (atA hw)
      obtain ⟨g', h2, m', h3⟩ := h1 hw
      refine ⟨2, m', KK + 1, g', _, _, h2, .wm h3 (ConcX.WgAt.setSt (w := w.at dd) hw _) (by decide), .inl (by omega), .inr ⟨rfl, rfl, rfl⟩, fun e he => ?_⟩
      simp at he
      rcases he with rfl | rfl
      · exact ⟨ev1_wg hX _ _, by simp [rd, MemAct.ofEvent]⟩
      · exact ⟨ev1_wg hX _ _, by simp [wr, MemAct.ofEvent]⟩
    · obtain ⟨g', h1, h2⟩ := idle hs (atA hw)
      exact ⟨3, n', KK, g', _, _, h1, .w2 h2 hw, .inr ⟨rfl, by omega⟩, .inl ⟨rfl, rfl⟩, evC_none X Wg⟩
  | wm hG hw hk =>
    have hr : RB ty Wg J w (w.at dd) := rb_same hw (hst.resolve_left hk) hw
    rcases goes_now hG with hs | ⟨n', rfl, hs⟩
    · obtain ⟨_, g', h2, m', h3⟩ := hs _ hr
      refine ⟨1, m' + 1, st, g', _, _, h2, .w3 h3 hw hk, .inl (by omega), .inl ⟨rfl, rfl⟩, fun e he => ?_⟩
      simp at he; subst he
      refine ⟨fun x hx => ?_, by simp [mk, MemAct.ofEvent]⟩
      simp only [mk, MemAct.ofEvent, MemAct.touch?, Option.some.injEq] at hx
      subst hx
      exact ⟨⟨_, rfl, hX⟩, by simp⟩
    · obtain ⟨g', h1, h2⟩ := idle hs hr
      exact ⟨2, n', st, g', _, _, h1, .wm h2 hw hk, .inr ⟨rfl, by omega⟩, .inl ⟨rfl, rfl⟩, evC_none X Wg⟩
  | w3 hG hw hk =>
    have hr : RB ty Wg J w (w.at dd) := rb_same hw (hst.resolve_left hk) hw
    rcases goes_now hG with hs | ⟨n', rfl, hs⟩
    · obtain ⟨_, _, h2, _⟩ := hs _ hr
      exact ⟨1, 0, st, _, _, _, h2 ⟨st, hw⟩, .bl (fun w₁ h₁ => hs w₁ (hr.trans h₁)) hw hk, .inr ⟨rfl, by omega⟩, .inl ⟨rfl, rfl⟩, evC_none X Wg⟩
    · obtain ⟨g', h1, h2⟩ := idle hs hr
      exact ⟨1, n' + 1, st, g', _, _, h1, .w3 h2 hw hk, .inr ⟨rfl, by omega⟩, .inl ⟨rfl, rfl⟩, evC_none X Wg⟩
  | bl hG hw hk => cases hg
end
end Go.Bp

/- The worker's walk beside the caller in Wait. -/
namespace Go.Bp
open Go Go.Conc Go.Conc.Lib
open Go.ConcX (WgAt KK stA smA rd wr mk DC0 kk_ne)
open Go.ConcN (sumTo)

section
variable {P : Program} {ty : TypeId} {Wg c : Nat} {J : World → Prop} {Anch Ret : Goroutine → World → Prop} {X : Nat → Prop} {TP : Nat → Trace → Prop}

/-- The worker b has just made a step. -/
def Moved (P : Program) (ty : TypeId) (Wg c : Nat) (J : World → Prop) (Anch Ret : Goroutine → World → Prop) (TP : Nat → Trace → Prop) (b : Goroutine) (BW : World → Prop) (m : Machine) (t : Trace) : Prop :=
  ∃ r k d st a w1 b' w' es t1, Cp P ty Wg J Anch Ret r k d st a w1 ∧ Stt st ∧ BW w1 ∧ TP d t1 ∧ stepG P false b w1 = .go b' w' es ∧ t = t1 ++ MemOp.ofEvents c b.frame.fn b.frame.place es ∧ S2 P c (woken P b b' w' a) b' w' m t

theorem ofE {γ : Nat} {fn : FuncId} {pos : String} {es : Array Event} : ∀ op ∈ MemOp.ofEvents γ fn pos es, op.g = γ := fun op hop => by obtain ⟨e, _, rfl⟩ := Go.Conc.mem_ofEvents hop; rfl

theorem until_b (hc : c ≠ 0) (hX : X Wg) (hAn : ∀ g w, Anch g w → ∃ m, Goes P true (RA ty Wg J) DC0 (AtW1 P ty Wg J Anch Ret) m g w) (hAr : ∀ g w, Anch g w → g.status = .running)
    (hTm : ∀ d, Muted (act2 c) (TP d)) (hT0 : ∀ d t fn pos es, EvC X Wg es → TP d t → TP (deafBehind d es) (t ++ MemOp.ofEvents 0 fn pos es))
    {b : Goroutine} (hb : b.status = .running) {BW : World → Prop} (hBat : ∀ w d, BW w → BW (w.at d)) (hBc : ∀ w, WgAt ty Wg w KK 0 → BW w → BW (w.setCell (stA Wg) (.int .u64 (KK + 1))))
    (hB : ∀ w, BW w → ∃ b' w' es, stepG P false b w = .go b' w' es) :
    ∀ (r M : Nat) (gs : Array Goroutine) (sl : Option (Nat × Nat)) (q : Nat → Nat) (m d : Nat) (st : Int) (a : Goroutine) (w : World) (t : Trace), 2 * sumTo gs.size q + m ≤ M →
      Cp P ty Wg J Anch Ret r m d st a w → Stt st → BW w → gs[0]? = some a → gs[c]? = some b → Lv P (act2 c) t gs q → TP d t →
      ∃ N m' t', runNT P N (crowd gs w sl) t = (.next m', t') ∧ Moved P ty Wg c J Anch Ret TP b BW m' t' := by
  intro r
  induction r using Nat.strongRecOn with
  | _ r ihr =>
    intro M
    induction M using Nat.strongRecOn with
    | _ M ihM =>
      intro gs sl q m d st a w t hM hcp hst hbw h0 hcb hL ht
      obtain ⟨N, gs', d1, sl', t', q', i, g, d2, sl2, r1, r2, r3, r4, r5, r6, r7, r8, r9, r10, r11⟩ := pick (act := act2 c) rfl (hTm d) _ gs w sl t q (Nat.le_refl _) hL
        (fun i g hi hg => by
          have : i = 0 ∨ i = c := by simpa [act2] using hi
          rcases this with rfl | rfl
          · rw [h0] at hg; cases hg; exact hcp.act2 hst hAr
          · rw [hcb] at hg; cases hg; exact .inl hb) ⟨c, b, by simp [act2], hcb, hb⟩ ht
      obtain ⟨a2, ha2, hwa⟩ := r8 0 a rfl h0
      obtain ⟨b2, hb2, hwb⟩ := r8 c b (by simp [act2]) hcb
      have hbb : b2 = b := by
        rcases hwb with h | ⟨h, _⟩
        · exact h
        · rw [hb] at h; cases h
      subst hbb
      obtain ⟨m2, hcp2, hmeas⟩ : ∃ m2, Cp P ty Wg J Anch Ret r m2 d st a2 w ∧ 2 * sumTo gs'.size q' + m2 ≤ 2 * sumTo gs.size q + m := by
        rcases r11 with h | h
        · obtain ⟨m2, hcp2, hm2⟩ := hcp.wok hst hAr hwa
          exact ⟨m2, hcp2, by rcases hm2 with ⟨_, h2⟩ | h2 <;> omega⟩
        · have := h 0 rfl
          rw [ha2, h0] at this
          cases this
          exact ⟨m, hcp, by omega⟩
      have hcp2' : Cp P ty Wg J Anch Ret r m2 d st a2 (w.at d2) := hcp2.rely hcp2.wg (.inl rfl) hst
      have hbw' : BW (w.at d2) := hBat _ _ hbw
      have : i = 0 ∨ i = c := by simpa [act2] using r5
      rcases this with rfl | rfl
      · -- the caller
        rw [ha2] at r6
        have hga := Option.some.inj r6
        subst hga
        obtain ⟨r', m', st', g', w', es, e1, e2, e3, e4, e5⟩ := Cp.step hX hAn hst hcp2 r7 d2
        have hst' : Stt st' := by
          rcases e4 with ⟨rfl, _⟩ | ⟨_, rfl, _⟩
          · exact hst
          · exact .inr (.inl rfl)
        have hbw2 : BW w' := by
          rcases e4 with ⟨_, rfl⟩ | ⟨rfl, _, rfl⟩
          · exact hbw'
          · exact hBc _ hcp2'.wg hbw'
        have hrunT := runT_crowd_go (P := P) (sl := sl2) (i := 0) ha2 (show stepG P (0 == 0) a2 (w.at d2) = _ from e1)
        have hlt : 0 < gs'.size := (Array.getElem?_eq_some_iff.1 ha2).1
        have hsz : ((gs'.map (woken P a2 g' w')).setIfInBounds 0 g').size = gs'.size := by simp
        have hcur : ((gs'.map (woken P a2 g' w')).setIfInBounds 0 g')[c]? = some b2 := by
          rw [Array.getElem?_setIfInBounds_ne (Ne.symm hc), Array.getElem?_map, hb2]
          simp [woken_run hb]
        have hL' : Lv P (act2 c) (t' ++ MemOp.ofEvents 0 a2.frame.fn a2.frame.place es) ((gs'.map (woken P a2 g' w')).setIfInBounds 0 g') q' := ⟨fun j y hj hy => by
            have hj0 : 0 ≠ j := by
              intro e; subst e; simp [act2] at hj
            rw [Array.getElem?_setIfInBounds_ne hj0, Array.getElem?_map] at hy
            obtain ⟨z, hz, rfl⟩ := Option.map_eq_some_iff.1 hy
            have hqj := r3.old j z hj hz
            rw [woken_quitsD hqj, Deaf_other t' hj0 _ ofE]
            exact hqj, fun j hj => by
            rw [Deaf_other t' (g' := 0) (by simp at hj; omega) _ ofE]
            exact r3.above j (by simpa using hj)⟩
        have next : ∃ N2 m3 t3, runNT P N2 (crowd ((gs'.map (woken P a2 g' w')).setIfInBounds 0 g') w' sl2) (t' ++ MemOp.ofEvents 0 a2.frame.fn a2.frame.place es) = (.next m3, t3) ∧ Moved P ty Wg c J Anch Ret TP b2 BW m3 t3 := by
          rcases e3 with h | ⟨rfl, h⟩
          · exact ihr r' h _ _ sl2 q' m' _ st' g' w' _ (Nat.le_refl _) e2 hst' hbw2 (by simp [hlt]) hcur hL' (hT0 _ _ _ _ _ e5 r4)
          · exact ihM (2 * sumTo gs'.size q' + m') (by omega) _ sl2 q' m' _ st' g' w' _ (by rw [hsz]; omega) e2 hst' hbw2 (by simp [hlt]) hcur hL' (hT0 _ _ _ _ _ e5 r4)
        obtain ⟨N2, m3, t3, h1, h2⟩ := next
        exact ⟨N + (N2 + 1), m3, t3, by rw [runNT_add, r1]; simp only [runNT, r9, hrunT]; exact h1, h2⟩
      · -- the worker
        rw [hb2] at r6
        have hga := Option.some.inj r6
        subst hga
        obtain ⟨b', w', es, e1⟩ := hB _ hbw'
        have hi0 : (i == 0) = false := by simp [hc]
        have hrunT := runT_crowd_go (P := P) (sl := sl2) (i := i) hb2 (by rw [hi0]; exact e1)
        have hlt : i < gs'.size := (Array.getElem?_eq_some_iff.1 hb2).1
        refine ⟨N + 1, _, _, by rw [runNT_add, r1]; simp only [runNT, r9, hrunT]; rfl, r, m2, d, st, a2, w.at d2, b', w', es, t', hcp2', hst, hbw', r4, e1, rfl, _, sl2, q', rfl, ?_, by simp [hlt], ⟨fun j y hj hy => ?_, fun j hj => ?_⟩⟩
        · rw [Array.getElem?_setIfInBounds_ne hc, Array.getElem?_map, ha2]; rfl
        · have hji : i ≠ j := by
            intro e; subst e; simp [act2] at hj
          rw [Array.getElem?_setIfInBounds_ne hji, Array.getElem?_map] at hy
          obtain ⟨z, hz, rfl⟩ := Option.map_eq_some_iff.1 hy
          have hqj := r3.old j z hj hz
          rw [woken_quitsD hqj, Deaf_other t' hji _ ofE]
          exact hqj
        · rw [Deaf_other t' (g' := i) (by simp at hj; omega) _ ofE]
          exact r3.above j (by simpa using hj)
end
end Go.Bp

/- Behind the worker's end: the caller alone comes out of Wait. -/
namespace Go.Bp
open Go Go.Conc Go.Conc.Lib
open Go.ConcX (WgAt KK stA smA rd wr mk DC0 kk_ne)
open Go.ConcN (sumTo upd upd_ne upd_same)

section
variable {P : Program} {ty : TypeId} {Wg c : Nat} {J : World → Prop} {Anch Ret : Goroutine → World → Prop} {X : Nat → Prop}

def T2 (X : Nat → Prop) (Wg c d : Nat) (t : Trace) : Prop := ∃ dc r, Pw X c d dc t ∧ Rl X Wg c r t

theorem muted_norel {e : Event} (h : e.mute = true) : MemAct.ofEvent e ≠ .mark (.release (stA Wg)) := by
  rcases act_mute h with e | e <;> rw [e] <;> simp

theorem T2.muted (hc : c ≠ 0) (d : Nat) : Muted act0 (T2 X Wg c d) := by
  intro t γ fn pos es hγ hm ⟨dc, r, h1, h2⟩
  have hγ0 : γ ≠ 0 := by intro e; subst e; simp [act0] at hγ
  by_cases hγc : γ = c
  · subst hγc
    exact ⟨_, r, Pw.ownc hc h1 (fun e he x hx => by rw [touch_mute (hm e he)] at hx; cases hx), h2.quiet (fun e he => muted_norel (hm e he)) (fun _ e he => touch_mute (hm e he))⟩
  · exact ⟨dc, r, h1.mute hγ0 hγc hm, h2.quiet (fun e he => muted_norel (hm e he)) (fun h => absurd h hγc)⟩

theorem T2.own (hc : c ≠ 0) {d : Nat} {t : Trace} {fn : FuncId} {pos : String} {es : Array Event} (he : EvC X Wg es) (h : T2 X Wg c d t) : T2 X Wg c (deafBehind d es) (t ++ MemOp.ofEvents 0 fn pos es) := by
  obtain ⟨dc, r, h1, h2⟩ := h
  exact ⟨dc, r, h1.own0 hc (fun e h => (he e h).1), h2.quiet (fun e h => (he e h).2) (fun h => absurd h.symm hc)⟩

theorem Ps.muted (d : Nat) : Muted act0 (Ps X d) := by
  intro t γ fn pos es hγ hm h
  exact h.mute (by intro e; subst e; simp [act0] at hγ) hm

theorem ofE_nil {g : Nat} {fn : FuncId} {pos : String} {t : Trace} : t ++ MemOp.ofEvents g fn pos #[] = t := by simp [MemOp.ofEvents]

/-- A walk of the caller's that lists nothing. -/
theorem still_to {T : Trace → Prop} (hT : Muted act0 T) {R : World → World → Prop} {Stop : Goroutine → World → Prop} (hR : ∀ w d, R w (w.at d)) {n : Nat} {a : Goroutine} {w : World} (h : Goes P true R DC0 Stop n a w) :
    To P (Fr P T a w) (fun m t => ∃ a' w', Fr P T a' w' m t ∧ ∀ d, Stop a' (w'.at d)) :=
  (goes_to hT hR (fun w w' es t fn pos hd ht => by obtain ⟨_, rfl⟩ := hd; rw [ofE_nil]; exact ht) n a w h).mono fun m t ⟨a', w', h1, h2⟩ => ⟨a', w', h1, fun d => h2 _ (hR _ d)⟩

/-- The acquire, and out. -/
theorem tailAcq (hc : c ≠ 0) (hR : ∀ w d, RJ ty Wg J w (w.at d)) {a : Goroutine} {w : World} (h : ∀ d, AtAcq P ty Wg J Ret a (w.at d)) :
    To P (Fr P (T2 X Wg c 0) a w) (fun m t => ∃ a' w', Fr P (Ps X 0) a' w' m t ∧ ∀ d, Ret a' (w'.at d)) := by
  refine (one0 (T' := Ps X 0) (Nx := fun a' w' => ∃ m, Goes P true (RJ ty Wg J) DC0 Ret m a' w') (T2.muted hc 0) (h w.drawn).1 fun d => ?_).trans fun m t ⟨a', w', hf, n, hg⟩ => still_to (Ps.muted 0) hR hg m t hf
  obtain ⟨_, g', h1, m, h2⟩ := h d
  exact ⟨g', _, _, h1, fun t fn pos ⟨dc, r, k1, k2⟩ => k1.acquire k2, m, h2⟩

theorem tailKe (hc : c ≠ 0) (hR : ∀ w d, RJ ty Wg J w (w.at d)) {a : Goroutine} {w : World} {n : Nat} (h : Goes P true (RJ ty Wg J) DC0 (AtKe P ty Wg J Ret) n a w) :
    To P (Fr P (T2 X Wg c 1) a w) (fun m t => ∃ a' w', Fr P (Ps X 0) a' w' m t ∧ ∀ d, Ret a' (w'.at d)) := by
  refine (still_to (T2.muted hc 1) hR h).trans fun m t ⟨a1, w1, hf, h1⟩ => ?_
  refine ((one0 (T' := T2 X Wg c 0) (Nx := fun a' w' => ∃ m, Goes P true (RJ ty Wg J) DC0 (AtAcq P ty Wg J Ret) m a' w') (T2.muted hc 1) (h1 w1.drawn).1 fun d => ?_).trans fun m t ⟨a', w', hf, n, hg⟩ => ?_) m t hf
  · obtain ⟨_, g', h2, m, h3⟩ := h1 d
    refine ⟨g', _, _, h2, fun t fn pos ht => T2.own hc (es := #[mk .enable]) (fun e he => ?_) ht, m, h3⟩
    simp at he; subst he; exact ⟨ev1_mark rfl, by simp [mk, MemAct.ofEvent]⟩
  · exact ((still_to (T2.muted hc 0) hR hg).trans fun m t ⟨a2, w2, hf2, h2⟩ => tailAcq hc hR h2 m t hf2) m t hf

theorem tailW1 (hc : c ≠ 0) (hX : X Wg) (hJ : ∀ w d, J w → J (w.at d)) {a : Goroutine} {w : World} (h : ∀ d, AtW1 P ty Wg J Anch Ret a (w.at d)) (hk : KwC ty Wg J w) :
    To P (Fr P (T2 X Wg c 1) a w) (fun m t => ∃ a' w', Fr P (Ps X 0) a' w' m t ∧ ∀ d, Ret a' (w'.at d)) := by
  refine (one0 (T' := T2 X Wg c 1) (Nx := fun a' w' => ∃ m, Goes P true (RJ ty Wg J) DC0 (AtKe P ty Wg J Ret) m a' w') (T2.muted hc 1) (h w.drawn).1 fun d => ?_).trans fun m t ⟨a', w', hf, n, hg⟩ => tailKe hc (fun w d hw => ⟨hw.1, hJ _ _ hw.2⟩) hg m t hf
  obtain ⟨_, g', h1, _, h3⟩ := h d
  obtain ⟨m, h3⟩ := h3 ⟨hk.1, hJ _ _ hk.2⟩
  refine ⟨g', _, _, h1, fun t fn pos ht => T2.own hc (es := #[rd (stA Wg)]) (fun e he => ?_) ht, m, h3⟩
  simp at he; subst he; exact ⟨ev1_wg hX _ _, by simp [rd, MemAct.ofEvent]⟩

theorem goesC {R : World → World → Prop} {Q : World → Prop} (hQ : ∀ w w', R w w' → Q w → Q w') {Stop : Goroutine → World → Prop} : ∀ {n : Nat} {a : Goroutine} {w : World}, Goes P true R DC0 Stop n a w → Q w → Goes P true R DC0 (fun a w => Stop a w ∧ Q w) n a w
  | 0, _, _, h, hq => fun w₁ h₁ => ⟨h w₁ h₁, hQ _ _ h₁ hq⟩
  | n + 1, a, w, h, hq => by
    rcases h with h | ⟨hs, h⟩
    · exact .inl fun w₁ h₁ => ⟨h w₁ h₁, hQ _ _ h₁ hq⟩
    · refine .inr ⟨hs, fun w₁ h₁ => ?_⟩
      have := h w₁ h₁
      revert this
      cases stepG P true a w₁ <;> simp only [GStep.goes, imp_self]
      exact fun ⟨hd, hg⟩ => ⟨hd, goesC hQ hg (by rw [hd.1]; exact hQ _ _ h₁ hq)⟩

theorem tailAn (hc : c ≠ 0) (hX : X Wg) (hJ : ∀ w d, J w → J (w.at d)) (_hAn : ∀ g w, Anch g w → ∃ m, Goes P true (RA ty Wg J) DC0 (AtW1 P ty Wg J Anch Ret) m g w)
    {n : Nat} {a : Goroutine} {w : World} (h : Goes P true (RA ty Wg J) DC0 (AtW1 P ty Wg J Anch Ret) n a w) (hk : KwC ty Wg J w) :
    To P (Fr P (T2 X Wg c 1) a w) (fun m t => ∃ a' w', Fr P (Ps X 0) a' w' m t ∧ ∀ d, Ret a' (w'.at d)) := by
  have hRA : ∀ w d, RA ty Wg J w (w.at d) := fun w d => ⟨fun x => x.elim .inl fun y => .inr ⟨y.1, hJ _ _ y.2⟩, fun y => ⟨y.1, hJ _ _ y.2⟩⟩
  refine (still_to (T2.muted hc 1) hRA (goesC (Q := KwC ty Wg J) (fun w w' r q => r.c q) h hk)).trans fun m t ⟨a1, w1, hf, h1⟩ => ?_
  exact tailW1 hc hX hJ (fun d => (h1 d).1) ((h1 w1.drawn).2) m t hf

theorem tailAnch (hc : c ≠ 0) (hX : X Wg) (hJ : ∀ w d, J w → J (w.at d)) (hAn : ∀ g w, Anch g w → ∃ m, Goes P true (RA ty Wg J) DC0 (AtW1 P ty Wg J Anch Ret) m g w)
    {n : Nat} {a : Goroutine} {w : World} (h : Goes P true (RA ty Wg J) DC0 Anch n a w) (hk : KwC ty Wg J w) :
    To P (Fr P (T2 X Wg c 1) a w) (fun m t => ∃ a' w', Fr P (Ps X 0) a' w' m t ∧ ∀ d, Ret a' (w'.at d)) := by
  have hRA : ∀ w d, RA ty Wg J w (w.at d) := fun w d => ⟨fun x => x.elim .inl fun y => .inr ⟨y.1, hJ _ _ y.2⟩, fun y => ⟨y.1, hJ _ _ y.2⟩⟩
  refine (still_to (T2.muted hc 1) hRA (goesC (Q := KwC ty Wg J) (fun w w' r q => r.c q) h hk)).trans fun m t ⟨a1, w1, hf, h1⟩ => ?_
  obtain ⟨m', h2⟩ := hAn a1 (w1.at w1.drawn) (h1 w1.drawn).1
  exact tailAn hc hX hJ hAn h2 (h1 w1.drawn).2 m t hf

/-- The join is there to be seen: from wherever the caller is. -/
theorem outA (hc : c ≠ 0) (hX : X Wg) (hJ : ∀ w d, J w → J (w.at d)) (hAn : ∀ g w, Anch g w → ∃ m, Goes P true (RA ty Wg J) DC0 (AtW1 P ty Wg J Anch Ret) m g w)
    {r m d : Nat} {a : Goroutine} {w w' : World} (h : Cp P ty Wg J Anch Ret r m d KK a w) (hk : KwC ty Wg J w') :
    To P (Fr P (T2 X Wg c d) a w') (fun m t => ∃ a' w', Fr P (Ps X 0) a' w' m t ∧ ∀ d, Ret a' (w'.at d)) := by
  have hRA : ∀ w d, RA ty Wg J w (w.at d) := fun w d => ⟨fun x => x.elim .inl fun y => .inr ⟨y.1, hJ _ _ y.2⟩, fun y => ⟨y.1, hJ _ _ y.2⟩⟩
  have tA := fun a b c (h1 : RA ty Wg J a b) (h2 : RA ty Wg J b c) => h1.trans h2
  have hr : WgAt ty Wg w KK 0 → RA ty Wg J w w' := fun hw => ⟨fun _ => .inr hk, fun x => absurd (hw.unique x.1).1 kk_ne⟩
  cases h with
  | kd hg hw =>
    refine (still_to (T2.muted hc 0) hRA (goesC (Q := KwC ty Wg J) (fun w w' r q => r.c q) (Goes.rely tA hg (hr hw)) hk)).trans fun m t ⟨a1, w1, hf, h1⟩ => ?_
    refine ((one0 (T' := T2 X Wg c 1) (Nx := fun a' w' => (∃ m, Goes P true (RA ty Wg J) DC0 Anch m a' w') ∧ KwC ty Wg J w') (T2.muted hc 0) (h1 w1.drawn).1.1 fun d => ?_).trans fun m t ⟨a', w', hf, ⟨n, hg⟩, hk⟩ => tailAnch hc hX hJ hAn hg hk m t hf) m t hf
    obtain ⟨⟨_, g', h2, m, h3⟩, h4⟩ := h1 d
    refine ⟨g', _, _, h2, fun t fn pos ht => T2.own hc (es := #[mk .disable]) (fun e he => ?_) ht, ⟨m, h3⟩, h4⟩
    simp at he; subst he; exact ⟨ev1_mark rfl, by simp [mk, MemAct.ofEvent]⟩
  | an hg hw => exact tailAnch hc hX hJ hAn (Goes.rely tA hg (hr hw)) hk
  | w1 hg hw => exact tailAn hc hX hJ hAn (Goes.rely tA hg (hr hw)) hk
  | w2 hg hw =>
    refine (still_to (T2.muted hc 1) hRA (goesC (Q := KwC ty Wg J) (fun w w' r q => r.c q) (Goes.rely tA hg (hr hw)) hk)).trans fun m t ⟨a1, w1, hf, h1⟩ => ?_
    refine ((one0 (T' := T2 X Wg c 1) (Nx := fun a' w' => (∃ m, Goes P true (RA ty Wg J) DC0 Anch m a' w') ∧ KwC ty Wg J w') (T2.muted hc 1) (h1 w1.drawn).1.1 fun d => ?_).trans fun m t ⟨a', w', hf, ⟨n, hg⟩, hk⟩ => tailAnch hc hX hJ hAn hg hk m t hf) m t hf
    obtain ⟨⟨_, _, h2⟩, h4⟩ := h1 d
    obtain ⟨g', h3, m, h5⟩ := h2 h4
    refine ⟨g', _, _, h3, fun t fn pos ht => T2.own hc (es := #[rd (stA Wg)]) (fun e he => ?_) ht, ⟨m, h5⟩, h4⟩
    simp at he; subst he; exact ⟨ev1_wg hX _ _, by simp [rd, MemAct.ofEvent]⟩
  | wm hg hw hk' => exact absurd rfl hk'
  | w3 hg hw hk' => exact absurd rfl hk'
  | bl hg hw hk' => exact absurd rfl hk'

theorem tailW3 (hc : c ≠ 0) (hX : X Wg) (hJ : ∀ w d, J w → J (w.at d)) (_hJk : Kept Wg J) {n : Nat} {a : Goroutine} {w : World} (h : Goes P true (RB ty Wg J) DC0 (AtW3 P ty Wg J Ret) n a w) (hk : KwF ty Wg J w) :
    To P (Fr P (T2 X Wg c 1) a w) (fun m t => ∃ a' w', Fr P (Ps X 0) a' w' m t ∧ ∀ d, Ret a' (w'.at d)) := by
  have hRB : ∀ w d, RB ty Wg J w (w.at d) := fun w d => ⟨fun x => by
    rcases x with x | x | x | x
    · exact .inl x
    · exact .inr (.inl x)
    · exact .inr (.inr (.inl x))
    · exact .inr (.inr (.inr ⟨x.1, hJ _ _ x.2⟩)), fun y => ⟨y.1, hJ _ _ y.2⟩⟩
  have hRJ : ∀ w d, RJ ty Wg J w (w.at d) := fun w d hw => ⟨hw.1, hJ _ _ hw.2⟩
  refine (still_to (T2.muted hc 1) hRB (goesC (Q := KwF ty Wg J) (fun w w' r q => r.f q) h hk)).trans fun m t ⟨a1, w1, hf, h1⟩ => ?_
  refine ((one0 (T' := T2 X Wg c 1) (Nx := fun a' w' => ∃ m, Goes P true (RJ ty Wg J) DC0 (AtW4 P ty Wg J Ret) m a' w') (T2.muted hc 1) (h1 w1.drawn).1.1 fun d => ?_).trans fun m t ⟨a', w', hf, n, hg⟩ => ?_) m t hf
  · obtain ⟨⟨_, _, _, h2⟩, h4⟩ := h1 d
    obtain ⟨g', h3, m, h5⟩ := h2 h4
    refine ⟨g', _, _, h3, fun t fn pos ht => T2.own hc (es := semEvents (smA Wg)) (fun e he => ?_) ht, m, h5⟩
    simp [semEvents] at he
    rcases he with rfl | rfl | rfl | rfl
    · exact ⟨ev1_mark (m := .disable) rfl, by simp [MemAct.ofEvent]⟩
    · exact ⟨ev1_wg hX _ _, by simp [smA, MemAct.ofEvent]⟩
    · exact ⟨ev1_wg hX _ _, by simp [smA, MemAct.ofEvent]⟩
    · exact ⟨ev1_mark (m := .enable) rfl, by simp [MemAct.ofEvent]⟩
  · refine ((still_to (T2.muted hc 1) hRJ hg).trans fun m t ⟨a2, w2, hf2, h2⟩ => ?_) m t hf
    refine ((one0 (T' := T2 X Wg c 1) (Nx := fun a' w' => ∃ m, Goes P true (RJ ty Wg J) DC0 (AtKe P ty Wg J Ret) m a' w') (T2.muted hc 1) (h2 w2.drawn).1 fun d => ?_).trans fun m t ⟨a', w', hf, n, hg⟩ => tailKe hc hRJ hg m t hf) m t hf2
    obtain ⟨_, g', h3, m, h4⟩ := h2 d
    refine ⟨g', _, _, h3, fun t fn pos ht => T2.own hc (es := #[rd (stA Wg)]) (fun e he => ?_) ht, m, h4⟩
    simp at he; subst he; exact ⟨ev1_wg hX _ _, by simp [rd, MemAct.ofEvent]⟩

/-- The semaphore counts one: from wherever the caller is (it runs). -/
theorem outB (hc : c ≠ 0) (hX : X Wg) (hJ : ∀ w d, J w → J (w.at d)) (hJk : Kept Wg J) {r m d : Nat} {st : Int} {a : Goroutine} {w w' : World} (hst : st ≠ KK) (hst2 : Stt st) (h : Cp P ty Wg J Anch Ret r m d st a w) (ha : a.status = .running) (hk : KwF ty Wg J w') :
    To P (Fr P (T2 X Wg c d) a w') (fun m t => ∃ a' w', Fr P (Ps X 0) a' w' m t ∧ ∀ d, Ret a' (w'.at d)) := by
  have hRB : ∀ w d, RB ty Wg J w (w.at d) := fun w d => ⟨fun x => by
    rcases x with x | x | x | x
    · exact .inl x
    · exact .inr (.inl x)
    · exact .inr (.inr (.inl x))
    · exact .inr (.inr (.inr ⟨x.1, hJ _ _ x.2⟩)), fun y => ⟨y.1, hJ _ _ y.2⟩⟩
  have tB := fun a b c (h1 : RB ty Wg J a b) (h2 : RB ty Wg J b c) => h1.trans h2
  have hr : WgAt ty Wg w st 0 → RB ty Wg J w w' := fun hw => ⟨fun _ => .inr (.inr (.inr hk)), fun x => absurd (hw.unique x.1).2 (by decide)⟩
  cases h with
  | kd hg hw => exact absurd rfl hst
  | an hg hw => exact absurd rfl hst
  | w1 hg hw => exact absurd rfl hst
  | w2 hg hw => exact absurd rfl hst
  | wm hg hw _ =>
    refine (still_to (T2.muted hc 1) hRB (goesC (Q := KwF ty Wg J) (fun w w' r q => r.f q) (Goes.rely tB hg (hr hw)) hk)).trans fun m t ⟨a1, w1, hf, h1⟩ => ?_
    refine ((one0 (T' := T2 X Wg c 1) (Nx := fun a' w' => (∃ m, Goes P true (RB ty Wg J) DC0 (AtW3 P ty Wg J Ret) m a' w') ∧ KwF ty Wg J w') (T2.muted hc 1) (h1 w1.drawn).1.1 fun d => ?_).trans fun m t ⟨a', w', hf, ⟨n, hg⟩, hk⟩ => tailW3 hc hX hJ hJk hg hk m t hf) m t hf
    obtain ⟨⟨_, g', h2, m, h3⟩, h4⟩ := h1 d
    refine ⟨g', _, _, h2, fun t fn pos ht => T2.own hc (es := #[mk (.write (smA Wg))]) (fun e he => ?_) ht, ⟨m, h3⟩, h4⟩
    simp at he; subst he
    refine ⟨fun x hx => ?_, by simp [mk, MemAct.ofEvent]⟩
    simp only [mk, MemAct.ofEvent, MemAct.touch?, Option.some.injEq] at hx
    subst hx
    exact ⟨⟨_, rfl, hX⟩, by simp⟩
  | w3 hg hw _ => exact tailW3 hc hX hJ hJk (Goes.rely tB hg (hr hw)) hk
  | bl hg hw _ => cases ha
end
end Go.Bp

/- One worker, joined: from the go statement to behind Wait. -/
namespace Go.Bp
open Go Go.Conc Go.Conc.Lib
open Go.ConcX (WgAt KK stA smA rd wr mk DC0 kk_ne Payload Shy Full RCa RCd DCs AtR0 AtK1 AtD1 AtD2 AtD3 AtD4 KCa EvQ)
open Go.ConcN (sumTo upd upd_ne upd_same)

theorem Wk.of_goes {P : Program} {main : Bool} {R : World → World → Prop} {D : World → World → Array Event → Prop} {Stop : Goroutine → World → Prop} : ∀ {n : Nat} {g : Goroutine} {w : World}, Goes P main R D Stop n g w → Wk P main R D Stop g w
  | 0, _, _, h => .stop h
  | n + 1, g, w, h => by
    rcases h with h | ⟨hs, h⟩
    · exact .stop h
    · refine .next hs fun w₁ h₁ => ?_
      have := h w₁ h₁
      cases hst : stepG P main g w₁ with
      | go g' w' es => rw [hst, goes_go] at this; exact ⟨g', w', es, rfl, this.1, Wk.of_goes this.2⟩
      | _ => rw [hst] at this; exact this.elim

section
variable {P : Program} {ty : TypeId} {Wg c : Nat} {J : World → Prop} {Anch Ret : Goroutine → World → Prop} {X : Nat → Prop} {TP : Nat → Trace → Prop}

/-- A stretch of the worker's. -/
theorem stage (hc : c ≠ 0) (hX : X Wg) (hAn : ∀ g w, Anch g w → ∃ m, Goes P true (RA ty Wg J) DC0 (AtW1 P ty Wg J Anch Ret) m g w) (hAr : ∀ g w, Anch g w → g.status = .running)
    (hTm : ∀ d, Muted (act2 c) (TP d)) (hT0 : ∀ d t fn pos es, EvC X Wg es → TP d t → TP (deafBehind d es) (t ++ MemOp.ofEvents 0 fn pos es))
    {R : World → World → Prop} {D : World → World → Array Event → Prop} {Stop : Goroutine → World → Prop} {IW : World → Prop}
    (hR0 : ∀ w, R w w) (hRd : ∀ w w₁ d, R w w₁ → R w (w₁.at d)) (hRc : ∀ w w₁, R w w₁ → IW w₁ → WgAt ty Wg w₁ KK 0 → R w (w₁.setCell (stA Wg) (.int .u64 (KK + 1))))
    (hId : ∀ w d, IW w → IW (w.at d)) (hIc : ∀ w, IW w → WgAt ty Wg w KK 0 → IW (w.setCell (stA Wg) (.int .u64 (KK + 1))))
    (hD : ∀ w w' es, D w w' es → IW w → IW w' ∧ w'.heap[Wg]? = w.heap[Wg]? ∧ ∀ d t fn pos, TP d t → TP d (t ++ MemOp.ofEvents c fn pos es))
    {b : Goroutine} {w : World} (h : Wk P false R D Stop b w) :
    ∀ (r k d : Nat) (st : Int) (a : Goroutine), Cp P ty Wg J Anch Ret r k d st a w → Stt st → IW w →
      To P (fun m t => S2 P c a b w m t ∧ TP d t) (fun m t => ∃ r k d st a b' w', Cp P ty Wg J Anch Ret r k d st a w' ∧ Stt st ∧ IW w' ∧ (∀ w₁, R w' w₁ → Stop b' w₁) ∧ S2 P c a b' w' m t ∧ TP d t) := by
  induction h with
  | @stop b w h => intro r k d st a hcp hst hi m t ⟨hs, ht⟩; exact ⟨0, m, t, rfl, r, k, d, st, a, b, w, hcp, hst, hi, h, hs, ht⟩
  | @step b w f hb hs _ ih =>
    intro r k d st a hcp hst hi m t ⟨⟨gs, sl, q, hm, h0, hcb, hL⟩, ht⟩
    subst hm
    obtain ⟨N, m', t', h1, r1, k1, d1, st1, a1, w1, b', w', es, t1, c1, c2, c3, c4, c5, c6, c7⟩ := until_b hc hX hAn hAr hTm hT0 hb (BW := fun w₁ => R w w₁ ∧ IW w₁) (fun w₁ d h => ⟨hRd _ _ d h.1, hId _ d h.2⟩) (fun w₁ hk h => ⟨hRc _ _ h.1 h.2 hk, hIc _ h.2 hk⟩)
      (fun w₁ h => ⟨_, _, _, (hs w₁ h.1).1⟩) r _ gs sl q k d st a w t (Nat.le_refl _) hcp hst ⟨hR0 w, hi⟩ h0 hcb hL ht
    have hst2 := hs w1 c3.1
    rw [c5] at hst2
    obtain ⟨e1, e2⟩ := hst2
    simp only [GStep.go.injEq] at e1
    obtain ⟨rfl, rfl, rfl⟩ := e1
    obtain ⟨i1, i2, i3⟩ := hD _ _ _ e2 c3.2
    have hcp' : Cp P ty Wg J Anch Ret r1 k1 d1 st1 a1 (f w1).2.1 := c1.rely (c1.wg.of_block i2) (.inl rfl) c2
    obtain ⟨k2, hcp2, _⟩ := hcp'.wok c2 hAr (wok_woken (P := P) (g := b) (g' := (f w1).1) (w := (f w1).2.1) (hcp'.act2 c2 hAr))
    obtain ⟨N2, m2, t2, h2, h3⟩ := ih w1 c3.1 r1 k2 d1 st1 _ hcp2 c2 i1 m' t' ⟨c7, by rw [c6]; exact i3 _ _ _ _ c4⟩
    exact ⟨N + N2, m2, t2, by rw [runNT_add, h1]; exact h2, h3⟩

/-- The worker's next step, at a stop. -/
theorem bstep (hc : c ≠ 0) (hX : X Wg) (hAn : ∀ g w, Anch g w → ∃ m, Goes P true (RA ty Wg J) DC0 (AtW1 P ty Wg J Anch Ret) m g w) (hAr : ∀ g w, Anch g w → g.status = .running)
    (hTm : ∀ d, Muted (act2 c) (TP d)) (hT0 : ∀ d t fn pos es, EvC X Wg es → TP d t → TP (deafBehind d es) (t ++ MemOp.ofEvents 0 fn pos es))
    {R : World → World → Prop} {Stop : Goroutine → World → Prop} {IW : World → Prop}
    (hR0 : ∀ w, R w w) (hRd : ∀ w w₁ d, R w w₁ → R w (w₁.at d)) (hRc : ∀ w w₁, R w w₁ → IW w₁ → WgAt ty Wg w₁ KK 0 → R w (w₁.setCell (stA Wg) (.int .u64 (KK + 1))))
    (hId : ∀ w d, IW w → IW (w.at d)) (hIc : ∀ w, IW w → WgAt ty Wg w KK 0 → IW (w.setCell (stA Wg) (.int .u64 (KK + 1))))
    {b : Goroutine} (hb : b.status = .running) {w : World} (h : ∀ w₁, R w w₁ → Stop b w₁) (hS : ∀ w₁, Stop b w₁ → IW w₁ → ∃ b' w' es, stepG P false b w₁ = .go b' w' es)
    {r k d : Nat} {st : Int} {a : Goroutine} (hcp : Cp P ty Wg J Anch Ret r k d st a w) (hst : Stt st) (hi : IW w) {m : Machine} {t : Trace} (hs : S2 P c a b w m t) (ht : TP d t) :
    ∃ N m' t', runNT P N m t = (.next m', t') ∧ ∃ r k d st a w1 b' w' es t1, Cp P ty Wg J Anch Ret r k d st a w1 ∧ Stt st ∧ Stop b w1 ∧ IW w1 ∧ TP d t1 ∧ stepG P false b w1 = .go b' w' es ∧
      t' = t1 ++ MemOp.ofEvents c b.frame.fn b.frame.place es ∧ S2 P c (woken P b b' w' a) b' w' m' t' := by
  obtain ⟨gs, sl, q, rfl, h0, hcb, hL⟩ := hs
  obtain ⟨N, m', t', h1, r1, k1, d1, st1, a1, w1, b', w', es, t1, c1, c2, c3, c4, c5, c6, c7⟩ := until_b hc hX hAn hAr hTm hT0 hb (BW := fun w₁ => R w w₁ ∧ IW w₁) (fun w₁ d h => ⟨hRd _ _ d h.1, hId _ d h.2⟩) (fun w₁ hk h => ⟨hRc _ _ h.1 h.2 hk, hIc _ h.2 hk⟩)
    (fun w₁ h' => hS w₁ (h w₁ h'.1) h'.2) r _ gs sl q k d st a w t (Nat.le_refl _) hcp hst ⟨hR0 w, hi⟩ h0 hcb hL ht
  exact ⟨N, m', t', h1, r1, k1, d1, st1, a1, w1, b', w', es, t1, c1, c2, h w1 c3.1, c3.2, c4, c5, c6, c7⟩

theorem to_fr (hc : c ≠ 0) {a b : Goroutine} {w : World} {m : Machine} {t : Trace} {d q : Nat} (h : S2 P c a b w m t) (hq : QuitsD P q 1 b) {r : Nat} (h1 : Pw X c d 1 t) (h2 : Rl X Wg c r t) : Fr P (T2 X Wg c d) a w m t := by
  obtain ⟨gs, sl, q0, rfl, h0, hcb, hL⟩ := h
  refine ⟨gs, sl, upd q0 c q, rfl, h0, ⟨fun i g hi hg => ?_, hL.above⟩, 1, r, h1, h2⟩
  have hi0 : i ≠ 0 := by intro e; subst e; simp [act0] at hi
  by_cases hic : i = c
  · subst hic
    rw [hcb] at hg
    cases hg
    rw [upd_same, h1.deafc]
    exact hq
  · rw [upd_ne _ _ hic]
    exact hL.old i g (by simp [act2, hi0, hic]) hg
end

section
variable {Wg c C : Nat} {X : Nat → Prop}

def TA (X : Nat → Prop) (c d : Nat) (t : Trace) : Prop := Pw X c d 0 t
def TC (X : Nat → Prop) (Wg c dc d : Nat) (t : Trace) : Prop := Pw X c d dc t ∧ ∃ r, Rl X Wg c r t

theorem act2_ne {γ : Nat} (h : act2 c γ = false) : γ ≠ 0 ∧ γ ≠ c := by simpa [act2] using h

theorem TA.muted (d : Nat) : Muted (act2 c) (TA X c d) := fun _ _ _ _ _ hγ hm h => Pw.mute h (act2_ne hγ).1 (act2_ne hγ).2 hm
theorem TA.own (hc : c ≠ 0) : ∀ d t fn pos es, EvC X Wg es → TA X c d t → TA X c (deafBehind d es) (t ++ MemOp.ofEvents 0 fn pos es) := fun _ _ _ _ _ he h => Pw.own0 hc h fun e hh => (he e hh).1
theorem TC.muted (dc d : Nat) : Muted (act2 c) (TC X Wg c dc d) := fun _ _ _ _ _ hγ hm ⟨h, r, hr⟩ => ⟨h.mute (act2_ne hγ).1 (act2_ne hγ).2 hm, r, hr.quiet (fun e he => muted_norel (hm e he)) fun x => absurd x (act2_ne hγ).2⟩
theorem TC.own (hc : c ≠ 0) (dc : Nat) : ∀ d t fn pos es, EvC X Wg es → TC X Wg c dc d t → TC X Wg c dc (deafBehind d es) (t ++ MemOp.ofEvents 0 fn pos es) :=
  fun _ _ _ _ _ he ⟨h, r, hr⟩ => ⟨h.own0 hc fun e hh => (he e hh).1, r, hr.quiet (fun e hh => (he e hh).2) fun x => absurd x.symm hc⟩

theorem ev2_wg (wr' : Bool) (off : Nat) : Ev2 X ⟨.cell ⟨Wg, off, none⟩, wr', true⟩ := fun x hx _ => by
  simp only [MemAct.ofEvent, MemAct.touch?, Option.some.injEq] at hx; subst hx; rfl

theorem still_deaf {es : Array Event} (h : ∀ e ∈ es, e.loc ≠ .mark .disable ∧ e.loc ≠ .mark .enable) (d : Nat) : deafBehind d es = d := deafBehind_still h d

/-- The worker touches the group's cells, deaf. -/
theorem TC.atomic (hc : c ≠ 0) (hX : X Wg) {d : Nat} {t : Trace} {fn : FuncId} {pos : String} {es : Array Event} (h : TC X Wg c 1 d t) (he : ∀ e ∈ es, ∃ wr' off, e = ⟨.cell ⟨Wg, off, none⟩, wr', true⟩) : TC X Wg c 1 d (t ++ MemOp.ofEvents c fn pos es) := by
  obtain ⟨h, r, hr⟩ := h
  have hs : ∀ e ∈ es, e.loc ≠ .mark .disable ∧ e.loc ≠ .mark .enable := fun e hh => by obtain ⟨_, _, rfl⟩ := he e hh; exact ⟨by simp, by simp⟩
  have h1 := Pw.ownc hc h (fn := fn) (pos := pos) (es := es) (fun e hh => by obtain ⟨_, _, rfl⟩ := he e hh; exact ev2_wg _ _)
  rw [still_deaf hs] at h1
  refine ⟨h1, r, hr.deafc (fun e hh => by obtain ⟨_, _, rfl⟩ := he e hh; simp [MemAct.ofEvent]) hs (by rw [h.deafc]; decide) (fun e hh a ha => ?_)⟩
  obtain ⟨_, _, rfl⟩ := he e hh
  simp only [MemAct.ofEvent, MemAct.touch?, Option.some.injEq] at ha
  subst ha
  exact ⟨⟨_, rfl, hX⟩, rfl⟩

theorem evQ_ev2 [Shy Wg C] {Mine : Loc → Prop} (hShy : ∀ act, Shy.ok Wg C act → ∀ x, act.touch? = some x → SX X x.loc → x.kind = .atomic ∨ ((∃ a : Addr, x.loc = .cell a ∧ a.block = Wg) ∧ x.kind ≠ .plain)) {e : Event} (h : EvQ Mine Wg C 1 e) : Ev2 X e := by
  intro x hx hs
  obtain ⟨_, h1, _, h3⟩ := h.1 0 ""
  rcases hShy _ h3 x hx hs with z | ⟨⟨a, z1, z2⟩, z3⟩
  · exact z
  · have := ((h1 x hx).2.1 (.inl ⟨a, z1, z2⟩)).2
    cases hk : x.kind with
    | plain => exact absurd hk z3
    | atomic => rfl
    | said => exact absurd (this hk) (by decide)

/-- The rest of the world as at the body's end. -/
structure RC (X : Nat → Prop) (C : Nat) (w w₁ : World) : Prop where
  size : w₁.heap.size = w.heap.size
  same : ∀ k, k ≠ C → ¬ X k → w₁.heap[k]? = w.heap[k]?
  hid : ∀ k, X k → ∀ c e fr, w.heap[k]? = some (.cells c e fr) → ∃ c', w₁.heap[k]? = some (.cells c' e fr)
  os : w₁.os = w.os
  output : w₁.output = w.output

theorem rx_set {w w₁ : World} (h : RX X w w₁) (hX : X Wg) (a : Addr) (ha : a.block = Wg) (v : Value) : RX X w (w₁.setCell a v) := by
  refine ⟨by simp [World.setCell, h.size], fun k hk => ?_, fun k hk c' e fr hh => ?_, h.os, h.output⟩
  · rw [setCell_other (fun e => hk (by rw [← e, ha]; exact hX))]; exact h.same k hk
  · obtain ⟨c2, h2⟩ := h.hid k hk c' e fr hh
    by_cases e2 : a.block = k
    · simp only [World.setCell, Array.getElem?_modify, e2, if_true, h2, Option.map_some]
      exact ⟨_, rfl⟩
    · rw [setCell_other e2]; exact ⟨c2, h2⟩
theorem rx_at {w w₁ : World} (h : RX X w w₁) (d : Nat) : RX X w (w₁.at d) := ⟨h.size, h.same, h.hid, h.os, h.output⟩
theorem rc_set {w w₁ : World} (h : RC X C w w₁) (hX : X Wg) (a : Addr) (ha : a.block = Wg) (v : Value) : RC X C w (w₁.setCell a v) := by
  refine ⟨by simp [World.setCell, h.size], fun k hc hk => ?_, fun k hk c' e fr hh => ?_, h.os, h.output⟩
  · rw [setCell_other (fun e => hk (by rw [← e, ha]; exact hX))]; exact h.same k hc hk
  · obtain ⟨c2, h2⟩ := h.hid k hk c' e fr hh
    by_cases e2 : a.block = k
    · simp only [World.setCell, Array.getElem?_modify, e2, if_true, h2, Option.map_some]
      exact ⟨_, rfl⟩
    · rw [setCell_other e2]; exact ⟨c2, h2⟩
end
end Go.Bp

/- The worker's body may be deaf for a while (a Mutex's own marks): its walk carries the count. -/
namespace Go.Bp
open Go Go.Conc Go.Conc.Lib
open Go.ConcX (WgAt KK stA smA rd wr mk DC0 kk_ne)
open Go.ConcN (sumTo upd upd_ne upd_same)

/-- What the worker may list: a hidden block's cell it touches atomically, if at all. -/
def DW (X : Nat → Prop) (w w' : World) (es : Array Event) : Prop := (∀ k, X k → w'.heap[k]? = w.heap[k]?) ∧ ∀ e ∈ es, Ev2 X e

inductive Wd (P : Program) (X : Nat → Prop) (Stop : Goroutine → World → Prop) : Nat → Goroutine → World → Prop
  | stop {g : Goroutine} {w : World} : (∀ w₁, RX X w w₁ → Stop g w₁) → Wd P X Stop 0 g w
  | step {g : Goroutine} {w : World} {dc : Nat} (f : World → Goroutine × World × Array Event) : g.status = .running →
      (∀ w₁, RX X w w₁ → stepG P false g w₁ = .go (f w₁).1 (f w₁).2.1 (f w₁).2.2 ∧ DW X w₁ (f w₁).2.1 (f w₁).2.2) →
      (∀ w₁, RX X w w₁ → Wd P X Stop (deafBehind dc (f w₁).2.2) (f w₁).1 (f w₁).2.1) → Wd P X Stop dc g w

section
variable {P : Program} {X : Nat → Prop} {Stop Stop' : Goroutine → World → Prop}

theorem RX.trans {a b c : World} (h : RX X a b) (k : RX X b c) : RX X a c :=
  ⟨k.size.trans h.size, fun x hx => (k.same x hx).trans (h.same x hx), fun x hx c e fr hh => by obtain ⟨c1, h1⟩ := h.hid x hx c e fr hh; exact k.hid x hx c1 e fr h1, k.os.trans h.os, k.output.trans h.output⟩

theorem Wd.next {g : Goroutine} {w : World} {dc : Nat} (hg : g.status = .running)
    (h : ∀ w₁, RX X w w₁ → ∃ g' w' es, stepG P false g w₁ = .go g' w' es ∧ DW X w₁ w' es ∧ Wd P X Stop (deafBehind dc es) g' w') : Wd P X Stop dc g w := by
  have h' : ∀ w₁, ∃ x : Goroutine × World × Array Event, RX X w w₁ → stepG P false g w₁ = .go x.1 x.2.1 x.2.2 ∧ DW X w₁ x.2.1 x.2.2 ∧ Wd P X Stop (deafBehind dc x.2.2) x.1 x.2.1 := by
    intro w₁
    by_cases hr : RX X w w₁
    · obtain ⟨g', w', es, h1, h2, h3⟩ := h w₁ hr
      exact ⟨(g', w', es), fun _ => ⟨h1, h2, h3⟩⟩
    · exact ⟨(g, w, #[]), fun x => absurd x hr⟩
  exact .step (fun w₁ => (h' w₁).choose) hg (fun w₁ hr => ⟨((h' w₁).choose_spec hr).1, ((h' w₁).choose_spec hr).2.1⟩) (fun w₁ hr => ((h' w₁).choose_spec hr).2.2)

/-- Plain code, and on. -/
theorem Wd.of_wk {dc : Nat} {g : Goroutine} {w : World} (h : Wk P false (RX X) (DX X) Stop' g w) (k : ∀ g w, Stop' g w → Wd P X Stop dc g w) : Wd P X Stop dc g w := by
  induction h with
  | @stop g w h => exact k g w (h w (RX.refl X w))
  | @step g w f hg hs _ ih =>
    refine .step f hg (fun w₁ hr => ⟨(hs w₁ hr).1, (hs w₁ hr).2.1, fun e he => evX_ev2 ((hs w₁ hr).2.2 e he)⟩) (fun w₁ hr => ?_)
    rw [still_deaf (fun e he => evX_still ((hs w₁ hr).2.2 e he))]
    exact ih w₁ hr

/-- A walk by hand, and on. -/
theorem Wd.of_goes {dc : Nat} {D : World → World → Array Event → Prop} (hD : ∀ w w' es, D w w' es → DW X w w' es ∧ ∀ e ∈ es, e.loc ≠ .mark .disable ∧ e.loc ≠ .mark .enable) :
    ∀ {n : Nat} {g : Goroutine} {w : World}, Goes P false (RX X) D Stop' n g w → (∀ g w, Stop' g w → Wd P X Stop dc g w) → Wd P X Stop dc g w
  | 0, g, w, h, k => k g w (h w (RX.refl X w))
  | n + 1, g, w, h, k => by
    rcases h with h | ⟨hs, h⟩
    · exact k g w (h w (RX.refl X w))
    · refine .next hs fun w₁ h₁ => ?_
      have := h w₁ h₁
      cases hst : stepG P false g w₁ with
      | go g' w' es =>
        rw [hst, goes_go] at this
        refine ⟨g', w', es, rfl, (hD _ _ _ this.1).1, ?_⟩
        rw [still_deaf (hD _ _ _ this.1).2]
        exact Wd.of_goes hD this.2 k
      | _ => rw [hst] at this; exact this.elim
end

section
variable {P : Program} {ty : TypeId} {Wg c : Nat} {J : World → Prop} {Anch Ret : Goroutine → World → Prop} {X : Nat → Prop}

def TAd (X : Nat → Prop) (c dc d : Nat) (t : Trace) : Prop := Pw X c d dc t
theorem TAd.muted (dc d : Nat) : Muted (act2 c) (TAd X c dc d) := fun _ _ _ _ _ hγ hm h => Pw.mute h (act2_ne hγ).1 (act2_ne hγ).2 hm
theorem TAd.own (hc : c ≠ 0) (dc : Nat) : ∀ d t fn pos es, EvC X Wg es → TAd X c dc d t → TAd X c dc (deafBehind d es) (t ++ MemOp.ofEvents 0 fn pos es) := fun _ _ _ _ _ he h => Pw.own0 hc h fun e hh => (he e hh).1

/-- The worker's body. -/
theorem stageW (hc : c ≠ 0) (hX : X Wg) (hAn : ∀ g w, Anch g w → ∃ m, Goes P true (RA ty Wg J) DC0 (AtW1 P ty Wg J Anch Ret) m g w) (hAr : ∀ g w, Anch g w → g.status = .running)
    {Stop : Goroutine → World → Prop} {IW : World → Prop}
    (hId : ∀ w d, IW w → IW (w.at d)) (hIc : ∀ w, IW w → WgAt ty Wg w KK 0 → IW (w.setCell (stA Wg) (.int .u64 (KK + 1))))
    (hD : ∀ w w' es, DW X w w' es → IW w → IW w')
    {dc : Nat} {b : Goroutine} {w : World} (h : Wd P X Stop dc b w) :
    ∀ (r k d : Nat) (st : Int) (a : Goroutine), Cp P ty Wg J Anch Ret r k d st a w → Stt st → IW w →
      To P (fun m t => S2 P c a b w m t ∧ Pw X c d dc t) (fun m t => ∃ r k d st a b' w', Cp P ty Wg J Anch Ret r k d st a w' ∧ Stt st ∧ IW w' ∧ (∀ w₁, RX X w' w₁ → Stop b' w₁) ∧ S2 P c a b' w' m t ∧ Pw X c d 0 t) := by
  induction h with
  | @stop b w h => intro r k d st a hcp hst hi m t ⟨hs, ht⟩; exact ⟨0, m, t, rfl, r, k, d, st, a, b, w, hcp, hst, hi, h, hs, ht⟩
  | @step b w dc f hb hs _ ih =>
    intro r k d st a hcp hst hi m t ⟨⟨gs, sl, q, hm, h0, hcb, hL⟩, ht⟩
    subst hm
    obtain ⟨N, m', t', h1, r1, k1, d1, st1, a1, w1, b', w', es, t1, c1, c2, c3, c4, c5, c6, c7⟩ := until_b (TP := TAd X c dc) hc hX hAn hAr (TAd.muted dc) (TAd.own hc dc) hb (BW := fun w₁ => RX X w w₁ ∧ IW w₁) (fun w₁ d h => ⟨rx_at h.1 d, hId _ d h.2⟩) (fun w₁ hk h => ⟨rx_set h.1 hX _ rfl _, hIc _ h.2 hk⟩)
      (fun w₁ h => ⟨_, _, _, (hs w₁ h.1).1⟩) r _ gs sl q k d st a w t (Nat.le_refl _) hcp hst ⟨RX.refl X w, hi⟩ h0 hcb hL ht
    have hst2 := hs w1 c3.1
    rw [c5] at hst2
    obtain ⟨e1, e2⟩ := hst2
    simp only [GStep.go.injEq] at e1
    obtain ⟨rfl, rfl, rfl⟩ := e1
    have i1 := hD _ _ _ e2 c3.2
    have hcp' : Cp P ty Wg J Anch Ret r1 k1 d1 st1 a1 (f w1).2.1 := c1.rely (c1.wg.of_block (e2.1 _ hX)) (.inl rfl) c2
    obtain ⟨k2, hcp2, _⟩ := hcp'.wok c2 hAr (wok_woken (P := P) (g := b) (g' := (f w1).1) (w := (f w1).2.1) (hcp'.act2 c2 hAr))
    obtain ⟨N2, m2, t2, h2, h3⟩ := ih w1 c3.1 r1 k2 d1 st1 _ hcp2 c2 i1 m' t' ⟨c7, by rw [c6]; exact Pw.ownc hc c4 e2.2⟩
    exact ⟨N + N2, m2, t2, by rw [runNT_add, h1]; exact h2, h3⟩
end
end Go.Bp

/- The caller's own walk beside leavers: a lone contract is a step of it. -/
namespace Go.Bp
open Go Go.Conc

def Fq (P : Program) (X : Nat → Prop) (u : World) (g : Goroutine) (m : Machine) (t : Trace) : Prop := ∃ w, Fr P (Ps X 0) g w m t ∧ Sim X u w

theorem Ps.plain {X : Nat → Prop} {d : Nat} {t : Trace} (h : Ps X d t) {fn : FuncId} {pos : String} {es : Array Event} (hes : ∀ e ∈ es, EvX X e) : Ps X d (t ++ MemOp.ofEvents 0 fn pos es) := by
  have := h.own (fn := fn) (pos := pos) fun e he => evX_ev0 (hes e he)
  rwa [still_deaf fun e he => evX_still (hes e he)] at this

section
variable {P : Program} {F : Nat → Bool} {X : Nat → Prop}

theorem cn_to {b : Frame} {Q : Act → World → Prop} (hQ : ∀ a w T d, Q a w → Q a (re w T d)) (hC : Closed P F) (hb : b.kind ≠ .early) {s : St} {u : World} (h : Cn P F b Q s u) (e : Env) :
    To P (Fq P X u (s.mk b e)) (fun m tr => ∃ t u', Fq P X u' (G (b.at ⟨t, e.D⟩ e.k) e.cs) m tr ∧ Q ⟨t, []⟩ u') := by
  rintro m tr ⟨w, hf, hS⟩
  obtain ⟨N, m', t', h1, a', w', h2, h3⟩ := wk_to (T := Ps X 0) (Ps.muted 0) (fun w d => rx_at (RX.refl X w) d) (fun w w' es t fn pos hd ht => ht.plain hd.2) (bar hQ hC hb h hS true e) m tr hf
  obtain ⟨t, u', rfl, hq, hS'⟩ := h3 w' (RX.refl X w')
  exact ⟨N, m', t', h1, t, u', ⟨w', h2, hS'⟩, hq⟩

/-- A piece of code. -/
theorem code_to {b : Frame} {Q : Act → World → Prop} (hQ : ∀ a w T d, Q a w → Q a (re w T d)) (hC : Closed P F) (hb : b.kind ≠ .early) {c : Code} (hc : okCode P F c) {t : Array Value} {u : World}
    (h : ∀ T d, c.wp P (fun e a w => e = .normal ∧ Q a w) ⟨t, []⟩ (re u T d)) (D : List Deferred) (k : List Item) (cs : List Frame) :
    To P (Fq P X u (G (b.at ⟨t, D⟩ (.code c :: k)) cs)) (fun m tr => ∃ t u', Fq P X u' (G (b.at ⟨t, D⟩ k) cs) m tr ∧ Q ⟨t, []⟩ u') := by
  refine cn_to (s := .base t [.code c]) hQ hC hb ⟨okItems_cons hc (by intro y hy; cases hy), fun T d => ?_⟩ ⟨D, k, cs⟩
  obtain ⟨e, a, w', ⟨rfl, hq⟩, n, hn⟩ := h T d b k0 [stuckF]
  exact ⟨n, a, w', hn, hq⟩

/-- What is left of a region. -/
theorem ops_to {b : Frame} {Q : Act → World → Prop} (hQ : ∀ a w T d, Q a w → Q a (re w T d)) (hC : Closed P F) (hb : b.kind ≠ .early) {ops : Array Oper} {l : List Nat} (hops : ∀ o ∈ ops, PlainOp P F o) {t : Array Value} {u : World}
    (h : ∀ T d, wpOps P ops (fun e a w => e = .normal ∧ Q a w) l ⟨t, []⟩ (re u T d)) (D : List Deferred) (k : List Item) (cs : List Frame) :
    To P (Fq P X u (G (b.at ⟨t, D⟩ (.inRegion ops l :: k)) cs)) (fun m tr => ∃ t u', Fq P X u' (G (b.at ⟨t, D⟩ k) cs) m tr ∧ Q ⟨t, []⟩ u') := by
  refine cn_to (s := .base t [.inRegion ops l]) hQ hC hb ⟨okItems_cons hops (by intro y hy; cases hy), fun T d => ?_⟩ ⟨D, k, cs⟩
  obtain ⟨e, a, w', ⟨rfl, hq⟩, n, hn⟩ := wp_ops l _ _ (h T d) b k0 [stuckF]
  exact ⟨n, a, w', hn, hq⟩

/-- One step. -/
theorem step_to {a : Goroutine} (ha : a.status = .running) {u : World} {Nx : Goroutine → World → Prop}
    (h : ∀ w, Sim X u w → ∃ a' w' es u', stepG P true a w = .go a' w' es ∧ (∀ e ∈ es, EvX X e) ∧ Sim X u' w' ∧ Nx a' u') :
    To P (Fq P X u a) (fun m t => ∃ a' u', Fq P X u' a' m t ∧ Nx a' u') := by
  rintro m t ⟨w, hf, hS⟩
  obtain ⟨N, m', t', h1, a2, w2, h2, u', h3, h4⟩ := one0 (T := Ps X 0) (T' := Ps X 0) (Nx := fun a' w' => ∃ u', Sim X u' w' ∧ Nx a' u') (Ps.muted 0) ha (fun d => by
    obtain ⟨a', w', es, u', e1, e2, e3, e4⟩ := h (w.at d) (hS.rely (rx_at (RX.refl X w) d))
    exact ⟨a', w', es, e1, fun t fn pos ht => ht.plain e2, u', e3, e4⟩) m t hf
  exact ⟨N, m', t', h1, a2, u', ⟨w2, h2, h3⟩, h4⟩

/-- A step that leaves the world alone. -/
theorem stay_to {a a' : Goroutine} (ha : a.status = .running) {u : World} (h : ∀ w, stepG P true a w = .go a' w) : To P (Fq P X u a) (Fq P X u a') :=
  (step_to (Nx := fun x y => x = a' ∧ y = u) ha fun w hS => ⟨a', w, _, u, h w, by simp, hS, rfl, rfl⟩).mono fun m t ⟨x, y, h1, e1, e2⟩ => by subst e1 e2; exact h1

theorem seq_to {b : Frame} {a : Act} {x y : Code} {k : List Item} {cs : List Frame} {u : World} : To P (Fq P X u (G (b.at a (.code (.seq x y) :: k)) cs)) (Fq P X u (G (b.at a (.code x :: .code y :: k)) cs)) := stay_to rfl fun _ => stepG_seq
theorem block_to {b : Frame} {a : Act} {i : Nat} {x : Code} {k : List Item} {cs : List Frame} {u : World} : To P (Fq P X u (G (b.at a (.code (.block i x) :: k)) cs)) (Fq P X u (G (b.at a (.code x :: .inBlock i :: k)) cs)) := stay_to rfl fun _ => stepG_block
theorem inBlock_to {b : Frame} {a : Act} {i : Nat} {k : List Item} {cs : List Frame} {u : World} : To P (Fq P X u (G (b.at a (.inBlock i :: k)) cs)) (Fq P X u (G (b.at a k) cs)) := stay_to rfl fun _ => stepG_inBlock
theorem loop_to {b : Frame} {a : Act} {x : Code} {k : List Item} {cs : List Frame} {u : World} : To P (Fq P X u (G (b.at a (.code (.loop x) :: k)) cs)) (Fq P X u (G (b.at a (.code x :: .inLoop x :: k)) cs)) := stay_to rfl fun _ => stepG_loop
theorem inLoop_to {b : Frame} {a : Act} {x : Code} {k : List Item} {cs : List Frame} {u : World} : To P (Fq P X u (G (b.at a (.inLoop x :: k)) cs)) (Fq P X u (G (b.at a (.code x :: .inLoop x :: k)) cs)) := stay_to rfl fun _ => stepG_inLoop
theorem exit_to {b : Frame} {a : Act} {i : Nat} {k k' : List Item} {cs : List Frame} {u : World} (h : exitTo i k = some k') : To P (Fq P X u (G (b.at a (.code (.exit i) :: k)) cs)) (Fq P X u (G (b.at a k') cs)) := stay_to rfl fun _ => stepG_exit h
theorem region_to {b : Frame} {a : Act} {i : Nat} {ops : Array Oper} {k : List Item} {cs : List Frame} {u : World} : To P (Fq P X u (G (b.at a (.code (.region i ops false) :: k)) cs)) (Fq P X u (G (b.at a (.inRegion ops (List.range ops.size) :: k)) cs)) := stay_to rfl fun _ => stepG_region
theorem region_end_to {b : Frame} {a : Act} {ops : Array Oper} {k : List Item} {cs : List Frame} {u : World} : To P (Fq P X u (G (b.at a (.inRegion ops [] :: k)) cs)) (Fq P X u (G (b.at a k) cs)) := stay_to rfl fun _ => stepG_region_end
theorem cond_to {b : Frame} {a : Act} {c : Operand} {x y : Code} {t : Bool} (h : a.eval c = .bool t) {k : List Item} {cs : List Frame} {u : World} : To P (Fq P X u (G (b.at a (.code (.cond c x y) :: k)) cs)) (Fq P X u (G (b.at a (.code (if t then x else y) :: k)) cs)) := stay_to rfl fun _ => stepG_cond h

/-! ### a block is hidden from here on -/

def hide (Wg : Nat) (u : World) : World := { u with heap := u.heap.modify Wg fun o => match o with | .cells _ e fr => .cells #[] e fr | o => o }

theorem hide_at {Wg : Nat} {u : World} {c : Array Value} {e : TypeId} {fr : Nat × Nat} (h : u.heap[Wg]? = some (.cells c e fr)) : (hide Wg u).heap[Wg]? = some (.cells #[] e fr) := by
  simp [hide, Array.getElem?_modify, h]
theorem hide_other {Wg : Nat} {u : World} {k : Nat} (h : k ≠ Wg) : (hide Wg u).heap[k]? = u.heap[k]? := by
  simp [hide, Array.getElem?_modify, Ne.symm h]

def plus (X : Nat → Prop) (Wg : Nat) : Nat → Prop := fun k => X k ∨ k = Wg

theorem Sim.hide {u w : World} {Wg : Nat} (h : Sim X u w) (hX : ¬ X Wg) {c : Array Value} {e : TypeId} {fr : Nat × Nat} (hb : u.heap[Wg]? = some (.cells c e fr)) : Sim (plus X Wg) (Go.Bp.hide Wg u) w := by
  refine ⟨by rw [h.size]; simp [Go.Bp.hide], fun k hk => ?_, fun k hk => ?_, h.os, h.output⟩
  · rw [hide_other (fun e => hk (.inr e)), h.same k (fun x => hk (.inl x))]
  · rcases hk with hk | rfl
    · rw [hide_other (fun e : k = Wg => hX (by rw [← e]; exact hk))]; exact h.hid k hk
    · exact ⟨c, e, fr, (h.same _ hX).trans hb, hide_at hb⟩

theorem Fq.hide {u : World} {Wg : Nat} {g : Goroutine} {m : Machine} {t : Trace} (h : Fq P X u g m t) (hX : ¬ X Wg) {c : Array Value} {e : TypeId} {fr : Nat × Nat} (hb : u.heap[Wg]? = some (.cells c e fr)) :
    ∃ w, Fr P (Ps (plus X Wg) 0) g w m t ∧ Sim (plus X Wg) (Go.Bp.hide Wg u) w ∧ w.heap[Wg]? = some (.cells c e fr) := by
  obtain ⟨w, ⟨gs, sl, q, h1, h2, h3, h4⟩, hS⟩ := h
  exact ⟨w, ⟨gs, sl, q, h1, h2, h3, h4.mono fun k hk => .inl hk⟩, hS.hide hX hb, (hS.same _ hX).trans hb⟩
end
end Go.Bp

/- A call of a plain function, in company, whatever the caller is: out of the lone contract. -/
namespace Go.Bp
open Go Go.Conc

structure Up where
  mid : List Wt
  f : FuncId
  t : Array Value
  l : List Item
  ret : Bool

def Up.go (s : Up) (c : Frame) (cs : List Frame) : Goroutine := G (topF s.f s.t s.l s.ret) (s.mid.map Wt.fr ++ c :: cs)
def Up.ok (P : Program) (F : Nat → Bool) (s : Up) : Prop := (∀ x ∈ s.mid, x.ok P F) ∧ F s.f = true ∧ okItems P F s.l
def Up.Last (s : Up) : Prop := s.mid = [] ∧ s.ret = true

theorem up_step {P : Program} {F : Nat → Bool} (hC : Closed P F) (s : Up) (hs : s.ok P F) (hn : ¬ s.Last) (u : World) :
    (∃ s' u' es, Up.ok P F s' ∧ Step1 u u' es fun w w' => ∀ main c cs, stepG P main (s.go c cs) w = .go (s'.go c cs) w' es) ∨ ∀ c cs, Ends P (s.go c cs) u := by
  obtain ⟨mid, f, t', l', ret⟩ := s
  obtain ⟨h2, h3, h4⟩ := hs
  dsimp only at h2 h3 h4
  have hN : (bN f).kind ≠ .early := by simp [bN]
  cases ret with
  | false =>
    cases l' with
    | nil =>
      exact .inl ⟨⟨mid, f, t', [], true⟩, u, #[], ⟨h2, h3, h4⟩, .still fun w main c cs => stepG_end⟩
    | cons it' l' =>
      have hit : okItem P F it' := h4 it' (by simp)
      have hl : okItems P F l' := fun y hy => h4 y (by simp [hy])
      rcases exec_any hC.early hN (t := t') hit hl u with ⟨out, u', es, k1, k2⟩ | h
      · cases out with
        | stay t'' l'' =>
          refine .inl ⟨⟨mid, f, t'', l'', false⟩, u', es, ⟨h2, h3, k1⟩, k2.mono fun w w' h main c cs => ?_⟩
          have := h main [] [] (mid.map Wt.fr ++ c :: cs)
          simp only [List.append_nil, Out.to] at this
          exact this
        | enter f' args =>
          obtain ⟨fn, body, hf, hbd, hob, _⟩ := hC.fn f' k1
          refine .inl ⟨⟨⟨f, t', it', l'⟩ :: mid, f', args ++ Array.replicate (fn.ntmps - args.size) undef, [.code body], false⟩, u', es, ⟨?_, k1, okItems_cons hob (by intro y hy; cases hy)⟩, k2.mono fun w w' h main c cs => ?_⟩
          · intro x hx
            rcases List.mem_cons.1 hx with rfl | hx
            · exact ⟨h3, h4⟩
            · exact h2 x hx
          · have := h main [] [] (mid.map Wt.fr ++ c :: cs)
            simp only [List.append_nil, Out.to] at this
            rw [enter_eq hf hbd] at this
            exact this
        | ret =>
          refine .inl ⟨⟨mid, f, t', it' :: l', true⟩, u', es, ⟨h2, h3, h4⟩, k2.mono fun w w' h main c cs => ?_⟩
          have := h main [] [] (mid.map Wt.fr ++ c :: cs)
          simp only [List.append_nil, Out.to] at this
          exact this
      · refine .inr fun c cs => ?_
        have := h [] [] (mid.map Wt.fr ++ c :: cs) (fun id => rfl)
        simp only [List.append_nil] at this
        exact this
  | true =>
    obtain ⟨fn, body, hf, _, _, hres⟩ := hC.fn f h3
    obtain ⟨s0, hstep⟩ : ∃ s0 : String, ∀ main c cs w, stepG P main (G (topF f t' l' true) (c :: cs)) w =
        GStep.after (seen P f ((results fn t').runT P w #[]).2) (match ((results fn t').runT P w #[]).1 with
          | .ok v w => .go (G (c.finish v) cs) w #[]
          | .halt (.stuck s) w => .ended (.stuck s ((topF f t' l' true).pos P)) w #[]
          | .halt _ w => .ended (.stuck s0 ((topF f t' l' true).pos P)) w #[]) := ⟨_, by
      intro main c cs w
      simp [stepG, unwind, G, topF, Frame.at, bN, hf, doReturn]
      rfl⟩
    cases mid with
    | nil => exact absurd ⟨rfl, rfl⟩ hn
    | cons x mid =>
      cases hr : (results fn t').runT P u #[] with
      | mk r es =>
        cases r with
        | ok v u' =>
          have hran := fun X w hS => ran (X := X) (results fn t') (hres t') u w #[] v u' es hS hr
          have bs := hran (fun _ => False) u ⟨rfl, fun _ _ => rfl, fun _ h => h.elim, rfl, rfl⟩
          left
          have hx := h2 x (by simp)
          refine ⟨⟨mid, x.f, (fin1 x.it x.t v).1, (fin1 x.it x.t v).2 ++ x.l, false⟩, u', seen P f es, ⟨fun y hy => h2 y (by simp [hy]), hx.1, fin1_ok hx.2⟩, bs.1, bs.2.1, bs.2.2.1, fun X w hS hag => ?_⟩
          obtain ⟨_, w', e1, e2, e3, e4, e5, e6⟩ := (hran X w hS).2.2.2 hag
          refine ⟨w', fun main c cs => ?_, e2, e3, e4, e5, fun e he => (e6 e (mem_seen he)).resolve_left (by simp)⟩
          simp only [Up.go, List.map_cons, List.cons_append]
          rw [hstep, e1]
          dsimp only
          rw [Wt.fr, finish_any (hx.2 x.it (by simp))]
          simp [GStep.after, topF]
        | halt h u' =>
          refine .inr fun c cs => .inl ?_
          simp only [Up.go, List.map_cons, List.cons_append]
          rw [hstep, hr]
          cases h <;> exact ⟨_, _, _, rfl⟩

/-! ### the lone run's end -/
def NTU (P : Program) (m : Machine) : Prop := ∀ n fr w', fr.mode = .returning → runN P n m ≠ .next (lone fr [stuckF] w')

theorem NTU.of {P : Program} {m : Machine} (h : ∀ fr w', fr.mode = .returning → m ≠ lone fr [stuckF] w') (hs : ∀ m', step P m = .next m' → NTU P m') : NTU P m := by
  intro n fr w' hm
  cases n with
  | zero => intro e; simp only [runN] at e; cases e; exact h fr w' hm rfl
  | succ n =>
    simp only [runN]
    cases hst : step P m with
    | next m' => exact hs m' hst n fr w' hm
    | ended o w => intro e; cases e

theorem ntu_stuck {P : Program} {w : World} : NTU P (lone stuckF [] w) :=
  .of (fun fr w' _ e => by have := (lone_inj e).2.1; cases this) fun m' hm => by
    obtain ⟨o, w1, es, h⟩ := refused_ends (P := P) (fr := stuckF) (cs := []) (w := w) rfl rfl
    rw [step_ended h] at hm
    cases hm

theorem ntu_stuckP {P : Program} {w : World} {ch : List PanicEntry} : NTU P (lone { stuckF with mode := .panicking ch } [] w) := by
  refine NTU.of (fun a w' _ e => by have := (lone_inj e).2.1; cases this) fun m' hm => ?_
  have : ∃ o w' es, stepG P true (G { stuckF with mode := .panicking ch } []) w = .ended o w' es := ⟨_, _, _, by simp [stepG, unwind, stuckF, G, callDeferred]; exact ⟨rfl, rfl, rfl⟩⟩
  obtain ⟨o, w', es, h⟩ := this
  rw [step_ended h] at hm
  cases hm

theorem ntu_pan {P : Program} {ch : List PanicEntry} : ∀ (cs : List Frame) (fr : Frame) (w : World), fr.defers = [] → (∀ c ∈ cs, c.defers = [] ∧ c.mode = .run) → NTU P (lone { fr with mode := .panicking ch } (cs ++ [stuckF]) w)
  | [], fr, w, hd, _ => by
    refine NTU.of (fun a w' hm e => by have := congrArg Frame.mode (lone_inj e).1; rw [hm] at this; cases this) fun m' hm => ?_
    rcases pan_step (P := P) (cs := []) (w := w) (ch := ch) (c := stuckF) hd rfl with ⟨o, w', es, h⟩ | h
    · rw [List.nil_append, step_ended h] at hm; cases hm
    · rw [List.nil_append, step_go h] at hm
      cases hm
      exact ntu_stuckP
  | c :: cs, fr, w, hd, hcs => by
    refine NTU.of (fun a w' hm e => by have := congrArg Frame.mode (lone_inj e).1; rw [hm] at this; cases this) fun m' hm => ?_
    have hc := hcs c (by simp)
    rcases pan_step (P := P) (cs := cs ++ [stuckF]) (w := w) (ch := ch) (c := c) hd hc.2 with ⟨o, w', es, h⟩ | h
    · rw [List.cons_append, step_ended h] at hm; cases hm
    · rw [List.cons_append, step_go h] at hm
      cases hm
      exact ntu_pan cs c w hc.1 (fun x hx => hcs x (by simp [hx]))

theorem up_lone (s : Up) (w : World) : s.go stuckF [] = G (topF s.f s.t s.l s.ret) (s.mid.map Wt.fr ++ [stuckF]) ∧ solo (s.go stuckF []) w = lone (topF s.f s.t s.l s.ret) (s.mid.map Wt.fr ++ [stuckF]) w := ⟨rfl, rfl⟩

theorem topF_mode {f : FuncId} {t : Array Value} {l : List Item} {r : Bool} : (topF f t l r).mode = .returning ↔ r = true := by
  cases r <;> simp [topF, bN, Frame.at]

theorem up_not_target {s : Up} (h : ¬ s.Last) {w : World} : ∀ fr w', fr.mode = .returning → solo (s.go stuckF []) w ≠ lone fr [stuckF] w' := by
  intro fr w' hm e
  rw [(up_lone s w).2] at e
  obtain ⟨e1, e2, _⟩ := lone_inj e
  refine h ⟨?_, ?_⟩
  · have := congrArg List.length e2
    simp at this
    exact this
  · rw [← e1] at hm
    exact topF_mode.1 hm

theorem step_up {P : Program} {s s' : Up} {w w' : World} {es : Array Event} (h : stepG P true (s.go stuckF []) w = .go (s'.go stuckF []) w' es) : step P (solo (s.go stuckF []) w) = .next (solo (s'.go stuckF []) w') := by
  rw [(up_lone s w).2, (up_lone s' w').2]
  exact step_go h

theorem up_ends {P : Program} {s : Up} (hl : ¬ s.Last) {u : World} (h : Ends P (s.go stuckF []) u) : NTU P (solo (s.go stuckF []) u) := by
  refine NTU.of (up_not_target hl) fun m' hm => ?_
  rw [(up_lone s u).2] at hm
  rcases h with ⟨o, w', es, h⟩ | ⟨ch, w', es, h⟩
  · rw [step_ended h] at hm; cases hm
  · rw [step_go (show _ = GStep.go (G { topF s.f s.t s.l s.ret with mode := .panicking ch } (s.mid.map Wt.fr ++ [stuckF])) w' es from h)] at hm
    cases hm
    refine ntu_pan _ _ w' ?_ fun c hc => ?_
    · cases s.ret <;> rfl
    · obtain ⟨x, _, rfl⟩ := List.mem_map.1 hc; exact ⟨rfl, rfl⟩

/-- Behind its return a call does not come back to it. -/
theorem up_last {P : Program} {s : Up} (hl : s.Last) {w : World} {n : Nat} {fr : Frame} {w' : World} (hm : fr.mode = .returning) (h : runN P n (solo (s.go stuckF []) w) = .next (lone fr [stuckF] w')) : fr = topF s.f s.t s.l s.ret ∧ w' = w := by
  rw [(up_lone s w).2, hl.1] at h
  cases n with
  | zero =>
    simp only [runN] at h
    obtain ⟨e1, _, e3⟩ := lone_inj (Stepped.next.inj h)
    exact ⟨e1.symm, e3.symm⟩
  | succ n =>
    exfalso
    have hx : (∃ o w2 es, stepG P true (G (topF s.f s.t s.l true) [stuckF]) w = .ended o w2 es) ∨ ∃ w2 es, stepG P true (G (topF s.f s.t s.l true) [stuckF]) w = .go (G stuckF []) w2 es := by
      have hu : stepG P true (G (topF s.f s.t s.l true) [stuckF]) w = unwind P true (topF s.f s.t s.l true) [stuckF] none w := by
        simp [stepG, G, topF, Frame.at]
      have key : ∀ v w, doReturn P true (topF s.f s.t s.l true) [stuckF] none v w = .go (G stuckF []) w #[] := by
        intro v w
        simp [doReturn, topF, Frame.at, bN, stuckF, Frame.finish, G]
      rw [hu]
      cases hf : P.funcs[s.f]? with
      | none =>
        refine .inr ⟨w, #[], ?_⟩
        rw [← key (Array.getD s.t 0 undef) w]
        simp [unwind, topF, Frame.at, hf, bN]
      | some fn =>
        obtain ⟨s0, hun⟩ : ∃ s0 : String, unwind P true (topF s.f s.t s.l true) [stuckF] none w =
            GStep.after (seen P s.f ((results fn s.t).runT P w #[]).2) (match ((results fn s.t).runT P w #[]).1 with
              | .ok v w => doReturn P true (topF s.f s.t s.l true) [stuckF] none v w
              | .halt (.stuck x) w => .ended (.stuck x ((topF s.f s.t s.l true).pos P)) w #[]
              | .halt _ w => .ended (.stuck s0 ((topF s.f s.t s.l true).pos P)) w #[]) := ⟨_, by
          simp [unwind, topF, Frame.at, hf, bN]
          rfl⟩
        rw [hun]
        cases hr : (results fn s.t).runT P w #[] with
        | mk r es =>
          cases r with
          | ok v w1 =>
            dsimp only
            rw [key]
            exact .inr ⟨_, _, rfl⟩
          | halt x w1 => cases x <;> exact .inl ⟨_, _, _, rfl⟩
    have hs : NTU P (lone stuckF [] w) := ntu_stuck
    rw [show s.ret = true from hl.2] at h
    simp only [runN, List.map_nil, List.nil_append] at h
    rcases hx with ⟨o, w2, es, h1⟩ | ⟨w2, es, h1⟩
    · rw [step_ended h1] at h; cases h
    · rw [step_go h1] at h
      exact ntu_stuck n fr w' hm h

section
variable {P : Program} {F : Nat → Bool} {R : Value → World → Prop}

def ComeU (P : Program) (R : Value → World → Prop) (s : Up) (w : World) : Prop :=
  ∃ n fr w' v, runN P n (solo (s.go stuckF []) w) = .next (lone fr [stuckF] w') ∧ fr.leaving P w' (.returned v) ∧ R v w'
def CnU (P : Program) (F : Nat → Bool) (R : Value → World → Prop) (s : Up) (u : World) : Prop := s.ok P F ∧ ∀ T d, ComeU P R s (re u T d)

theorem comeU_step (hC : Closed P F) {s : Up} (hs : s.ok P F) (hl : ¬ s.Last) {u : World} (h : ComeU P R s u) :
    ∃ s' u' es, Up.ok P F s' ∧ Step1 u u' es (fun w w' => ∀ main c cs, stepG P main (s.go c cs) w = .go (s'.go c cs) w' es) ∧ ComeU P R s' u' := by
  obtain ⟨n, fr, w', v, hn, hv, hq⟩ := h
  rcases up_step hC s hs hl u with ⟨s', u', es, h1, h2⟩ | h
  · refine ⟨s', u', es, h1, h2, ?_⟩
    obtain ⟨w1, e1, e2, e3, e4, _⟩ := h2.2.2.2 (fun _ => False) u ⟨rfl, fun _ _ => rfl, fun _ h => h.elim, rfl, rfl⟩ (fun _ _ _ => rfl)
    have hw : w1 = u' := by
      rw [sim_re e2, e3, e4, show u.drawn + (u'.drawn - u.drawn) = u'.drawn by have := h2.1; omega, ← h2.2.1]
      rfl
    subst hw
    have hst := step_up (e1 true stuckF [])
    cases n with
    | zero =>
      simp only [runN] at hn
      exact absurd (Stepped.next.inj hn) (up_not_target hl fr w' hv.1)
    | succ n =>
      simp only [runN, hst] at hn
      exact ⟨n, fr, w', v, hn, hv, hq⟩
  · exact absurd hn (up_ends hl (h stuckF []) n fr w' hv.1)

theorem leaving_re {fr : Frame} {w : World} {v : Value} (h : fr.leaving P w (.returned v)) (T : Nat → Question → Nat) (d : Nat) : fr.leaving P (re w T d) (.returned v) := by
  obtain ⟨h1, h2, h3, fn, h4, h5⟩ := h
  refine ⟨h1, h2, h3, fn, h4, ?_⟩
  have hrT : (results fn fr.tmps).runT P w #[] = (.ok v w, (results fn fr.tmps).events P w #[]) := by rw [Sem.runT_eq, h5]
  obtain ⟨_, _, _, k⟩ := ran (X := fun _ => False) _ (t_results fn fr.tmps) w (re w T d) #[] v w _ ⟨rfl, fun _ _ => rfl, fun _ h => h.elim, rfl, rfl⟩ hrT
  obtain ⟨_, w', e1, e2, e3, e4, _⟩ := k (fun j hj => by omega)
  rw [Sem.runT_eq, Prod.mk.injEq] at e1
  have hw : w' = re w T d := by
    rw [sim_re e2, e3, e4]
    show re w T (d + (w.drawn - w.drawn)) = _
    rw [Nat.sub_self, Nat.add_zero]
  rw [e1.1, hw]
end
end Go.Bp

/- A call of a plain function goes, whatever the others do; what it hands back. -/
namespace Go.Bp
open Go Go.Conc

section
variable {P : Program} {F : Nat → Bool} {R : Value → World → Prop}

theorem comeU_last {s : Up} (hl : s.Last) {u : World} (h : ComeU P R s u) : ∃ v, (topF s.f s.t s.l s.ret).leaving P u (.returned v) ∧ R v u := by
  obtain ⟨n, fr, w', v, hn, hv, hq⟩ := h
  obtain ⟨rfl, rfl⟩ := up_last hl hv.1 hn
  exact ⟨v, hv, hq⟩

theorem last_comeU {s : Up} (hl : s.Last) {u : World} {v : Value} (hv : (topF s.f s.t s.l s.ret).leaving P u (.returned v)) (hq : R v u) : ComeU P R s u :=
  ⟨0, _, u, v, by rw [(up_lone s u).2, hl.1]; rfl, hv, hq⟩

theorem comeU_tape (hR : ∀ v w T d, R v w → R v (re w T d)) (hC : Closed P F) :
    ∀ (n : Nat) (s : Up) (u : World) (T : Nat → Question → Nat) (d : Nat), s.ok P F → (∀ j q, T (d + j) q = u.tape (u.drawn + j) q) →
      (∃ fr w' v, runN P n (solo (s.go stuckF []) u) = .next (lone fr [stuckF] w') ∧ fr.leaving P w' (.returned v) ∧ R v w') → ComeU P R s (re u T d) := by
  intro n
  induction n with
  | zero =>
    intro s u T d hs hT ⟨fr, w', v, hn, hv, hq⟩
    by_cases hl : s.Last
    · obtain ⟨v, hv, hq⟩ := comeU_last hl ⟨0, fr, w', v, hn, hv, hq⟩
      exact last_comeU hl (leaving_re hv T d) (hR _ _ _ _ hq)
    · simp only [runN] at hn
      exact absurd (Stepped.next.inj hn) (up_not_target hl fr w' hv.1)
  | succ n ih =>
    intro s u T d hs hT ⟨fr, w', v, hn, hv, hq⟩
    by_cases hl : s.Last
    · obtain ⟨v, hv, hq⟩ := comeU_last hl ⟨n + 1, fr, w', v, hn, hv, hq⟩
      exact last_comeU hl (leaving_re hv T d) (hR _ _ _ _ hq)
    · rcases comeU_step (R := R) hC hs hl ⟨n + 1, fr, w', v, hn, hv, hq⟩ with ⟨s', u', es, h1, h2, h3⟩
      obtain ⟨w1, e1, e2, e3, e4, _⟩ := h2.2.2.2 (fun _ => False) (re u T d) (re_sim u u.tape T u.drawn d) (fun j _ q => hT j q)
      obtain ⟨w2, f1, f2, f3, f4, _⟩ := h2.2.2.2 (fun _ => False) u ⟨rfl, fun _ _ => rfl, fun _ h => h.elim, rfl, rfl⟩ (fun _ _ _ => rfl)
      have hw : w2 = u' := by
        rw [sim_re f2, f3, f4, show u.drawn + (u'.drawn - u.drawn) = u'.drawn by have := h2.1; omega, ← h2.2.1]
        rfl
      subst hw
      have hst := step_up (f1 true stuckF [])
      simp only [runN, hst] at hn
      have hw1 : w1 = re w2 T (d + (w2.drawn - u.drawn)) := by rw [sim_re e2, e3, e4]; rfl
      subst hw1
      have := ih s' w2 T (d + (w2.drawn - u.drawn)) h1 (fun j q => by
        have := hT (w2.drawn - u.drawn + j) q
        rw [← Nat.add_assoc] at this
        rw [this, h2.2.1]
        congr 1
        have := h2.1
        omega) ⟨fr, w', v, hn, hv, hq⟩
      obtain ⟨m, fr2, w3, v2, hm, hv2, hq2⟩ := this
      refine ⟨m + 1, fr2, w3, v2, ?_, hv2, hq2⟩
      simp only [runN, step_up (e1 true stuckF [])]
      exact hm

theorem cnU_step (hR : ∀ v w T d, R v w → R v (re w T d)) (hC : Closed P F) {s : Up} {u : World} (h : CnU P F R s u) (hl : ¬ s.Last) (T : Nat → Question → Nat) (d : Nat) :
    ∃ s' u' es, CnU P F R s' u' ∧ Step1 (re u T d) u' es (fun w w' => ∀ main c cs, stepG P main (s.go c cs) w = .go (s'.go c cs) w' es) := by
  obtain ⟨s', u', es, h1, h2, _⟩ := comeU_step hC h.1 hl (h.2 T d)
  refine ⟨s', u', es, ⟨h1, fun T' d' => ?_⟩, h2⟩
  let K := u'.drawn - d
  let T2 : Nat → Question → Nat := fun j q => if j < K then T (d + j) q else T' (d' + (j - K)) q
  obtain ⟨w1, e1, e2, e3, e4, _⟩ := h2.2.2.2 (fun _ => False) (re u T2 0) (re_sim u T T2 d 0) (fun j hj q => by
    show T2 (0 + j) q = T (d + j) q
    have hj' : j < K := hj
    simp [T2, hj'])
  have hw1 : w1 = re u' T2 K := by
    rw [sim_re e2, e3, e4]
    show re u' T2 (0 + K) = _
    rw [Nat.zero_add]
  subst hw1
  obtain ⟨n, fr, w', v, hn, hv, hq⟩ := h.2 T2 0
  cases n with
  | zero =>
    simp only [runN] at hn
    exact absurd (Stepped.next.inj hn) (up_not_target hl fr w' hv.1)
  | succ n =>
    simp only [runN, step_up (e1 true stuckF [])] at hn
    exact comeU_tape hR hC n s' (re u' T2 K) T' d' h1 (fun j q => by
      show T' (d' + j) q = T2 (K + j) q
      simp [T2]
      intro hh; omega) ⟨fr, w', v, hn, hv, hq⟩

/-- ████ A PLAIN CALL GOES, WHATEVER THE OTHERS DO WITH THE HIDDEN BLOCKS AND WHATEVER THE SCHEDULER DRAWS. ████ -/
theorem barU (hR : ∀ v w T d, R v w → R v (re w T d)) (hC : Closed P F) {s : Up} {u w : World} {X : Nat → Prop} (h : CnU P F R s u) (hS : Sim X u w) (main : Bool) (c : Frame) (cs : List Frame) :
    Wk P main (RX X) (DX X) (fun g w' => ∃ (s' : Up) (u' : World) (v : Value), g = s'.go c cs ∧ s'.Last ∧ (topF s'.f s'.t s'.l s'.ret).leaving P u' (.returned v) ∧ R v u' ∧ Sim X u' w') (s.go c cs) w := by
  apply Classical.byContradiction
  intro hno
  let Pt := { p : Up × World × World // CnU P F R p.1 p.2.1 ∧ Sim X p.2.1 p.2.2 ∧ ¬ Wk P main (RX X) (DX X) (fun g w' => ∃ (s' : Up) (u' : World) (v : Value), g = s'.go c cs ∧ s'.Last ∧ (topF s'.f s'.t s'.l s'.ret).leaving P u' (.returned v) ∧ R v u' ∧ Sim X u' w') (p.1.go c cs) p.2.2 }
  have notLast : ∀ p : Pt, ¬ p.1.1.Last := by
    rintro ⟨⟨s, u, w⟩, hc, hS, hn⟩ hl
    refine hn (.stop fun w₁ hr => ?_)
    obtain ⟨v, hv, hq⟩ := comeU_last hl (hc.2 u.tape u.drawn)
    exact ⟨s, u, v, rfl, hl, hv, hq, hS.rely hr⟩
  have nxt : ∀ p : Pt, ∃ (p' : Pt) (T : Nat → Question → Nat) (d : Nat) (es : Array Event), Step1 (re p.1.2.1 T d) p'.1.2.1 es (fun w w' => ∀ main c cs, stepG P main (p.1.1.go c cs) w = .go (p'.1.1.go c cs) w' es) := by
    intro p
    have hl := notLast p
    obtain ⟨⟨s, u, w⟩, hc, hS, hn⟩ := p
    have hrun : (s.go c cs).status = .running := rfl
    have : ∃ w₁, RX X w w₁ ∧ ∀ g' w' es, stepG P main (s.go c cs) w₁ = .go g' w' es → DX X w₁ w' es → ¬ Wk P main (RX X) (DX X) (fun g w' => ∃ (s' : Up) (u' : World) (v : Value), g = s'.go c cs ∧ s'.Last ∧ (topF s'.f s'.t s'.l s'.ret).leaving P u' (.returned v) ∧ R v u' ∧ Sim X u' w') g' w' := by
      apply Classical.byContradiction
      intro hx
      refine hn (.next hrun fun w₁ hr => ?_)
      apply Classical.byContradiction
      intro hy
      exact hx ⟨w₁, hr, fun g' w' es h1 h2 h3 => hy ⟨g', w', es, h1, h2, h3⟩⟩
    obtain ⟨w₁, hr, hw⟩ := this
    obtain ⟨s', u', es, h1, h2⟩ := cnU_step hR hC hc hl w₁.tape w₁.drawn
    have hS1 : Sim X (re u w₁.tape w₁.drawn) w₁ := by
      have := hS.rely hr
      exact ⟨this.size, this.same, this.hid, this.os, this.output⟩
    obtain ⟨w', e1, e2, e3, e4, e5, e6⟩ := h2.2.2.2 X w₁ hS1 (fun _ _ _ => rfl)
    exact ⟨⟨(s', u', w'), h1, e2, hw _ _ _ (e1 main c cs) ⟨e5, e6⟩⟩, w₁.tape, w₁.drawn, es, h2⟩
  let nx : Pt → Pt := fun p => (nxt p).choose
  let tT : Pt → Nat → Question → Nat := fun p => (nxt p).choose_spec.choose
  let tD : Pt → Nat := fun p => (nxt p).choose_spec.choose_spec.choose
  have hnx : ∀ p : Pt, ∃ es, Step1 (re p.1.2.1 (tT p) (tD p)) (nx p).1.2.1 es (fun w w' => ∀ main c cs, stepG P main (p.1.1.go c cs) w = .go ((nx p).1.1.go c cs) w' es) := fun p => (nxt p).choose_spec.choose_spec.choose_spec
  let p0 : Pt := ⟨(s, u, w), h, hS, hno⟩
  let pt : Nat → Pt := fun i => Nat.rec p0 (fun _ p => nx p) i
  have pts : ∀ i, pt (i + 1) = nx (pt i) := fun i => rfl
  let K : Nat → Nat := fun i => (pt (i + 1)).1.2.1.drawn - tD (pt i)
  let ee : Nat → Nat := fun i => Nat.rec 0 (fun i x => x + K i) i
  have ees : ∀ i, ee (i + 1) = ee i + K i := fun i => rfl
  have mono : ∀ i k, ee i ≤ ee (i + k) := by
    intro i k
    induction k with
    | zero => exact Nat.le_refl _
    | succ k ih => rw [← Nat.add_assoc, ees]; omega
  have only : ∀ i j n, ee i ≤ n → n < ee (i + 1) → ee j ≤ n → n < ee (j + 1) → i = j := by
    intro i j n a1 a2 b1 b2
    rcases Nat.lt_trichotomy i j with hij | hij | hij
    · have := mono (i + 1) (j - (i + 1))
      rw [show i + 1 + (j - (i + 1)) = j by omega] at this
      omega
    · exact hij
    · have := mono (j + 1) (i - (j + 1))
      rw [show j + 1 + (i - (j + 1)) = i by omega] at this
      omega
  let Tw : Nat → Question → Nat := fun n q => open Classical in if hx : ∃ i, ee i ≤ n ∧ n < ee (i + 1) then tT (pt hx.choose) (tD (pt hx.choose) + (n - ee hx.choose)) q else 0
  have hTw : ∀ i j q, j < K i → Tw (ee i + j) q = tT (pt i) (tD (pt i) + j) q := by
    intro i j q hj
    have hx : ∃ i', ee i' ≤ ee i + j ∧ ee i + j < ee (i' + 1) := ⟨i, by omega, by rw [ees]; omega⟩
    have hi : hx.choose = i := only _ _ _ hx.choose_spec.1 hx.choose_spec.2 (by omega) (by rw [ees]; omega)
    show (open Classical in if hx : ∃ i', ee i' ≤ ee i + j ∧ ee i + j < ee (i' + 1) then tT (pt hx.choose) (tD (pt hx.choose) + (ee i + j - ee hx.choose)) q else 0) = _
    rw [dif_pos hx, hi, show ee i + j - ee i = j by omega]
  have run : ∀ i, runN P i (solo ((pt 0).1.1.go stuckF []) (re (pt 0).1.2.1 Tw 0)) = .next (solo ((pt i).1.1.go stuckF []) (re (pt i).1.2.1 Tw (ee i))) := by
    intro i
    induction i with
    | zero => rfl
    | succ i ih =>
      rw [runN_add, ih]
      obtain ⟨es, h2⟩ := hnx (pt i)
      obtain ⟨w1, e1, e2, e3, e4, _⟩ := h2.2.2.2 (fun _ => False) (re (pt i).1.2.1 Tw (ee i)) (re_sim _ _ _ _ _) (fun j hj q => hTw i j q hj)
      have hw1 : w1 = re (pt (i + 1)).1.2.1 Tw (ee (i + 1)) := by
        rw [sim_re e2, e3, e4]
        rfl
      subst hw1
      simp only [runN, step_up (e1 true stuckF [])]
      rfl
  obtain ⟨n, fr, w', v, hr, hv, _⟩ := h.2 Tw 0
  have hr' := (run n).symm.trans hr
  exact up_not_target (notLast (pt n)) fr w' hv.1 (Stepped.next.inj hr')

/-- What is handed back. -/
theorem step_leave {s : Up} (hl : s.Last) {u w : World} {X : Nat → Prop} {v : Value} (hv : (topF s.f s.t s.l s.ret).leaving P u (.returned v)) (hS : Sim X u w) (c : Frame) (cs : List Frame) :
    ∃ w' es, stepG P true (s.go c cs) w = .go (G (c.finish v) cs) w' es ∧ (∀ e ∈ es, EvX X e) ∧ Sim X u w' := by
  obtain ⟨h1, h2, h3, fn, h4, h5⟩ := hv
  have hfn : (topF s.f s.t s.l s.ret).fn = s.f := by cases s.ret <;> rfl
  have hft : (topF s.f s.t s.l s.ret).tmps = s.t := by cases s.ret <;> rfl
  rw [hfn] at h4
  rw [hft] at h5
  have hrT : (results fn s.t).runT P u #[] = (.ok v u, (results fn s.t).events P u #[]) := by rw [Sem.runT_eq, h5]
  obtain ⟨_, _, _, k⟩ := ran (X := X) _ (t_results fn s.t) u w #[] v u _ hS hrT
  obtain ⟨_, w', e1, e2, e3, e4, _, e6⟩ := k (fun j hj => by omega)
  refine ⟨w', _, ?_, fun e he => (e6 e (mem_seen (P := P) (fn := s.f) he)).resolve_left (by simp), e2⟩
  have hg : s.go c cs = G (topF s.f s.t s.l true) (c :: cs) := by
    unfold Up.go
    rw [hl.1, hl.2]
    rfl
  rw [hg]
  obtain ⟨s0, hstep⟩ : ∃ s0 : String, stepG P true (G (topF s.f s.t s.l true) (c :: cs)) w =
      GStep.after (seen P s.f ((results fn s.t).runT P w #[]).2) (match ((results fn s.t).runT P w #[]).1 with
        | .ok v w => .go (G (c.finish v) cs) w #[]
        | .halt (.stuck x) w => .ended (.stuck x ((topF s.f s.t s.l true).pos P)) w #[]
        | .halt _ w => .ended (.stuck s0 ((topF s.f s.t s.l true).pos P)) w #[]) := ⟨_, by
    simp [stepG, unwind, G, topF, Frame.at, bN, h4, doReturn]
    rfl⟩
  rw [hstep, e1]
  simp [GStep.after]

/-- A call, from the callee's entry to the caller's next operation. -/
theorem calls_to (hR : ∀ v w T d, R v w → R v (re w T d)) (hC : Closed P F) {f : FuncId} (hf : F f = true) {args : Array Value} {u : World} {X : Nat → Prop}
    (h : ∀ T d, Calls P f args (re u T d) fun e w' => ∃ v, e = .returned v ∧ R v w') (c : Frame) (cs : List Frame) :
    To P (Fq P X u (G (Frame.enter P f args .normal) (c :: cs))) (fun m t => ∃ v u', R v u' ∧ Fq P X u' (G (c.finish v) cs) m t) := by
  obtain ⟨fn, body, h1, h2, h3, _⟩ := hC.fn f hf
  let s : Up := ⟨[], f, args ++ Array.replicate (fn.ntmps - args.size) undef, [.code body], false⟩
  have hs : ∀ c cs, s.go c cs = G (Frame.enter P f args .normal) (c :: cs) := fun c cs => by rw [enter_eq h1 h2]; rfl
  have hcn : CnU P F R s u := by
    refine ⟨⟨by simp [s], hf, okItems_cons h3 (by intro y hy; cases hy)⟩, fun T d => ?_⟩
    obtain ⟨e, w', fr, ⟨v, rfl, hr⟩, hc, _, hl⟩ := h T d [stuckF]
    obtain ⟨n, hn⟩ := (hc : Steps P _ _)
    exact ⟨n, fr, w', v, by rw [hs]; exact hn, hl, hr⟩
  rw [← hs]
  rintro m tr ⟨w, hf, hS⟩
  obtain ⟨N, m', t', r1, a', w', h2, h3⟩ := wk_to (T := Ps X 0) (Ps.muted 0) (fun w d => rx_at (RX.refl X w) d) (fun w w' es t fn pos hd ht => ht.plain hd.2) (barU hR hC hcn hS true c cs) m tr hf
  obtain ⟨s', u', v, rfl, hl, hv, hq, hS'⟩ := h3 w' (RX.refl X w')
  obtain ⟨N2, m2, t2, r2, a2, u2, hq2, rfl, rfl⟩ := step_to (P := P) (X := X) (Nx := fun x y => x = G (c.finish v) cs ∧ y = u') rfl (fun w hS => by
    obtain ⟨w', es, e1, e2, e3⟩ := step_leave hl hv hS c cs
    exact ⟨_, w', es, u', e1, e2, e3, rfl, rfl⟩) m' t' ⟨w', h2, hS'⟩
  exact ⟨N + N2, m2, t2, by rw [runNT_add, r1]; exact r2, v, _, hq, hq2⟩
end
end Go.Bp

/- A piece that ends in one way: the caller's walk. -/
namespace Go.Bp
open Go Go.Conc

section
variable {P : Program} {F : Nat → Bool} {X : Nat → Prop}

theorem Fq.unre {u : World} {T : Nat → Question → Nat} {d : Nat} {g : Goroutine} {m : Machine} {t : Trace} (h : Fq P X (re u T d) g m t) : Fq P X u g m t := by
  obtain ⟨w, h1, h2⟩ := h
  exact ⟨w, h1, ⟨h2.size, h2.same, h2.hid, h2.os, h2.output⟩⟩

theorem code_at {b : Frame} (hC : Closed P F) (hb : b.kind ≠ .early) {c : Code} (hc : okCode P F c) {t A : Array Value} {u u2 : World}
    (h : ∀ T d, c.wp P (fun e a w => e = .normal ∧ a = ⟨A, []⟩ ∧ w = re u2 T d) ⟨t, []⟩ (re u T d)) (D : List Deferred) (k : List Item) (cs : List Frame) :
    To P (Fq P X u (G (b.at ⟨t, D⟩ (.code c :: k)) cs)) (Fq P X u2 (G (b.at ⟨A, D⟩ k) cs)) := by
  refine (code_to (Q := fun a w => a = ⟨A, []⟩ ∧ ∃ T d, w = re u2 T d) (fun a w T d ⟨h1, _, _, h2⟩ => ⟨h1, T, d, by rw [h2]; rfl⟩) hC hb hc (fun T d => wp_mono (h T d) fun e a w ⟨h1, h2, h3⟩ => ⟨h1, h2, T, d, h3⟩) D k cs).mono ?_
  rintro m tr ⟨t', u', hq, h1, T, d, rfl⟩
  simp only [Act.mk.injEq, and_true] at h1
  subst h1
  exact hq.unre
end
end Go.Bp

/- Single operations, returns, and pieces of a sequence, in company. -/
namespace Go.Bp
open Go Go.Conc

section
variable {P : Program} {F : Nat → Bool} {X : Nat → Prop}

/-- One plain operation. -/
theorem op_to {b : Frame} {t : Array Value} {D : List Deferred} {k : List Item} {cs : List Frame} {i : Nat} {rest : List Nat} {ops : Array Oper} {o : Oper} {u : World} (ho : ops[i]? = some o) (hw : Region.wanted o (yielded ops t) = true) (hb : b.kind ≠ .early)
    (hpl : PlainOp P F o) {v : Value} {x : Next} (hx : x = .value v ∨ (x = .skip ∧ v = undef)) {u2 : World} (h : ∀ T d, ∃ T' d', (execOp (Act.eval ⟨t, D⟩) o).run P (re u T d) = .ok x (re u2 T' d')) :
    To P (Fq P X u (G (b.at ⟨t, D⟩ (.inRegion ops (i :: rest) :: k)) cs)) (Fq P X u2 (G (b.at (Act.put ⟨t, D⟩ o.dst v) (.inRegion ops rest :: k)) cs)) := by
  refine (step_to (Nx := fun a' u' => a' = G (b.at (Act.put ⟨t, D⟩ o.dst v) (.inRegion ops rest :: k)) cs ∧ ∃ T d, u' = re u2 T d) rfl fun w hS => ?_).mono ?_
  · obtain ⟨T', d', hr⟩ := h w.tape w.drawn
    have hS1 : Sim X (re u w.tape w.drawn) w := ⟨hS.size, hS.same, hS.hid, hS.os, hS.output⟩
    have hrT : (execOp (Act.eval ⟨t, D⟩) o).runT P (re u w.tape w.drawn) #[] = (.ok x (re u2 T' d'), (execOp (Act.eval ⟨t, D⟩) o).events P (re u w.tape w.drawn) #[]) := by rw [Sem.runT_eq, hr]
    obtain ⟨_, _, _, h4⟩ := ran (X := X) _ (hpl ⟨t, D⟩) _ w #[] _ _ _ hS1 hrT
    obtain ⟨_, w', e1, e2, _, _, e5, e6⟩ := h4 (fun _ _ _ => rfl)
    rw [Sem.runT_eq, Prod.mk.injEq] at e1
    have hev : ∀ e ∈ listed P b.fn ⟨t, D⟩ o w, EvX X e := fun e he => by
      have := mem_seen he
      rw [show (execOp (Act.eval ⟨t, D⟩) o).events P w #[] = _ from e1.2] at this
      exact (e6 e this).resolve_left (by simp)
    have hst : stepG P true (G (b.at ⟨t, D⟩ (.inRegion ops (i :: rest) :: k)) cs) w = .go (G (b.at (Act.put ⟨t, D⟩ o.dst v) (.inRegion ops rest :: k)) cs) w' (listed P b.fn ⟨t, D⟩ o w) := by
      rcases hx with rfl | ⟨rfl, rfl⟩
      · exact stepG_value ho hw hb e1.1
      · exact stepG_none ho hw hb e1.1
    exact ⟨_, w', _, _, hst, hev, e2, rfl, T', d', rfl⟩
  · rintro m tr ⟨a', u', h1, rfl, T, d, rfl⟩
    exact h1.unre

/-- The operation that enters a function. -/
theorem enter_to {b : Frame} {t : Array Value} {D : List Deferred} {k : List Item} {cs : List Frame} {i : Nat} {rest : List Nat} {ops : Array Oper} {o : Oper} {u : World} (ho : ops[i]? = some o) (hw : Region.wanted o (yielded ops t) = true) (hb : b.kind ≠ .early)
    (hpl : PlainOp P F o) {f : FuncId} {args : Array Value} (h : ∀ T d, (execOp (Act.eval ⟨t, D⟩) o).run P (re u T d) = .ok (.enter f args) (re u T d)) :
    To P (Fq P X u (G (b.at ⟨t, D⟩ (.inRegion ops (i :: rest) :: k)) cs)) (Fq P X u (G (Frame.enter P f args .normal) (b.at ⟨t, D⟩ (.inRegion ops (i :: rest) :: k) :: cs))) := by
  refine (step_to (Nx := fun a' u' => a' = G (Frame.enter P f args .normal) (b.at ⟨t, D⟩ (.inRegion ops (i :: rest) :: k) :: cs) ∧ ∃ T d, u' = re u T d) rfl fun w hS => ?_).mono ?_
  · have hr := h w.tape w.drawn
    have hS1 : Sim X (re u w.tape w.drawn) w := ⟨hS.size, hS.same, hS.hid, hS.os, hS.output⟩
    have hrT : (execOp (Act.eval ⟨t, D⟩) o).runT P (re u w.tape w.drawn) #[] = (.ok (.enter f args) (re u w.tape w.drawn), (execOp (Act.eval ⟨t, D⟩) o).events P (re u w.tape w.drawn) #[]) := by rw [Sem.runT_eq, hr]
    obtain ⟨_, _, _, h4⟩ := ran (X := X) _ (hpl ⟨t, D⟩) _ w #[] _ _ _ hS1 hrT
    obtain ⟨_, w', e1, e2, _, _, e5, e6⟩ := h4 (fun _ _ _ => rfl)
    rw [Sem.runT_eq, Prod.mk.injEq] at e1
    have hev : ∀ e ∈ listed P b.fn ⟨t, D⟩ o w, EvX X e := fun e he => by
      have := mem_seen he
      rw [show (execOp (Act.eval ⟨t, D⟩) o).events P w #[] = _ from e1.2] at this
      exact (e6 e this).resolve_left (by simp)
    exact ⟨_, w', _, _, stepG_enter ho hw hb e1.1, hev, e2, rfl, _, _, rfl⟩
  · rintro m tr ⟨a', u', h1, rfl, T, d, rfl⟩
    exact h1.unre

/-- A frame on its way out hands its results back. -/
theorem leave_up {f : FuncId} {fn : Func} {t : Array Value} {l : List Item} {c : Frame} {cs : List Frame} {u : World} {v : Value} (hf : P.funcs[f]? = some fn) (hr : (results fn t).run P u = .ok v u) :
    To P (Fq P X u (G { (bN f).at ⟨t, []⟩ l with mode := .returning } (c :: cs))) (Fq P X u (G (c.finish v) cs)) := by
  let s : Up := ⟨[], f, t, l, true⟩
  have hl : s.Last := ⟨rfl, rfl⟩
  refine (step_to (P := P) (X := X) (Nx := fun x y => x = G (c.finish v) cs ∧ y = u) rfl (fun w hS => ?_)).mono fun m t ⟨x, y, h1, e1, e2⟩ => by subst e1 e2; exact h1
  obtain ⟨w', es, e1, e2, e3⟩ := step_leave (P := P) (s := s) hl (u := u) (v := v) ⟨rfl, rfl, rfl, fn, hf, hr⟩ hS c cs
  exact ⟨_, w', es, u, e1, e2, e3, rfl, rfl⟩

/-! ### pieces of a sequence -/

/-- c is c1 with rest behind it. -/
inductive Cut : Code → Code → Code → Prop
  | one (a rest : Code) : Cut (.seq a rest) a rest
  | more {a c c1 rest : Code} : Cut c c1 rest → Cut (.seq a c) (.seq a c1) rest

def ext (l2 : List Item) : St → St
  | .base t l => .base t (l ++ l2)
  | .up t it l mid f t' l' ret => .up t it (l ++ l2) mid f t' l' ret

theorem mk_ext {b : Frame} {l2 : List Item} (s : St) (e : Env) : (ext l2 s).mk b e = s.mk b ⟨e.D, l2 ++ e.k, e.cs⟩ := by
  cases s <;> simp [ext, St.mk]

theorem ext_ok {l2 : List Item} {s : St} (h : s.ok P F) (h2 : okItems P F l2) : (ext l2 s).ok P F := by
  cases s with
  | base t l => intro x hx; rcases List.mem_append.1 hx with hx | hx; exact h x hx; exact h2 x hx
  | up t it l mid f t' l' ret =>
    refine ⟨fun x hx => ?_, h.2⟩
    rcases List.mem_cons.1 hx with rfl | hx
    · exact h.1 _ (by simp)
    rcases List.mem_append.1 hx with hx | hx
    · exact h.1 x (by simp [hx])
    · exact h2 x hx

theorem ext_not_last {l2 : List Item} {s : St} (h : ¬ Last s) : ¬ Last (ext l2 s) := by
  cases s with
  | base t l =>
    cases l with
    | nil => exact absurd trivial h
    | cons x l => exact fun x => x
  | up => exact h

theorem cn_next {b : Frame} {Q : Act → World → Prop} (hQ : ∀ a w T d, Q a w → Q a (re w T d)) (hC : Closed P F) (hb : b.kind ≠ .early) {s s' : St} {u u' : World} {es : Array Event} (h : Cn P F b Q s u) (hl : ¬ Last s) {T : Nat → Question → Nat} {d : Nat}
    (h1 : s'.ok P F) (h2 : Step1 (re u T d) u' es (fun w w' => ∀ main e, stepG P main (s.mk b e) w = .go (s'.mk b e) w' es)) : Cn P F b Q s' u' := by
  refine ⟨h1, fun T' d' => ?_⟩
  let K := u'.drawn - d
  let T2 : Nat → Question → Nat := fun j q => if j < K then T (d + j) q else T' (d' + (j - K)) q
  obtain ⟨w1, e1, e2, e3, e4, _⟩ := h2.2.2.2 (fun _ => False) (re u T2 0) (re_sim u T T2 d 0) (fun j hj q => by
    show T2 (0 + j) q = T (d + j) q
    have hj' : j < K := hj
    simp [T2, hj'])
  have hw1 : w1 = re u' T2 K := by
    rw [sim_re e2, e3, e4]
    show re u' T2 (0 + K) = _
    rw [Nat.zero_add]
  subst hw1
  obtain ⟨n, a, w', hn, hq⟩ := h.2 T2 0
  cases n with
  | zero =>
    obtain ⟨fr, cs, k1, k2⟩ := solo_lone (b := b) s (re u T2 0)
    simp only [runN, k2] at hn
    cases hn
    exact absurd rfl (not_target hl k1 (w := re u T2 0) a _)
  | succ n =>
    simp only [runN, step_solo (e1 true e0)] at hn
    exact come_tape hQ hC hb n s' (re u' T2 K) T' d' h1 (fun j q => by
      show T' (d' + j) q = T2 (K + j) q
      simp [T2]
      intro hh; omega) ⟨a, w', hn, hq⟩

theorem Cn.re {b : Frame} {Q : Act → World → Prop} {s : St} {u : World} (h : Cn P F b Q s u) (T : Nat → Question → Nat) (d : Nat) : Cn P F b Q s (re u T d) := ⟨h.1, fun T' d' => h.2 T' d'⟩

theorem cn_cut {b : Frame} {Q : Act → World → Prop} (hQ : ∀ a w T d, Q a w → Q a (re w T d)) (hC : Closed P F) (hb : b.kind ≠ .early) {l2 : List Item} (hl2 : okItems P F l2) (hx2 : ∀ id, exitTo id l2 = none) (hne : l2 ≠ []) :
    ∀ (n : Nat) (s : St) (u : World), s.ok P F → Cn P F b Q (ext l2 s) u →
      (∃ a w', runN P n (solo ((ext l2 s).mk b e0) u) = .next (lone (b.at a k0) [stuckF] w')) → Come P b (fun a w => a.defers = [] ∧ Cn P F b Q (.base a.tmps l2) w) s u := by
  intro n
  induction n with
  | zero =>
    intro s u hs hc ⟨a, w', hn⟩
    exfalso
    have hle : ¬ Last (ext l2 s) := by
      cases s with
      | base t l => cases l <;> cases l2 <;> first | exact fun x => x | exact absurd rfl hne
      | up => exact fun x => x
    obtain ⟨fr, cs, k1, k2⟩ := solo_lone (b := b) (ext l2 s) u
    simp only [runN, k2] at hn
    cases hn
    exact absurd rfl (not_target hle k1 (w := u) a _)
  | succ n ih =>
    intro s u hs hc ⟨a, w', hn⟩
    by_cases hl : Last s
    · cases s with
      | base t l =>
        cases l with
        | nil => exact ⟨0, ⟨t, []⟩, u, rfl, rfl, hc⟩
        | cons x l => exact absurd hl (fun x => x)
      | up => exact absurd hl (fun x => x)
    · rcases sl hC hb s hs (fun t e => hl (by rw [e]; trivial)) u with ⟨s', u', es, h1, h2⟩ | h
      · have h2e : Step1 u u' es (fun w w' => ∀ main e, stepG P main ((ext l2 s).mk b e) w = .go ((ext l2 s').mk b e) w' es) := h2.mono fun w w' h main e => by
          rw [mk_ext, mk_ext]; exact h main ⟨e.D, l2 ++ e.k, e.cs⟩
        obtain ⟨w1, e1, e2, e3, e4, _⟩ := h2.2.2.2 (fun _ => False) u ⟨rfl, fun _ _ => rfl, fun _ h => h.elim, rfl, rfl⟩ (fun _ _ _ => rfl)
        have hw : w1 = u' := by
          rw [sim_re e2, e3, e4, show u.drawn + (u'.drawn - u.drawn) = u'.drawn by have := h2.1; omega, ← h2.2.1]
          rfl
        subst hw
        have hc' : Cn P F b Q (ext l2 s') w1 := cn_next hQ hC hb hc (ext_not_last hl) (T := u.tape) (d := u.drawn) (ext_ok h1 hl2) h2e
        have hst := step_solo (b := b) (s := ext l2 s) (s' := ext l2 s') (w := u) (w' := w1) (es := es) (by rw [mk_ext, mk_ext]; exact e1 true ⟨[], l2 ++ k0, [stuckF]⟩)
        simp only [runN, hst] at hn
        obtain ⟨m, a2, w2, hm, hq⟩ := ih s' w1 h1 hc' ⟨a, w', hn⟩
        exact ⟨m + 1, a2, w2, by simp only [runN, step_solo (e1 true e0)]; exact hm, hq⟩
      · exfalso
        have hL := h ⟨[], l2 ++ k0, [stuckF]⟩ (fun id => by
          show exitTo id (l2 ++ k0) = none
          rw [exitTo_append, hx2]
          rfl)
        have hL2 : Lost P b ((ext l2 s).mk b e0) e0 u := by
          rw [mk_ext]
          rcases hL with h | ⟨t, l, w', es, h⟩
          · exact .inl h
          · refine .inr ⟨t, l ++ l2, w', es, ?_⟩
            rw [List.append_assoc]
            exact h
        obtain ⟨fr, cs, k1, k2⟩ := solo_lone (b := b) (ext l2 s) u
        rw [k2] at hn
        exact lost_nt (ext_not_last hl) hL2 k1 _ a w' hn

theorem cn_first {b : Frame} {Q : Act → World → Prop} (hQ : ∀ a w T d, Q a w → Q a (re w T d)) (hC : Closed P F) (hb : b.kind ≠ .early) {t : Array Value} {x y : Code} {u : World} (hx : okCode P F x) (hy : okCode P F y) (h : Cn P F b Q (.base t [.code (.seq x y)]) u) :
    Cn P F b (fun a w => a.defers = [] ∧ Cn P F b Q (.base a.tmps [.code y]) w) (.base t [.code x]) u := by
  have ho : okItems P F [Item.code x] := okItems_cons hx (by intro y hy; cases hy)
  have hoy : okItems P F [Item.code y] := okItems_cons hy (by intro y hy; cases hy)
  have h2 : Cn P F b Q (.base t [.code x, .code y]) u := by
    have := cn_next hQ hC hb (s' := .base t [.code x, .code y]) (u' := Go.Bp.re u u.tape u.drawn) (es := #[]) (T := u.tape) (d := u.drawn) h (fun x => x) (okItems_cons hx hoy) (.still fun w main e => stepG_seq)
    exact this
  refine ⟨ho, fun T d => ?_⟩
  obtain ⟨n, a, w', hn, _⟩ := h2.2 T d
  exact cn_cut hQ hC hb hoy (fun id => rfl) (by simp) n (.base t [.code x]) (Go.Bp.re u T d) ho (h2.re T d) ⟨a, w', hn⟩

theorem cut_go {b : Frame} {Q : Act → World → Prop} (hQ : ∀ a w T d, Q a w → Q a (re w T d)) (hC : Closed P F) (hb : b.kind ≠ .early) (D : List Deferred) (k : List Item) (cs : List Frame) {c c1 rest : Code} (hcut : Cut c c1 rest) :
    ∀ {t : Array Value} {u : World}, okCode P F c1 → Cn P F b Q (.base t [.code c1]) u →
    To P (Fq P X u (G (b.at ⟨t, D⟩ (.code c :: k)) cs)) (fun m tr => ∃ t u', Fq P X u' (G (b.at ⟨t, D⟩ (.code rest :: k)) cs) m tr ∧ Q ⟨t, []⟩ u') := by
  induction hcut with
  | one a rest =>
    intro t u hok h
    exact seq_to.trans (cn_to hQ hC hb h ⟨D, .code rest :: k, cs⟩)
  | @more a c c1 rest hc ih =>
    intro t u hok h
    refine seq_to.trans ((cn_to (fun a w T d ⟨h1, h2⟩ => ⟨h1, h2.re T d⟩) hC hb (cn_first hQ hC hb hok.1 hok.2 h) ⟨D, .code c :: k, cs⟩).trans ?_)
    rintro m tr ⟨t', u', hq, _, hcn⟩
    exact ih hok.2 hcn m tr hq

/-- ████ The front of a sequence, out of its lone contract. ████ -/
theorem cut_to {b : Frame} {Q : Act → World → Prop} (hQ : ∀ a w T d, Q a w → Q a (re w T d)) (hC : Closed P F) (hb : b.kind ≠ .early) {c c1 rest : Code} (hcut : Cut c c1 rest) (hok : okCode P F c1) {t : Array Value} {u : World}
    (h : ∀ T d, c1.wp P (fun e a w => e = .normal ∧ Q a w) ⟨t, []⟩ (re u T d)) (D : List Deferred) (k : List Item) (cs : List Frame) :
    To P (Fq P X u (G (b.at ⟨t, D⟩ (.code c :: k)) cs)) (fun m tr => ∃ t u', Fq P X u' (G (b.at ⟨t, D⟩ (.code rest :: k)) cs) m tr ∧ Q ⟨t, []⟩ u') := by
  refine cut_go hQ hC hb D k cs hcut hok ⟨okItems_cons hok (by intro y hy; cases hy), fun T d => ?_⟩
  obtain ⟨e, a, w', ⟨rfl, hq⟩, n, hn⟩ := h T d b k0 [stuckF]
  exact ⟨n, a, w', hn, hq⟩
end
end Go.Bp

/- The run's end: goroutine 0 returns beside leavers. -/
namespace Go.Bp
open Go Go.Conc
open Go.ConcN (sumTo)

theorem fr_ends {P : Program} {X : Nat → Prop} {a : Goroutine} {w : World} {Post : Value → World → Prop} (ha : a.status = .running)
    (hs : ∀ d, ∃ v w' es, stepG P true a (w.at d) = .ended (.done v) w' es ∧ (∀ e ∈ es, EvX X e) ∧ Post v w') {m : Machine} {t : Trace} (hf : Fr P (Ps X 0) a w m t) :
    ∃ N last o w' t', runNT P (N + 1) m t = (.ended o w', t') ∧ runN P N m = .next last ∧ step P last = .ended o w' ∧ Good P Post last o w' t' := by
  obtain ⟨gs, sl, q, rfl, h0, hL, ht⟩ := hf
  obtain ⟨N, gs', d, sl', t', q', i, g, d2, sl2, r1, r2, r3, r4, r5, r6, r7, r8, r9, _⟩ := pick (act := act0) rfl (Ps.muted 0) _ gs w sl t q (Nat.le_refl _) hL
    (fun i g hi hg => by
      have : i = 0 := by simpa [act0] using hi
      subst this
      rw [h0] at hg; cases hg; exact .inl ha) ⟨0, a, rfl, h0, ha⟩ ht
  have hi : i = 0 := by simpa [act0] using r5
  subst hi
  obtain ⟨x, hx, hw⟩ := r8 0 a rfl h0
  have hxa : x = a := by
    rcases hw with h | ⟨h, _⟩
    · exact h
    · rw [ha] at h; cases h
  have hga : g = a := by rw [r6] at hx; rw [← hxa]; exact Option.some.inj hx
  subst hga
  obtain ⟨v, w', es, e1, e2, e3⟩ := hs d2
  have hrunT := runT_many_ended (P := P) (sl := sl2) (i := 0) r6 (show stepG P (0 == 0) g (w.at d2) = _ from e1)
  have hP' := r4.own (fn := g.frame.fn) (pos := g.frame.place) fun e he => evX_ev0 (e2 e he)
  have hst : stepT P (crowd gs' (w.at d) sl') = (.ended (.done v) w', MemOp.ofEvents 0 g.frame.fn g.frame.place es) := r9.trans hrunT
  refine ⟨N, crowd gs' (w.at d) sl', .done v, w', t' ++ MemOp.ofEvents 0 g.frame.fn g.frame.place es, ?_, ?_, ?_, v, rfl, e3, hP'.clean, hP'.over, ⟨fun x hx => ?_, rfl⟩, fun j x hx hj => ?_⟩
  · rw [runNT_add, r1]
    simp only [runNT, hst]
  · rw [← runNT_fst, r1]
  · rw [← stepT_fst, hst]
  · obtain ⟨j, hj⟩ := List.mem_iff_getElem?.1 hx
    rw [List.getElem?_drop] at hj
    exact ⟨_, (r3.old (1 + j) x (by simp [act0]) (by simpa [crowd] using hj)).leaves⟩
  · have hq := r3.old j x (by simp [act0, hj]) hx
    refine ⟨q' j, ?_⟩
    have e : (t' ++ MemOp.ofEvents 0 g.frame.fn g.frame.place es).deaf j (t' ++ MemOp.ofEvents 0 g.frame.fn g.frame.place es).size = Deaf t' j :=
      Deaf_other t' (g := j) (g' := 0) (Ne.symm hj) _ (fun op hop => by obtain ⟨e, _, rfl⟩ := Go.Conc.mem_ofEvents hop; rfl)
    rw [e]
    exact hq.hears _

theorem ret_ends {P : Program} {X : Nat → Prop} {f : FuncId} {fn : Func} {t : Array Value} {l : List Item} {u : World} {v : Value} (hf : P.funcs[f]? = some fn) (hi : P.inits.idxOf? f = none) (hr : (results fn t).run P u = .ok v u) {m : Machine} {tr : Trace}
    (h : Fq P X u (G { (bN f).at ⟨t, []⟩ l with mode := .returning } []) m tr) :
    ∃ N last o w' t', runNT P (N + 1) m tr = (.ended o w', t') ∧ runN P N m = .next last ∧ step P last = .ended o w' ∧ Good P (fun v' w' => v' = v ∧ Sim X u w') last o w' t' := by
  obtain ⟨w, hfr, hS⟩ := h
  refine fr_ends rfl (fun d => ?_) hfr
  have hS1 : Sim X u (w.at d) := hS.rely (rx_at (RX.refl X w) d)
  have hrT : (results fn t).runT P u #[] = (.ok v u, (results fn t).events P u #[]) := by rw [Sem.runT_eq, hr]
  obtain ⟨_, _, _, k⟩ := ran (X := X) _ (t_results fn t) u (w.at d) #[] v u _ hS1 hrT
  obtain ⟨_, w', e1, e2, e3, e4, _, e6⟩ := k (fun j hj => by omega)
  refine ⟨v, w', seen P f ((results fn t).events P u #[]), ?_, fun e he => (e6 e (mem_seen (P := P) (fn := f) he)).resolve_left (by simp), rfl, e2⟩
  obtain ⟨s0, hstep⟩ : ∃ s0 : String, stepG P true (G { (bN f).at ⟨t, []⟩ l with mode := .returning } []) (w.at d) =
      GStep.after (seen P f ((results fn t).runT P (w.at d) #[]).2) (match ((results fn t).runT P (w.at d) #[]).1 with
        | .ok v w => .ended (.done v) w #[]
        | .halt (.stuck s) w => .ended (.stuck s (({ (bN f).at ⟨t, []⟩ l with mode := .returning } : Frame).pos P)) w #[]
        | .halt _ w => .ended (.stuck s0 (({ (bN f).at ⟨t, []⟩ l with mode := .returning } : Frame).pos P)) w #[]) := ⟨_, by
    simp [stepG, unwind, G, Frame.at, bN, hf, doReturn, hi]
    rfl⟩
  rw [hstep, e1]
  simp [GStep.after]
end Go.Bp

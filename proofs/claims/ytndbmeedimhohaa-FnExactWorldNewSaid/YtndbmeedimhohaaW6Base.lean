/- Worlds: a region that makes rows, builds a world of them and lays it into a variable; by an invariant. -/
import Derived.Test.YtndbmeedimhohaaW5Base
namespace Go.Proofs.Ytndbmeedimhohaa
open Go.RowKit
/-- A made row: its block, its type. -/
def MKb (w0 w : World) (t : TypeId) (b c sz : Nat) (z : List Value) : Prop := OwnS w b c sz (fun _ => z) ∧ (∃ cs, Bk w b t cs) ∧ w0.heap.size ≤ b
theorem MKb.bel {w0 w w' : World} {t : TypeId} {b c sz : Nat} {z : List Value} (h : MKb w0 w t b c sz z) (hb : Below w.heap.size w w') : MKb w0 w' t b c sz z := by
  obtain ⟨h1, ⟨cs, h2⟩, h3⟩ := h
  exact ⟨h1.below hb h1.1, ⟨cs, h2.below hb h2.lt⟩, h3⟩
theorem MKb.apart {w0 w : World} {t t' : TypeId} {b b' c sz : Nat} {z : List Value} {cs : Array Value} (h : MKb w0 w t b c sz z) (h' : Bk w b' t' cs) (hne : t ≠ t') : b ≠ b' := by
  obtain ⟨_, ⟨cs', h2⟩, _⟩ := h
  intro e
  subst e
  have := h2.symm.trans h'
  simp at this
  exact hne this.2
theorem MKb.off {w0 w : World} {t : TypeId} {b c sz g : Nat} {z : List Value} (h : MKb w0 w t b c sz z) (hg : b ≠ g) (i : Nat) (u : Value) : MKb w0 (w.setCell ⟨g, i, none⟩ u) t b c sz z := by
  obtain ⟨h1, ⟨cs, h2⟩, h3⟩ := h
  exact ⟨h1.off (by simpa using hg) u, ⟨cs, h2.off (by simpa using hg) u⟩, h3⟩
theorem MKb.new (w0 w : World) (hw : w0.heap.size ≤ w.heap.size) (t : TypeId) (z : List Value) (c sz : Nat) (hz : z.length = sz) : MKb w0 (w.alloc (.cells (madeCells z.toArray (c * sz)) t)) t w.heap.size c sz z :=
  ⟨made_own w t z c sz hz, ⟨_, Bk.new _ _ _⟩, hw⟩
/-- The invariant: ia allocates the variable (slot sl ia), is stores to it what ib built (slot sl ib). -/
structure DM (N : Nat) (w0 : World) (sl : Nat → Nat) (T : Nat → Value → World → Prop) (zs : Array Value) (ia is ib : Nat) (l : Array Bool) (xs : Nat → Value) (w : World) : Prop where
  bel : Below w0.heap.size w0 w
  at_ : ∀ j, j < N → j ≠ is → j ≠ ia → seen l j → T j (xs (sl j)) w
  var : seen l ia → ∃ h, xs (sl ia) = .pointer (some ⟨h, 0, none⟩) ∧ w0.heap.size ≤ h ∧ (¬ seen l is → Bk w h 26 zs) ∧ (seen l is → seen l ib ∧ ∃ cs, xs (sl ib) = .agg cs ∧ Bk w h 26 cs)
  no : ¬ seen l ia → ¬ seen l is
section
variable {N : Nat} {w0 w w' : World} {sl : Nat → Nat} {T : Nat → Value → World → Prop} {zs : Array Value} {ia is ib : Nat} {l : Array Bool} {xs : Nat → Value}
theorem DM.start (hb : Below w0.heap.size w0 w) : DM N w0 sl T zs ia is ib (Array.replicate N false) xs w.drew :=
  ⟨hb.drew, fun j _ _ _ hs => absurd hs (seen_none _ _), fun hs => absurd hs (seen_none _ _), fun _ => seen_none _ _⟩
theorem DM.put (d : DM N w0 sl T zs ia is ib l xs w) {i : Nat} (hnl : l.getD i true = false) (hia : i ≠ ia) (his : i ≠ is) (hsl : ∀ j, j < N → j ≠ i → j ≠ is → sl j ≠ sl i) (hNa : ia < N) (hias : ia ≠ is) (hib : ib < N) (hbs : ib ≠ is) (hb : Below w.heap.size w w') (hp : ∀ j v, T j v w → T j v w') {v : Value} (hv : T i v w') : DM N w0 sl T zs ia is ib (l.setIfInBounds i true) (updX xs (sl i) v) w' := by
  have hupd : ∀ j, j < N → j ≠ i → j ≠ is → updX xs (sl i) v (sl j) = xs (sl j) := fun j h1 h2 h3 => by simp [updX, hsl j h1 h2 h3]
  refine ⟨d.bel.trans (hb.mono d.bel.size), fun j hj hjs hja hs => ?_, fun hs => ?_, fun hs hs2 => ?_⟩
  · by_cases e : j = i
    · subst e
      simp only [updX, if_pos]
      exact hv
    · rw [hupd j hj e hjs]
      exact hp j _ (d.at_ j hj hjs hja ((seen_set hs).resolve_left e))
  · obtain ⟨h, h1, h2, h3, h4⟩ := d.var ((seen_set hs).resolve_left (Ne.symm hia))
    refine ⟨h, by rw [hupd ia hNa (Ne.symm hia) hias]; exact h1, h2, fun hn => ?_, fun hy => ?_⟩
    · have := h3 (fun s => hn (seen_more s))
      exact this.below hb this.lt
    · obtain ⟨s1, cs, s2, s3⟩ := h4 ((seen_set hy).resolve_left (Ne.symm his))
      have hne : ib ≠ i := fun e => not_seen hnl (e ▸ s1)
      exact ⟨seen_more s1, cs, by rw [hupd ib hib hne hbs]; exact s2, s3.below hb s3.lt⟩
  · exact d.no (fun s => hs (seen_more s)) ((seen_set hs2).resolve_left (Ne.symm his))
theorem DM.alloc_ (d : DM N w0 sl T zs ia is ib l xs w) (hnl : l.getD ia true = false) (hsl : ∀ j, j < N → j ≠ ia → j ≠ is → sl j ≠ sl ia) (hias : ia ≠ is) (hp : ∀ j v, T j v w → T j v (w.alloc (.cells zs 26))) : DM N w0 sl T zs ia is ib (l.setIfInBounds ia true) (updX xs (sl ia) (.pointer (some ⟨w.heap.size, 0, none⟩))) (w.alloc (.cells zs 26)) := by
  refine ⟨d.bel.alloc d.bel.size _, fun j hj hjs hja hs => ?_, fun hs => ?_, fun hs => absurd (seen_self hnl) hs⟩
  · rw [show updX xs (sl ia) _ (sl j) = xs (sl j) by simp [updX, hsl j hj hja hjs]]
    exact hp j _ (d.at_ j hj hjs hja ((seen_set hs).resolve_left hja))
  · refine ⟨w.heap.size, by simp [updX], d.bel.size, fun _ => Bk.new _ _ _, fun hs2 => ?_⟩
    exact absurd ((seen_set hs2).resolve_left (Ne.symm hias)) (d.no (not_seen hnl))
theorem DM.stored (d : DM N w0 sl T zs ia is ib l xs w) (hnl : l.getD is true = false) (hias : ia ≠ is) (hibs : ib ≠ is) {h : Nat} (ha : seen l ia) (hh : xs (sl ia) = .pointer (some ⟨h, 0, none⟩)) (hsb : seen l ib) {a b c e a' b' c' e' : Value} (hx : xs (sl ib) = .agg #[a, b, c, e]) (hz : Bk w h 26 #[a', b', c', e'])
    (hp : ∀ j v, T j v w → T j v ((((w.setCell ⟨h, 0, none⟩ a).setCell ⟨h, 1, none⟩ b).setCell ⟨h, 2, none⟩ c).setCell ⟨h, 3, none⟩ e)) :
    DM N w0 sl T zs ia is ib (l.setIfInBounds is true) xs ((((w.setCell ⟨h, 0, none⟩ a).setCell ⟨h, 1, none⟩ b).setCell ⟨h, 2, none⟩ c).setCell ⟨h, 3, none⟩ e) := by
  obtain ⟨h', h1, h2, h3, h4⟩ := d.var ha
  rw [hh] at h1
  simp only [Value.pointer.injEq, Option.some.injEq, Addr.mk.injEq, and_true] at h1
  subst h1
  have k := (((hz.put 0 a).put 1 b).put 2 c).put 3 e
  refine ⟨(((d.bel.setCell (p := ⟨h, 0, none⟩) h2 a).setCell (p := ⟨h, 1, none⟩) h2 b).setCell (p := ⟨h, 2, none⟩) h2 c).setCell (p := ⟨h, 3, none⟩) h2 e, fun j hj hjs hja hs => hp j _ (d.at_ j hj hjs hja ((seen_set hs).resolve_left hjs)), fun hs => ⟨h, hh, h2, fun hn => absurd (seen_self hnl) hn, fun _ => ⟨seen_more hsb, _, hx, k⟩⟩, fun hs => absurd (seen_more ha) hs⟩
end
/-- A row written whole at its first place. -/
theorem OwnS.first {w : World} {g n sz : Nat} {el : Nat → List Value} (h : OwnS w g n sz el) (hn : 0 < n) (vs : List Value) (hl : vs.length = sz) (hel : ∀ i, (el i).length = sz) : OwnS (w.setCells g 0 vs) g n sz (fun i => if i = 0 then vs else el i) := by
  refine ⟨by rw [size_setCells]; exact h.1, fun i hi => ?_, World.there_setCells h.2.2 _ _ _⟩
  by_cases e : i = 0
  · subst e
    simp only [if_pos]
    have := World.rangeAt_setCells_same w g (0 * sz) vs (by rw [hl]; exact OwnS.there_at h hn)
    simpa using this
  · simp only [if_neg e]
    have h1 : 1 * sz ≤ i * sz := Nat.mul_le_mul_right sz (by omega)
    exact World.rangeAt_setCells_apart (h.2.1 i hi) g 0 vs (.inr (.inr (by rw [hl]; omega)))
theorem OwnS.putAt {w : World} {g n sz k : Nat} {el : Nat → List Value} (h : OwnS w g n sz el) (hn : k < n) (vs : List Value) (hl : vs.length = sz) (hel : ∀ i, (el i).length = sz) : OwnS (w.setCells g (k * sz) vs) g n sz (fun i => if i = k then vs else el i) := by
  refine ⟨by rw [size_setCells]; exact h.1, fun i hi => ?_, World.there_setCells h.2.2 _ _ _⟩
  by_cases e : i = k
  · subst e
    simp only [if_pos]
    exact World.rangeAt_setCells_same w g (i * sz) vs (by rw [hl]; exact OwnS.there_at h hn)
  · simp only [if_neg e]
    rcases Nat.lt_or_gt_of_ne e with h1 | h1
    · have := mul_succ_le (sz := sz) h1
      exact World.rangeAt_setCells_apart (h.2.1 i hi) g (k * sz) vs (.inr (.inl (by rw [hel]; exact this)))
    · have := mul_succ_le (sz := sz) h1
      exact World.rangeAt_setCells_apart (h.2.1 i hi) g (k * sz) vs (.inr (.inr (by rw [hl]; exact this)))
/-- The cells of a world. -/
def zWorld : Array Value := #[.int .i64 0, .slice none 0 0, .slice none 0 0, .slice none 0 0]
def zCV : CV := ⟨false, 0, 0, 0, 0⟩
def nCV : CV := ⟨true, -1, 0, 0, 0⟩
def zTV : TV := ⟨0, 0, 0, 0, 0, 0, 0, 0, 0⟩
def zGV : GV := ⟨false, 0, ⟨#[]⟩, 0, 0, 0, 0, 0, 0, 0, 0, 0, fun _ => 0, 0, fun _ => false, 0, fun _ => 0, fun _ => false, fun _ => 0, fun _ => 0, fun _ => 0⟩
def nGV (n : Nat) : GV := ⟨true, -1, ⟨#[]⟩, 10, 15, 0, 0, 0, 0, 0, 0, 0, fun _ => 0, 0, fun _ => false, n, fun _ => 0, fun _ => false, fun _ => 0, fun _ => 10, fun _ => 0⟩
/-- A new world of n processors. -/
def nWV (n : Nat) : WV := ⟨0, n, fun _ => nCV, 12, fun _ => zTV, 8, fun i => if i = 0 then nGV n else zGV⟩
/-- The zero world. -/
def zWV : WV := ⟨0, 0, fun _ => zCV, 0, fun _ => zTV, 0, fun _ => zGV⟩
def nGH (g c : Nat) (i : Nat) : GH := if i = 0 then ⟨none, 0, none, 0, some ⟨g, 0, none⟩, c⟩ else ⟨none, 0, none, 0, none, 0⟩
def iwS (j : Nat) : Nat := [10, 11, 12, 13, 14, 4].getD j 0
def iwT (n : Nat) (w0 : World) (j : Nat) (v : Value) (w : World) : Prop :=
  match j with
  | 0 => v = .int .i64 n
  | 1 => ∃ b, v = .slice (some ⟨b, 0, none⟩) n n ∧ MKb w0 w 34 b n 5 zCpu
  | 2 => ∃ b, v = .slice (some ⟨b, 0, none⟩) 12 12 ∧ MKb w0 w 56 b 12 9 zTask
  | 3 => ∃ b, v = .slice (some ⟨b, 0, none⟩) 8 8 ∧ MKb w0 w 41 b 8 14 zGroup
  | 4 => ∃ b1 b2 b3, v = .agg #[.int .i64 0, .slice (some ⟨b1, 0, none⟩) n n, .slice (some ⟨b2, 0, none⟩) 12 12, .slice (some ⟨b3, 0, none⟩) 8 8] ∧ MKb w0 w 34 b1 n 5 zCpu ∧ MKb w0 w 56 b2 12 9 zTask ∧ MKb w0 w 41 b3 8 14 zGroup
  | _ => True
theorem iwT.bel {n : Nat} {w0 w w' : World} (hb : Below w.heap.size w w') (j : Nat) (v : Value) (h : iwT n w0 j v w) : iwT n w0 j v w' := by
  unfold iwT at h ⊢
  split at h
  · exact h
  · obtain ⟨b, e, m⟩ := h; exact ⟨b, e, m.bel hb⟩
  · obtain ⟨b, e, m⟩ := h; exact ⟨b, e, m.bel hb⟩
  · obtain ⟨b, e, m⟩ := h; exact ⟨b, e, m.bel hb⟩
  · obtain ⟨b1, b2, b3, e, m1, m2, m3⟩ := h; exact ⟨b1, b2, b3, e, m1.bel hb, m2.bel hb, m3.bel hb⟩
  · trivial
theorem MKb.off4 {w0 w : World} {t : TypeId} {b c sz h : Nat} {z : List Value} {cs : Array Value} (m : MKb w0 w t b c sz z) (hk : Bk w h 26 cs) (hne : t ≠ 26) (a1 a2 a3 a4 : Value) : MKb w0 ((((w.setCell ⟨h, 0, none⟩ a1).setCell ⟨h, 1, none⟩ a2).setCell ⟨h, 2, none⟩ a3).setCell ⟨h, 3, none⟩ a4) t b c sz z := by
  have e := m.apart hk hne
  exact (((m.off e 0 a1).off e 1 a2).off e 2 a3).off e 3 a4
theorem iwT.off {n : Nat} {w0 w : World} {h : Nat} {cs : Array Value} (hk : Bk w h 26 cs) (a1 a2 a3 a4 : Value) (j : Nat) (v : Value) (hv : iwT n w0 j v w) : iwT n w0 j v ((((w.setCell ⟨h, 0, none⟩ a1).setCell ⟨h, 1, none⟩ a2).setCell ⟨h, 2, none⟩ a3).setCell ⟨h, 3, none⟩ a4) := by
  unfold iwT at hv ⊢
  split at hv
  · exact hv
  · obtain ⟨b, e, m⟩ := hv; exact ⟨b, e, m.off4 hk (by decide) _ _ _ _⟩
  · obtain ⟨b, e, m⟩ := hv; exact ⟨b, e, m.off4 hk (by decide) _ _ _ _⟩
  · obtain ⟨b, e, m⟩ := hv; exact ⟨b, e, m.off4 hk (by decide) _ _ _ _⟩
  · obtain ⟨b1, b2, b3, e, m1, m2, m3⟩ := hv; exact ⟨b1, b2, b3, e, m1.off4 hk (by decide) _ _ _ _, m2.off4 hk (by decide) _ _ _ _, m3.off4 hk (by decide) _ _ _ _⟩
  · trivial
theorem OwnS.cell0 {w : World} {g n sz : Nat} {el : Nat → List Value} (h : OwnS w g n sz el) (hn : 0 < n) (i : Nat) (v : Value) (hv : (el 0)[i]? = some v) : w.cell? ⟨g, i, none⟩ = some v := by
  have := h.cell 0 hn i v hv
  simpa using this
theorem OwnS.free0 {w : World} {g n sz : Nat} {el : Nat → List Value} (h : OwnS w g n sz el) (hn : 0 < n) (i : Nat) (hi : i < sz) : w.frozen? ⟨g, i, none⟩ = false := by
  have := h.free 0 hn i hi
  simpa using this
theorem four_kept (X : World) (R : Nat) (a b c d : Value) : Kept (fun k => k = R) X ((((X.setCell ⟨R, 0, none⟩ a).setCell ⟨R, 1, none⟩ b).setCell ⟨R, 2, none⟩ c).setCell ⟨R, 3, none⟩ d) :=
  ((((Kept.refl (fun k => k = R) X).setCell (q := ⟨R, 0, none⟩) rfl a).setCell (q := ⟨R, 1, none⟩) rfl b).setCell (q := ⟨R, 2, none⟩) rfl c).setCell (q := ⟨R, 3, none⟩) rfl d
theorem hd_some {b k : Nat} (h : hd (some ⟨b, 0, none⟩) k) : k = b := by
  obtain ⟨o, e⟩ := h
  simp only [Option.some.injEq, Addr.mk.injEq] at e
  exact e.1.symm
/-- A world of the call's own, its blocks named. -/
def WNew (w : World) (B : Nat) (v : WV) (h : WH) : Prop := WOwn w B v h ∧ ∀ b, wTouched v h b → B ≤ b ∧ b < w.heap.size
/-- What a new world's rows are made of is its own. -/
theorem nWOwn {wq wf : World} {R b1 b2 b3 g9 n c c1 : Nat} (hn : 1 ≤ n) (hn4 : n ≤ 4) (h1 : OwnS wq b1 n 5 (fun _ => nCpu)) (h2 : OwnS wq b2 12 9 (fun _ => zTask)) (h3 : OwnS wq b3 8 14 (fun _ => zGroup)) (h9 : OwnS wq g9 n 5 (fun _ => nShelf))
    (r1 : R < b1) (r2 : R < b2) (r3 : R < b3) (n12 : b1 ≠ b2) (n13 : b1 ≠ b3) (n23 : b2 ≠ b3) (h39 : b3 < g9) (n19 : b1 ≠ g9) (n29 : b2 ≠ g9)
    (hk : Kept (fun b => b = R) (wq.setCells b3 0 (nGroup (-1) ⟨#[]⟩ (.slice (some ⟨g9, 0, none⟩) n c)).toList) wf) :
    WNew wf R (nWV n) ⟨some ⟨b1, 0, none⟩, c1, some ⟨b2, 0, none⟩, 12, some ⟨b3, 0, none⟩, 8, nGH g9 c⟩ := by
  have hz : Kept (fun b => b = b3) wq (wq.setCells b3 0 (nGroup (-1) ⟨#[]⟩ (.slice (some ⟨g9, 0, none⟩) n c)).toList) := Kept.setCells (p := fun b => b = b3) b3 rfl _ 0 wq (Kept.refl _ _)
  have o1 := (h1.kept hz n13).kept hk (by omega)
  have o2 := (h2.kept hz n23).kept hk (by omega)
  have o9 := (h9.kept hz (by omega)).kept hk (by omega)
  have o3 := (h3.first (by omega) (nGroup (-1) ⟨#[]⟩ (.slice (some ⟨g9, 0, none⟩) n c)).toList rfl (fun _ => rfl)).kept hk (by omega)
  have gt : ∀ b, touched b3 8 (fun i => if i = 0 then nGV n else zGV) (nGH g9 c) b → b = b3 ∨ b = g9 := by
    rintro b (e | ⟨i, _, e⟩)
    · exact .inl e
    · by_cases hi : i = 0
      · subst hi
        rcases e with ⟨e, _⟩ | ⟨e, _⟩ | ⟨_, e⟩
        · exact absurd e (by simp [nGV])
        · exact absurd e (by simp [nGV])
        · exact .inr (hd_some e)
      · simp only [if_neg hi] at e
        rcases e with ⟨e, _⟩ | ⟨e, _⟩ | ⟨e, _⟩
        all_goals exact absurd e (by simp [zGV])
  have gt' : ∀ b, gTouched (nWV n) ⟨some ⟨b1, 0, none⟩, c1, some ⟨b2, 0, none⟩, 12, some ⟨b3, 0, none⟩, 8, nGH g9 c⟩ b → b = b3 ∨ b = g9 := by
    rintro b ⟨q, e, ht⟩
    simp only [Option.some.injEq, Addr.mk.injEq, and_true] at e
    subst e
    exact gt b ht
  refine ⟨?_, ?_⟩
  rotate_left
  · have p1 := o1.1
    have p2 := o2.1
    have p3 := o3.1
    have p9 := o9.1
    rintro b (hb | hb | hb)
    · have := hd_some hb; omega
    · have := hd_some hb; omega
    · have := gt' b hb; omega
  refine ⟨fun _ => ⟨b1, rfl, by omega, o1⟩, fun _ => ⟨b2, rfl, by omega, o2⟩, .inr ⟨b3, rfl, ?_, fun i => if i = 0 then b3 + 1 else g9 + 1, by simp, fun i _ => ?_, fun i hi => ?_⟩, ?_, ?_, ?_⟩
  · exact o3.congr (fun i _ => by
      by_cases e : i = 0
      · subst e; rfl
      · simp only [if_neg e, nWV, nGH]; rfl)
  · by_cases e : i = 0
    · subst e; simp; omega
    · simp [e]
  · by_cases e : i = 0
    · subst e
      refine ⟨⟨?_, ?_⟩, ⟨?_, ?_, ?_⟩⟩
      · rintro b (⟨o, e⟩ | ⟨o, e⟩ | e)
        · exact absurd e (by simp [nGH])
        · exact absurd e (by simp [nGH])
        · have := hd_some (b := g9) (k := b) e
          simp
          omega
      · intro b
        simp [hd, nGH]
      · intro h0; exact absurd h0 (by simp [nWV, nGV])
      · intro h0; exact absurd h0 (by simp [nWV, nGV])
      · intro _
        exact ⟨g9, rfl, by simp; omega, o9⟩
    · refine ⟨GLie.none (by simp [nGH, e]) (by simp [nGH, e]) (by simp [nGH, e]), ?_, ?_, ?_⟩
      all_goals
        intro h0
        simp only [nWV, if_neg e] at h0
        exact absurd h0 (by simp [zGV])
  · intro b h1 h2
    have e1 := hd_some h1
    have e2 := hd_some h2
    omega
  · intro b h1 h2
    have e1 := hd_some h1
    have e2 := gt' b h2
    omega
  · intro b h1 h2
    have e1 := hd_some h1
    have e2 := gt' b h2
    omega
theorem WNew_zero (w : World) (B : Nat) : WNew w B zWV ⟨none, 0, none, 0, none, 0, fun _ => ⟨none, 0, none, 0, none, 0⟩⟩ := by
  refine ⟨⟨fun h => absurd h (by simp [zWV]), fun h => absurd h (by simp [zWV]), .inl rfl, ?_, ?_, ?_⟩, ?_⟩
  · rintro b ⟨o, e⟩; cases e
  · rintro b ⟨o, e⟩; cases e
  · rintro b ⟨o, e⟩; cases e
  · rintro b (⟨o, e⟩ | ⟨o, e⟩ | ⟨q, e, _⟩) <;> cases e
theorem WOwn.below {w w' : World} {B : Nat} {v : WV} {h : WH} (o : WOwn w B v h) (hb : Below w.heap.size w w') : WOwn w' B v h := by
  refine ⟨o.c.below hb (Nat.le_refl _), o.t.below hb (Nat.le_refl _), ?_, o.ct, o.cg, o.tg⟩
  rcases o.g with e | ⟨q, e, g⟩
  · exact .inl e
  · exact .inr ⟨q, e, g.below hb⟩
theorem WOwn.rd {w : World} {B : Nat} {v : WV} {h : WH} (o : WOwn w B v h) : WRd w w.heap.size v h := by
  refine ⟨o.c.rs, o.t.rs, ?_⟩
  rcases o.g with e | ⟨q, e, g⟩
  · rw [e]
    exact GsRd.none_
  · rw [e]
    exact g.rd
theorem WLen_new (n : Nat) (hn : n ≤ 4) : WLen (nWV n) := by
  refine ⟨by simp [nWV]; omega, by simp [nWV], by simp [nWV], fun i _ => ?_⟩
  simp only [nWV]
  split
  · exact ⟨show (0 : Nat) ≤ 1048576 by omega, by simp [nGV], by simp [nGV], by simp [nGV]; omega⟩
  · exact ⟨show (0 : Nat) ≤ 1048576 by omega, by simp [zGV], by simp [zGV], by simp [zGV]⟩
theorem WLen_zero : WLen zWV := ⟨by simp [zWV], by simp [zWV], by simp [zWV], fun i hi => absurd hi (by simp [zWV])⟩
/-- What WorldNew returns. -/
def NW (V : WV) (ok : Bool) (w : World) (e : Ending) (w' : World) : Prop := ∃ h : WH, e = .returned (.tuple #[.agg #[.int .i64 V.now, .slice h.ca V.cn h.cc, .slice h.ta V.tn h.tc, .slice h.ga V.gn h.gc], .bool ok]) ∧ WNew w' w.heap.size V h ∧ Below w.heap.size w w'
def swS (j : Nat) : Nat := [10, 11, 12, 4].getD j 0
def swT (w0 : World) (j : Nat) (v : Value) (w : World) : Prop :=
  match j with
  | 0 => ∃ b, v = .slice (some ⟨b, 0, none⟩) 12 12 ∧ MKb w0 w 56 b 12 9 zTask
  | 1 => ∃ b, v = .slice (some ⟨b, 0, none⟩) 8 8 ∧ MKb w0 w 41 b 8 14 zGroup
  | 2 => ∃ b2 b3, v = .agg #[.int .i64 0, .slice none 0 0, .slice (some ⟨b2, 0, none⟩) 12 12, .slice (some ⟨b3, 0, none⟩) 8 8] ∧ MKb w0 w 56 b2 12 9 zTask ∧ MKb w0 w 41 b3 8 14 zGroup
  | _ => True
theorem swT.bel {w0 w w' : World} (hb : Below w.heap.size w w') (j : Nat) (v : Value) (h : swT w0 j v w) : swT w0 j v w' := by
  unfold swT at h ⊢
  split at h
  · obtain ⟨b, e, m⟩ := h; exact ⟨b, e, m.bel hb⟩
  · obtain ⟨b, e, m⟩ := h; exact ⟨b, e, m.bel hb⟩
  · obtain ⟨b2, b3, e, m2, m3⟩ := h; exact ⟨b2, b3, e, m2.bel hb, m3.bel hb⟩
  · trivial
theorem swT.off {w0 w : World} {h : Nat} {cs : Array Value} (hk : Bk w h 26 cs) (a1 a2 a3 a4 : Value) (j : Nat) (v : Value) (hv : swT w0 j v w) : swT w0 j v ((((w.setCell ⟨h, 0, none⟩ a1).setCell ⟨h, 1, none⟩ a2).setCell ⟨h, 2, none⟩ a3).setCell ⟨h, 3, none⟩ a4) := by
  unfold swT at hv ⊢
  split at hv
  · obtain ⟨b, e, m⟩ := hv; exact ⟨b, e, m.off4 hk (by decide) _ _ _ _⟩
  · obtain ⟨b, e, m⟩ := hv; exact ⟨b, e, m.off4 hk (by decide) _ _ _ _⟩
  · obtain ⟨b2, b3, e, m2, m3⟩ := hv; exact ⟨b2, b3, e, m2.off4 hk (by decide) _ _ _ _, m3.off4 hk (by decide) _ _ _ _⟩
  · trivial
end Go.Proofs.Ytndbmeedimhohaa

/- (*l20Rd).band: a drawn band. Printed by mkbf.py. -/
import Derived.Test.YtbgmjcfnehnicaaT3Base
import Derived.Test.YtbgmjcfnehnicaaT5Base
namespace Go.Proofs.Ytbgmjcfnehnicaa
open Go.RowKit
/-- The invariant: ia allocates the variable (slot sl ia), is stores to it what ib left (slot sl ib). -/
structure DW (g N : Nat) (w0 : World) (sl : Nat → Nat) (T : Nat → TyB) (ia is ib : Nat) (hv : Option Nat) (l : Array Bool) (xs : Nat → Value) (w : World) : Prop where
  bel : Kept (isG g) w0 w
  rd : ∃ p : Int, 0 ≤ p ∧ p + 10 * (l.toList.count false : Nat) ≤ 10 * (N : Nat) ∧ RdAt w g p
  at_ : ∀ j, j < N → j ≠ is → seen l j → (T j).holds w0.heap.size g hv (xs (sl j)) w
  no : hv = none → ¬ seen l ia ∧ ¬ seen l is
  yes : ∀ h, hv = some h → seen l ia ∧ h < w.heap.size ∧ g < h ∧ w0.heap.size ≤ h ∧ (¬ seen l is → Bk w h 25 zB) ∧ (seen l is → seen l ib ∧ ∃ cs, xs (sl ib) = .agg cs ∧ Bk w h 25 cs)
section
variable {g N : Nat} {w0 w w' : World} {sl : Nat → Nat} {T : Nat → TyB} {ia is ib : Nat} {hv : Option Nat} {l : Array Bool} {xs : Nat → Value}
theorem DW.start {p : Int} (hb : Kept (isG g) w0 w) (p0 : 0 ≤ p) (p1 : p ≤ 0) (hr : RdAt w g p) : DW g N w0 sl T ia is ib none (Array.replicate N false) xs w.drew :=
  ⟨hb.drew, ⟨p, p0, by rw [Array.toList_replicate, List.count_replicate_self]; omega, hr.drewN 1⟩, fun j _ _ hs => absurd hs (seen_none _ _), fun _ => ⟨seen_none _ _, seen_none _ _⟩, fun h e => by cases e⟩
theorem DW.put (d : DW g N w0 sl T ia is ib hv l xs w) {i : Nat} (hnl : l.getD i true = false) (hia : i ≠ ia) (his : i ≠ is) (hsl : ∀ j, j < N → j ≠ i → j ≠ is → sl j ≠ sl i) (hib : ib < N) (hbs : ib ≠ is) (hk : Kept (isG g) w w') {p q : Int} (p0 : 0 ≤ p) (p1 : p + 10 * (l.toList.count false : Nat) ≤ 10 * (N : Nat)) (q0 : p ≤ q) (q1 : q ≤ p + 10) (h2 : RdAt w' g q) {v : Value} (hv' : (T i).holds w0.heap.size g hv v w') : DW g N w0 sl T ia is ib hv (l.setIfInBounds i true) (updX xs (sl i) v) w' := by
  have hc := count_put hnl
  have hk2 : Kept (gv g hv) w w' := hk.mono fun k _ e => .inl e
  refine ⟨d.bel.trans hk, ⟨q, by omega, by omega, h2⟩, fun j hj hjs hs => ?_, fun e => ⟨fun hs => (d.no e).1 ((seen_set hs).resolve_left (Ne.symm hia)), fun hs => (d.no e).2 ((seen_set hs).resolve_left (Ne.symm his))⟩, fun h e => ?_⟩
  · by_cases e : j = i
    · subst e
      simp only [updX, if_pos]
      exact hv'
    · rw [show updX xs (sl i) v (sl j) = xs (sl j) by simp [updX, hsl j hj e hjs]]
      exact TyB.keep (d.at_ j hj hjs ((seen_set hs).resolve_left e)) hk2
  · obtain ⟨a1, a2, a3, a4, a5, a6⟩ := d.yes h e
    refine ⟨seen_more a1, Nat.lt_of_lt_of_le a2 hk.size, a3, a4, fun hs => (a5 (not_more hs)).kept hk (fun e => by unfold isG at e; omega), fun hs => ?_⟩
    obtain ⟨b1, cs, b2, b3⟩ := a6 ((seen_set hs).resolve_left (Ne.symm his))
    have hne : ib ≠ i := fun e => not_seen hnl (e ▸ b1)
    exact ⟨seen_more b1, cs, by rw [show updX xs (sl i) v (sl ib) = xs (sl ib) by simp [updX, hsl ib hib hne hbs]]; exact b2, b3.kept hk (fun e => by unfold isG at e; omega)⟩
theorem DW.same (d : DW g N w0 sl T ia is ib hv l xs w) {i : Nat} (hnl : l.getD i true = false) (hia : i ≠ ia) (his : i ≠ is) (hsl : ∀ j, j < N → j ≠ i → j ≠ is → sl j ≠ sl i) (hib : ib < N) (hbs : ib ≠ is) (hk : Kept (isG g) w w') (hr : ∀ p, RdAt w g p → RdAt w' g p) {v : Value} (hv' : (T i).holds w0.heap.size g hv v w') : DW g N w0 sl T ia is ib hv (l.setIfInBounds i true) (updX xs (sl i) v) w' := by
  obtain ⟨p, p0, p1, h1⟩ := d.rd
  exact d.put hnl hia his hsl hib hbs hk p0 p1 (Int.le_refl _) (by omega) (hr p h1) hv'
theorem DW.room (d : DW g N w0 sl T ia is ib hv l xs w) : ∃ p : Int, 0 ≤ p ∧ p ≤ 10 * (N : Int) ∧ p + 10 * (l.toList.count false : Nat) ≤ 10 * (N : Nat) ∧ RdAt w g p := by
  obtain ⟨p, p0, p1, h1⟩ := d.rd
  exact ⟨p, p0, by omega, p1, h1⟩
theorem DW.var (d : DW g N w0 sl T ia is ib hv l xs w) (hnl : l.getD ia true = false) (hsl : ∀ j, j < N → j ≠ ia → j ≠ is → sl j ≠ sl ia) (his : ia ≠ is) (hT : T ia = .V) : DW g N w0 sl T ia is ib (some w.heap.size) (l.setIfInBounds ia true) (updX xs (sl ia) (.pointer (some ⟨w.heap.size, 0, none⟩))) (w.alloc (.cells zB 25)) := by
  have hn : hv = none := by
    cases hv with
    | none => rfl
    | some h => exact absurd (d.yes h rfl).1 (not_seen hnl)
  subst hn
  obtain ⟨p, p0, p1, h1⟩ := d.rd
  have hc := count_put hnl
  have hlt := h1.lt
  refine ⟨d.bel.alloc _, ⟨p, p0, by omega, h1.below ((Below.refl _ _).alloc (Nat.le_refl _) _)⟩, fun j hj hjs hs => ?_, fun e => (by cases e), fun h e => ?_⟩
  · by_cases e : j = ia
    · subst e
      rw [hT]
      simp only [updX, if_pos]
      exact ⟨_, rfl, rfl⟩
    · rw [show updX xs (sl ia) _ (sl j) = xs (sl j) by simp [updX, hsl j hj e hjs]]
      exact TyB.fresh (d.at_ j hj hjs ((seen_set hs).resolve_left e)) _
  · simp only [Option.some.injEq] at e
    subst e
    exact ⟨seen_self hnl, by simp, by omega, d.bel.size, fun _ => Bk.new _ _ _, fun hs => absurd ((seen_set hs).resolve_left (Ne.symm his)) (d.no rfl).2⟩
end
theorem DW.stored {g N : Nat} {w0 w : World} {sl : Nat → Nat} {T : Nat → TyB} {ia is ib : Nat} {hv : Option Nat} {l : Array Bool} {xs : Nat → Value} (d : DW g N w0 sl T ia is ib hv l xs w) (hnl : l.getD is true = false) (hia : ia ≠ is) (hib : ib ≠ is) {h : Nat} (hh : hv = some h) (hsb : seen l ib) {a b c e f : Value} (hx : xs (sl ib) = .agg #[a, b, c, e, f]) (hz : Bk w h 25 zB) :
    DW g N w0 sl T ia is ib hv (l.setIfInBounds is true) xs (((((w.setCell ⟨h, 0, none⟩ a).setCell ⟨h, 1, none⟩ b).setCell ⟨h, 2, none⟩ c).setCell ⟨h, 3, none⟩ e).setCell ⟨h, 4, none⟩ f) := by
  obtain ⟨p, p0, p1, h1⟩ := d.rd
  have hc := count_put hnl
  obtain ⟨y1, y2, y3, y4, y5, y6⟩ := d.yes h hh
  have k := ((((hz.put 0 a).put 1 b).put 2 c).put 3 e).put 4 f
  have ee : ∀ o, (fun b => b = h) (⟨h, o, none⟩ : Addr).block := fun _ => rfl
  have hk := (((((Kept.refl (fun b => b = h) w).setCell (q := ⟨h, 0, none⟩) (ee 0) a).setCell (q := ⟨h, 1, none⟩) (ee 1) b).setCell (q := ⟨h, 2, none⟩) (ee 2) c).setCell (q := ⟨h, 3, none⟩) (ee 3) e).setCell (q := ⟨h, 4, none⟩) (ee 4) f
  have hk2 : Kept (gv g hv) w _ := hk.mono (q := gv g hv) fun k _ e => .inr (by rw [hh, e])
  have hz5 := hk.size
  refine ⟨⟨hk.os.trans d.bel.os, hk.tape.trans d.bel.tape, hk.output.trans d.bel.output, Nat.le_trans d.bel.size hk.size, fun k h4 h5 => (hk.block k (Nat.lt_of_lt_of_le h4 d.bel.size) (fun e => by omega)).trans (d.bel.block k h4 h5)⟩, ⟨p, p0, by omega, h1.kept hk (fun k hk e => by omega)⟩, fun j hj hjs hs => TyB.keep (d.at_ j hj hjs ((seen_set hs).resolve_left hjs)) hk2, fun e => (by rw [hh] at e; cases e), fun h' e' => ?_⟩
  · rw [hh, Option.some.injEq] at e'
    subst e'
    exact ⟨seen_more y1, by omega, y3, y4, fun hs => absurd (seen_self hnl) hs, fun _ => ⟨seen_more hsb, _, hx, k⟩⟩

/-- The round of band(): a band is loaded, an operation drawn, BandDo called, its first result stored into the same variable. -/
structure BL (g h : Nat) (q : Int) (n : Nat) (b : BSt) (gl cl gd cd : Nat) (p0 : Int) (w1 : World) (b' : BSt) (gl' cl' gd' cd' : Nat) (C : Int) (l : Array Bool) (xs : Nat → Value) (w : World) : Prop where
  bel : Kept (fun k => k = g ∨ k = h) w1 w
  rd : ∃ p : Int, 0 ≤ p ∧ p + 10 * (l.toList.count false : Nat) ≤ p0 + 80 ∧ RdAt w g p
  q0 : seen l 0 → xs 28 = .agg #[.int .i64 q, .int .i64 b.p, .int .i64 b.s, .slice (some ⟨gl, 0, none⟩) n cl, .slice (some ⟨gd, 0, none⟩) n cd]
  q1 : seen l 1 → xs 29 = .pointer (some ⟨g, 0, none⟩)
  q2 : seen l 2 → ∃ kind cpu k : Int, xs 30 = .agg #[.int .i64 kind, .int .i64 cpu, .int .i64 k]
  q3 : seen l 3 → seen l 0 ∧ xs 31 = .tuple #[.agg #[.int .i64 q, .int .i64 b'.p, .int .i64 b'.s, .slice (some ⟨gl', 0, none⟩) n cl', .slice (some ⟨gd', 0, none⟩) n cd'], .int .i64 C] ∧ bOk q n b' = true ∧ RowL 3 w gl' n cl' (fun i => .int .i64 (b'.f i)) ∧ OwnV w gd' n (fun i => .bool (b'.d i)) ∧ g < gl' ∧ g < gd' ∧ h < gl' ∧ h < gd' ∧ gl' ≠ gd'
  q4 : seen l 4 → seen l 3 ∧ xs 27 = .tuple #[.agg #[.int .i64 q, .int .i64 b'.p, .int .i64 b'.s, .slice (some ⟨gl', 0, none⟩) n cl', .slice (some ⟨gd', 0, none⟩) n cd'], .int .i64 C]
  q5 : seen l 5 → seen l 3 ∧ xs 32 = .agg #[.int .i64 q, .int .i64 b'.p, .int .i64 b'.s, .slice (some ⟨gl', 0, none⟩) n cl', .slice (some ⟨gd', 0, none⟩) n cd']
  q7 : seen l 7 → seen l 3 ∧ Bk w h 25 #[.int .i64 q, .int .i64 b'.p, .int .i64 b'.s, .slice (some ⟨gl', 0, none⟩) n cl', .slice (some ⟨gd', 0, none⟩) n cd']
  q8 : ¬ seen l 7 → Bk w h 25 #[.int .i64 q, .int .i64 b.p, .int .i64 b.s, .slice (some ⟨gl, 0, none⟩) n cl, .slice (some ⟨gd, 0, none⟩) n cd]
section
variable {g h : Nat} {q : Int} {n : Nat} {b : BSt} {gl cl gd cd : Nat} {p0 : Int} {w1 : World} {b' : BSt} {gl' cl' gd' cd' : Nat} {C : Int} {l : Array Bool} {xs : Nat → Value} {w w' : World}
theorem BL.start {p : Int} (hr : RdAt w1 g p) (a0 : 0 ≤ p) (a1 : p ≤ p0) (hk : Bk w1 h 25 #[.int .i64 q, .int .i64 b.p, .int .i64 b.s, .slice (some ⟨gl, 0, none⟩) n cl, .slice (some ⟨gd, 0, none⟩) n cd]) : BL g h q n b gl cl gd cd p0 w1 b' gl' cl' gd' cd' C (Array.replicate 8 false) xs w1.drew :=
  ⟨(Kept.refl _ _).drew, ⟨p, a0, by rw [Array.toList_replicate, List.count_replicate_self]; omega, hr.drewN 1⟩, fun a => absurd a (seen_none _ _), fun a => absurd a (seen_none _ _), fun a => absurd a (seen_none _ _), fun a => absurd a (seen_none _ _), fun a => absurd a (seen_none _ _), fun a => absurd a (seen_none _ _), fun a => absurd a (seen_none _ _), fun _ => hk.drewN 1⟩
theorem BL.room (r : BL g h q n b gl cl gd cd p0 w1 b' gl' cl' gd' cd' C l xs w) : ∃ p : Int, 0 ≤ p ∧ p ≤ p0 + 80 ∧ p + 10 * (l.toList.count false : Nat) ≤ p0 + 80 ∧ RdAt w g p := by
  obtain ⟨p, a0, a1, a2⟩ := r.rd
  exact ⟨p, a0, by omega, a1, a2⟩
theorem BL.s0 (r : BL g h q n b gl cl gd cd p0 w1 b' gl' cl' gd' cd' C l xs w) (hnl : l.getD 0 true = false) : BL g h q n b gl cl gd cd p0 w1 b' gl' cl' gd' cd' C (l.setIfInBounds 0 true) (updX xs 28 (.agg #[.int .i64 q, .int .i64 b.p, .int .i64 b.s, .slice (some ⟨gl, 0, none⟩) n cl, .slice (some ⟨gd, 0, none⟩) n cd])) w := by
  have g0 : ∀ {j}, j ≠ 0 → seen (l.setIfInBounds 0 true) j → seen l j := fun hj hs => (seen_set hs).resolve_left hj
  have hc := count_put hnl
  obtain ⟨p, a0, a1, a2⟩ := r.rd
  exact ⟨r.bel, ⟨p, a0, by omega, a2⟩, fun _ => by simp [updX], fun a => by simpa [updX] using r.q1 (g0 (by decide) a), fun a => by simpa [updX] using r.q2 (g0 (by decide) a), fun a => ⟨seen_more (r.q3 (g0 (by decide) a)).1, by simpa [updX] using (r.q3 (g0 (by decide) a)).2.1, (r.q3 (g0 (by decide) a)).2.2⟩, fun a => ⟨seen_more (r.q4 (g0 (by decide) a)).1, by simpa [updX] using (r.q4 (g0 (by decide) a)).2⟩, fun a => ⟨seen_more (r.q5 (g0 (by decide) a)).1, by simpa [updX] using (r.q5 (g0 (by decide) a)).2⟩, fun a => ⟨seen_more (r.q7 (g0 (by decide) a)).1, (r.q7 (g0 (by decide) a)).2⟩, fun a => r.q8 (fun s => a (seen_more s))⟩
theorem BL.s1 (r : BL g h q n b gl cl gd cd p0 w1 b' gl' cl' gd' cd' C l xs w) (hnl : l.getD 1 true = false) : BL g h q n b gl cl gd cd p0 w1 b' gl' cl' gd' cd' C (l.setIfInBounds 1 true) (updX xs 29 (.pointer (some ⟨g, 0, none⟩))) w := by
  have g0 : ∀ {j}, j ≠ 1 → seen (l.setIfInBounds 1 true) j → seen l j := fun hj hs => (seen_set hs).resolve_left hj
  have hc := count_put hnl
  obtain ⟨p, a0, a1, a2⟩ := r.rd
  exact ⟨r.bel, ⟨p, a0, by omega, a2⟩, fun a => by simpa [updX] using r.q0 (g0 (by decide) a), fun _ => by simp [updX], fun a => by simpa [updX] using r.q2 (g0 (by decide) a), fun a => ⟨seen_more (r.q3 (g0 (by decide) a)).1, by simpa [updX] using (r.q3 (g0 (by decide) a)).2.1, (r.q3 (g0 (by decide) a)).2.2⟩, fun a => ⟨seen_more (r.q4 (g0 (by decide) a)).1, by simpa [updX] using (r.q4 (g0 (by decide) a)).2⟩, fun a => ⟨seen_more (r.q5 (g0 (by decide) a)).1, by simpa [updX] using (r.q5 (g0 (by decide) a)).2⟩, fun a => ⟨seen_more (r.q7 (g0 (by decide) a)).1, (r.q7 (g0 (by decide) a)).2⟩, fun a => r.q8 (fun s => a (seen_more s))⟩
theorem BL.s4 (r : BL g h q n b gl cl gd cd p0 w1 b' gl' cl' gd' cd' C l xs w) (hnl : l.getD 4 true = false) (h3 : seen l 3) : BL g h q n b gl cl gd cd p0 w1 b' gl' cl' gd' cd' C (l.setIfInBounds 4 true) (updX xs 27 (.tuple #[.agg #[.int .i64 q, .int .i64 b'.p, .int .i64 b'.s, .slice (some ⟨gl', 0, none⟩) n cl', .slice (some ⟨gd', 0, none⟩) n cd'], .int .i64 C])) w := by
  have g0 : ∀ {j}, j ≠ 4 → seen (l.setIfInBounds 4 true) j → seen l j := fun hj hs => (seen_set hs).resolve_left hj
  have hc := count_put hnl
  obtain ⟨p, a0, a1, a2⟩ := r.rd
  exact ⟨r.bel, ⟨p, a0, by omega, a2⟩, fun a => by simpa [updX] using r.q0 (g0 (by decide) a), fun a => by simpa [updX] using r.q1 (g0 (by decide) a), fun a => by simpa [updX] using r.q2 (g0 (by decide) a), fun a => ⟨seen_more (r.q3 (g0 (by decide) a)).1, by simpa [updX] using (r.q3 (g0 (by decide) a)).2.1, (r.q3 (g0 (by decide) a)).2.2⟩, fun _ => ⟨seen_more h3, by simp [updX]⟩, fun a => ⟨seen_more (r.q5 (g0 (by decide) a)).1, by simpa [updX] using (r.q5 (g0 (by decide) a)).2⟩, fun a => ⟨seen_more (r.q7 (g0 (by decide) a)).1, (r.q7 (g0 (by decide) a)).2⟩, fun a => r.q8 (fun s => a (seen_more s))⟩
theorem BL.s5 (r : BL g h q n b gl cl gd cd p0 w1 b' gl' cl' gd' cd' C l xs w) (hnl : l.getD 5 true = false) (h3 : seen l 3) : BL g h q n b gl cl gd cd p0 w1 b' gl' cl' gd' cd' C (l.setIfInBounds 5 true) (updX xs 32 (.agg #[.int .i64 q, .int .i64 b'.p, .int .i64 b'.s, .slice (some ⟨gl', 0, none⟩) n cl', .slice (some ⟨gd', 0, none⟩) n cd'])) w := by
  have g0 : ∀ {j}, j ≠ 5 → seen (l.setIfInBounds 5 true) j → seen l j := fun hj hs => (seen_set hs).resolve_left hj
  have hc := count_put hnl
  obtain ⟨p, a0, a1, a2⟩ := r.rd
  exact ⟨r.bel, ⟨p, a0, by omega, a2⟩, fun a => by simpa [updX] using r.q0 (g0 (by decide) a), fun a => by simpa [updX] using r.q1 (g0 (by decide) a), fun a => by simpa [updX] using r.q2 (g0 (by decide) a), fun a => ⟨seen_more (r.q3 (g0 (by decide) a)).1, by simpa [updX] using (r.q3 (g0 (by decide) a)).2.1, (r.q3 (g0 (by decide) a)).2.2⟩, fun a => ⟨seen_more (r.q4 (g0 (by decide) a)).1, by simpa [updX] using (r.q4 (g0 (by decide) a)).2⟩, fun _ => ⟨seen_more h3, by simp [updX]⟩, fun a => ⟨seen_more (r.q7 (g0 (by decide) a)).1, (r.q7 (g0 (by decide) a)).2⟩, fun a => r.q8 (fun s => a (seen_more s))⟩
theorem BL.s6 (r : BL g h q n b gl cl gd cd p0 w1 b' gl' cl' gd' cd' C l xs w) (hnl : l.getD 6 true = false) (v : Value) : BL g h q n b gl cl gd cd p0 w1 b' gl' cl' gd' cd' C (l.setIfInBounds 6 true) (updX xs 33 v) w := by
  have g0 : ∀ {j}, j ≠ 6 → seen (l.setIfInBounds 6 true) j → seen l j := fun hj hs => (seen_set hs).resolve_left hj
  have hc := count_put hnl
  obtain ⟨p, a0, a1, a2⟩ := r.rd
  exact ⟨r.bel, ⟨p, a0, by omega, a2⟩, fun a => by simpa [updX] using r.q0 (g0 (by decide) a), fun a => by simpa [updX] using r.q1 (g0 (by decide) a), fun a => by simpa [updX] using r.q2 (g0 (by decide) a), fun a => ⟨seen_more (r.q3 (g0 (by decide) a)).1, by simpa [updX] using (r.q3 (g0 (by decide) a)).2.1, (r.q3 (g0 (by decide) a)).2.2⟩, fun a => ⟨seen_more (r.q4 (g0 (by decide) a)).1, by simpa [updX] using (r.q4 (g0 (by decide) a)).2⟩, fun a => ⟨seen_more (r.q5 (g0 (by decide) a)).1, by simpa [updX] using (r.q5 (g0 (by decide) a)).2⟩, fun a => ⟨seen_more (r.q7 (g0 (by decide) a)).1, (r.q7 (g0 (by decide) a)).2⟩, fun a => r.q8 (fun s => a (seen_more s))⟩
theorem BL.s2 (r : BL g h q n b gl cl gd cd p0 w1 b' gl' cl' gd' cd' C l xs w) (hnl : l.getD 2 true = false) (hgh : g < h) {kind cpu k p' : Int} (hk : Kept (isG g) w w') (c0 : 0 ≤ p') (c1 : p' + 10 * (l.toList.count false : Nat) ≤ p0 + 90) (hr : RdAt w' g p') : BL g h q n b gl cl gd cd p0 w1 b' gl' cl' gd' cd' C (l.setIfInBounds 2 true) (updX xs 30 (.agg #[.int .i64 kind, .int .i64 cpu, .int .i64 k])) w' := by
  have g0 : ∀ {j}, j ≠ 2 → seen (l.setIfInBounds 2 true) j → seen l j := fun hj hs => (seen_set hs).resolve_left hj
  have hc := count_put hnl
  obtain ⟨p, a0, a1, a2⟩ := r.rd
  refine ⟨⟨hk.os.trans r.bel.os, hk.tape.trans r.bel.tape, hk.output.trans r.bel.output, Nat.le_trans r.bel.size hk.size, fun k h4 h5 => (hk.block k (Nat.lt_of_lt_of_le h4 r.bel.size) (fun e => h5 (.inl e))).trans (r.bel.block k h4 h5)⟩, ⟨p', c0, by omega, hr⟩, fun a => by simpa [updX] using r.q0 (g0 (by decide) a), fun a => by simpa [updX] using r.q1 (g0 (by decide) a), fun _ => ⟨kind, cpu, k, by simp [updX]⟩, fun a => ?_, fun a => ⟨seen_more (r.q4 (g0 (by decide) a)).1, by simpa [updX] using (r.q4 (g0 (by decide) a)).2⟩, fun a => ⟨seen_more (r.q5 (g0 (by decide) a)).1, by simpa [updX] using (r.q5 (g0 (by decide) a)).2⟩, fun a => ⟨seen_more (r.q7 (g0 (by decide) a)).1, (r.q7 (g0 (by decide) a)).2.kept hk (fun e => by unfold isG at e; omega)⟩, fun a => (r.q8 (fun s => a (seen_more s))).kept hk (fun e => by unfold isG at e; omega)⟩
  obtain ⟨z1, z2, z3, z4, z5, z6, z7, z8, z9⟩ := r.q3 (g0 (by decide) a)
  exact ⟨seen_more z1, by simpa [updX] using z2, z3, z4.kept hk (fun e => by unfold isG at e; omega), z5.kept hk (fun e => by unfold isG at e; omega), z6, z7, z8, z9⟩
theorem BL.s3 (r : BL g h q n b gl cl gd cd p0 w1 b' gl' cl' gd' cd' C l xs w) (hnl : l.getD 3 true = false) (h0 : seen l 0) (hgh : g < h) {b3 : BSt} {gl3 cl3 gd3 cd3 : Nat} {C3 : Int} (hok : bOk q n b3 = true) (hb : Below w.heap.size w w') (hl : RowL 3 w' gl3 n cl3 (fun i => .int .i64 (b3.f i))) (hd : OwnV w' gd3 n (fun i => .bool (b3.d i))) (c1 : w.heap.size ≤ gl3) (c2 : w.heap.size ≤ gd3) (c3 : h < w.heap.size) (c4 : gl3 ≠ gd3) : BL g h q n b gl cl gd cd p0 w1 b3 gl3 cl3 gd3 cd3 C3 (l.setIfInBounds 3 true) (updX xs 31 (.tuple #[.agg #[.int .i64 q, .int .i64 b3.p, .int .i64 b3.s, .slice (some ⟨gl3, 0, none⟩) n cl3, .slice (some ⟨gd3, 0, none⟩) n cd3], .int .i64 C3])) w' := by
  have g0 : ∀ {j}, j ≠ 3 → seen (l.setIfInBounds 3 true) j → seen l j := fun hj hs => (seen_set hs).resolve_left hj
  have hc := count_put hnl
  have n3 := not_seen hnl
  obtain ⟨p, a0, a1, a2⟩ := r.rd
  exact ⟨r.bel.trans (Kept.of hb), ⟨p, a0, by omega, a2.below hb⟩, fun a => by simpa [updX] using r.q0 (g0 (by decide) a), fun a => by simpa [updX] using r.q1 (g0 (by decide) a), fun a => by simpa [updX] using r.q2 (g0 (by decide) a), fun _ => ⟨seen_more h0, by simp [updX], hok, hl, hd, by omega, by omega, by omega, by omega, c4⟩, fun a => absurd (r.q4 (g0 (by decide) a)).1 n3, fun a => absurd (r.q5 (g0 (by decide) a)).1 n3, fun a => absurd (r.q7 (g0 (by decide) a)).1 n3, fun a => (r.q8 (fun s => a (seen_more s))).below hb c3⟩
theorem BL.s7 (r : BL g h q n b gl cl gd cd p0 w1 b' gl' cl' gd' cd' C l xs w) (hnl : l.getD 7 true = false) (h3 : seen l 3) (hgh : g < h) : BL g h q n b gl cl gd cd p0 w1 b' gl' cl' gd' cd' C (l.setIfInBounds 7 true) xs (((((w.setCell ⟨h, 0, none⟩ (.int .i64 q)).setCell ⟨h, 1, none⟩ (.int .i64 b'.p)).setCell ⟨h, 2, none⟩ (.int .i64 b'.s)).setCell ⟨h, 3, none⟩ (.slice (some ⟨gl', 0, none⟩) n cl')).setCell ⟨h, 4, none⟩ (.slice (some ⟨gd', 0, none⟩) n cd')) := by
  have g0 : ∀ {j}, j ≠ 7 → seen (l.setIfInBounds 7 true) j → seen l j := fun hj hs => (seen_set hs).resolve_left hj
  have hc := count_put hnl
  have hz := r.q8 (not_seen hnl)
  obtain ⟨p, a0, a1, a2⟩ := r.rd
  have k := ((((hz.put 0 (.int .i64 q)).put 1 (.int .i64 b'.p)).put 2 (.int .i64 b'.s)).put 3 (.slice (some ⟨gl', 0, none⟩) n cl')).put 4 (.slice (some ⟨gd', 0, none⟩) n cd')
  have ee : ∀ o, (fun b => b = h) (⟨h, o, none⟩ : Addr).block := fun _ => rfl
  have hk := (((((Kept.refl (fun b => b = h) w).setCell (q := ⟨h, 0, none⟩) (ee 0) (.int .i64 q)).setCell (q := ⟨h, 1, none⟩) (ee 1) (.int .i64 b'.p)).setCell (q := ⟨h, 2, none⟩) (ee 2) (.int .i64 b'.s)).setCell (q := ⟨h, 3, none⟩) (ee 3) (.slice (some ⟨gl', 0, none⟩) n cl')).setCell (q := ⟨h, 4, none⟩) (ee 4) (.slice (some ⟨gd', 0, none⟩) n cd')
  refine ⟨⟨hk.os.trans r.bel.os, hk.tape.trans r.bel.tape, hk.output.trans r.bel.output, Nat.le_trans r.bel.size hk.size, fun k h4 h5 => (hk.block k (Nat.lt_of_lt_of_le h4 r.bel.size) (fun e => h5 (.inr e))).trans (r.bel.block k h4 h5)⟩, ⟨p, a0, by omega, a2.kept hk (fun k hk e => by omega)⟩, fun a => r.q0 (g0 (by decide) a), fun a => r.q1 (g0 (by decide) a), fun a => r.q2 (g0 (by decide) a), fun a => ?_, fun a => ⟨seen_more (r.q4 (g0 (by decide) a)).1, (r.q4 (g0 (by decide) a)).2⟩, fun a => ⟨seen_more (r.q5 (g0 (by decide) a)).1, (r.q5 (g0 (by decide) a)).2⟩, fun _ => ⟨seen_more h3, k⟩, fun a => absurd (seen_self hnl) a⟩
  obtain ⟨z1, z2, z3, z4, z5, z6, z7, z8, z9⟩ := r.q3 (g0 (by decide) a)
  exact ⟨seen_more z1, z2, z3, z4.kept hk (fun e => by omega), z5.kept hk (fun e => by omega), z6, z7, z8, z9⟩
end

def gfS (j : Nat) : Nat := [9, 10, 11, 12, 13, 14, 15, 16, 17, 8, 18, 19, 3, 0, 4].getD j 0
theorem Kept.then_ {p q : Nat → Prop} {a b c : World} (h : Kept p a b) (k : Kept q b c) (hq : ∀ i, i < a.heap.size → q i → p i) : Kept p a c :=
  ⟨k.os.trans h.os, k.tape.trans h.tape, k.output.trans h.output, Nat.le_trans h.size k.size, fun i h1 h2 => (k.block i (Nat.lt_of_lt_of_le h1 h.size) (fun e => h2 (hq i h1 e))).trans (h.block i h1 h2)⟩
/-- A row that can be read, from a place of its block on. -/
structure RowAt (X : World) (g o n : Nat) (f : Nat → Value) : Prop where
  lt : g < X.heap.size
  cell : ∀ i, i < n → X.cell? ⟨g, o + i, none⟩ = some (f i)
theorem OwnV.rowAt {X : World} {g n : Nat} {f : Nat → Value} (h : OwnV X g n f) : RowAt X g 0 n f := ⟨h.1, fun i hi => by rw [Nat.zero_add]; exact h.2.1 i hi⟩
theorem OwnV.rowAt1 {X : World} {g n : Nat} {f : Nat → Value} (h : OwnV X g n f) : RowAt X g 1 (n - 1) (fun i => f (i + 1)) := ⟨h.1, fun i hi => by rw [Nat.add_comm]; exact h.2.1 (i + 1) (by omega)⟩
theorem RowAt.kept {p : Nat → Prop} {X Y : World} {g o n : Nat} {f : Nat → Value} (h : RowAt X g o n f) (hk : Kept p X Y) (hp : ¬ p g) : RowAt Y g o n f :=
  ⟨Nat.lt_of_lt_of_le h.lt hk.size, fun i hi => (World.cell?_of_block (a := ⟨g, o + i, none⟩) (hk.block g h.lt hp)).trans (h.cell i hi)⟩
theorem RowAt.rw_ {X : World} {g o n : Nat} {f : Nat → Value} (h : RowAt X g o n f) : Rw X X.heap.size (some ⟨g, o, none⟩) n f := fun _ => ⟨g, o, rfl, h.lt, h.cell⟩
theorem RowAt.set {X : World} {g o n : Nat} {f : Nat → Value} (h : RowAt X g o n f) {b : Nat} (hb : g ≠ b) (i : Nat) (u : Value) : RowAt (X.setCell ⟨b, i, none⟩ u) g o n f :=
  h.kept ((Kept.refl (fun k => k = b) X).setCell (q := ⟨b, i, none⟩) rfl u) hb
theorem RdAt.set {X : World} {g : Nat} {p : Int} (h : RdAt X g p) {b : Nat} (hb : g < b) (i : Nat) (u : Value) : RdAt (X.setCell ⟨b, i, none⟩ u) g p :=
  h.kept ((Kept.refl (fun k => k = b) X).setCell (q := ⟨b, i, none⟩) rfl u) (fun k hk e => by omega)
theorem Kept.set' {g : Nat} {w X : World} (h : Kept (isG g) w X) {b : Nat} (hb : w.heap.size ≤ b) (i : Nat) (u : Value) : Kept (isG g) w (X.setCell ⟨b, i, none⟩ u) :=
  h.then_ ((Kept.refl (fun k => k = b) X).setCell (q := ⟨b, i, none⟩) rfl u) (fun k hk e => by omega)
theorem OwnV.rowLess {X : World} {g n k : Nat} {f : Nat → Value} (h : OwnV X g n f) (hk : k ≤ n) : RowAt X g 0 k f := ⟨h.1, fun i hi => by rw [Nat.zero_add]; exact h.2.1 i (by omega)⟩
theorem five_kept (X : World) (R : Nat) (a b c d e : Value) : Kept (fun k => k = R) X (((((X.setCell ⟨R, 0, none⟩ a).setCell ⟨R, 1, none⟩ b).setCell ⟨R, 2, none⟩ c).setCell ⟨R, 3, none⟩ d).setCell ⟨R, 4, none⟩ e) := by
  have ee : ∀ o, (fun k => k = R) (⟨R, o, none⟩ : Addr).block := fun _ => rfl
  exact (((((Kept.refl (fun k => k = R) X).setCell (q := ⟨R, 0, none⟩) (ee 0) a).setCell (q := ⟨R, 1, none⟩) (ee 1) b).setCell (q := ⟨R, 2, none⟩) (ee 2) c).setCell (q := ⟨R, 3, none⟩) (ee 3) d).setCell (q := ⟨R, 4, none⟩) (ee 4) e
theorem newB_ok {q : Int} {n : Nat} (q0 : 1 ≤ q) (q1 : q ≤ 10000) (n0 : 1 ≤ n) (n1 : n ≤ 4) : bOk q n ⟨q, 0, fun _ => 0, fun _ => false⟩ = true := by
  unfold bOk
  refine bandOk_mk q0 q1 (by omega) (by omega) (by show 0 ≤ q; omega) (Int.le_refl _) (fun i _ => ⟨Int.le_refl _, fun h => by cases h⟩) ?_
  show q + 0 + sumTo (fun _ => 0) n = q
  rw [sumTo_zero]
  omega
/-- What band returns: a band whose rows can be read. -/
def BandP (g : Nat) (w : World) (e : Ending) (w' : World) : Prop :=
  ∃ (q P s : Int) (n m c c' gl ol gd od : Nat) (f : Nat → Int) (f' : Nat → Bool), e = .returned (.agg #[.int .i64 q, .int .i64 P, .int .i64 s, .slice (some ⟨gl, ol, none⟩) n c, .slice (some ⟨gd, od, none⟩) m c']) ∧ n ≤ 5 ∧ m ≤ 5 ∧
    RowAt w' gl ol n (fun i => .int .i64 (f i)) ∧ RowAt w' gd od m (fun i => .bool (f' i)) ∧ w.heap.size < gl ∧ w.heap.size < gd ∧ (∃ p : Int, 0 ≤ p ∧ p ≤ 4000 ∧ RdAt w' g p) ∧ Kept (isG g) w w'
theorem BandP.fin {g : Nat} {w X F : World} {q P s : Int} {n m c c' gl ol gd od : Nat} {f : Nat → Int} {f' : Nat → Bool} (hks : Kept (fun k => k = w.heap.size) X F) (hn : n ≤ 5) (hm : m ≤ 5) (hl : RowAt X gl ol n (fun i => .int .i64 (f i))) (hd : RowAt X gd od m (fun i => .bool (f' i))) (h1 : w.heap.size < gl) (h2 : w.heap.size < gd) {p : Int} (p0 : 0 ≤ p) (p1 : p ≤ 4000) (hr : RdAt X g p) (hg : g < w.heap.size) (hk : Kept (isG g) w X) :
    BandP g w (.returned (.agg #[.int .i64 q, .int .i64 P, .int .i64 s, .slice (some ⟨gl, ol, none⟩) n c, .slice (some ⟨gd, od, none⟩) m c'])) F :=
  ⟨q, P, s, n, m, c, c', gl, ol, gd, od, f, f', rfl, hn, hm, hl.kept hks (fun e => by omega), hd.kept hks (fun e => by omega), h1, h2, ⟨p, p0, p1, hr.kept hks (fun k hk e => by omega)⟩, hk.then_ hks (fun i hi e => by omega)⟩
set_option maxRecDepth 100000 in
set_option maxHeartbeats 4000000 in
theorem band_any (g : Nat) (w : World) (h : RdAt w g 0) :
    Calls Try.prog 46 #[.pointer (some ⟨g, 0, none⟩)] w (BandP g w) := by
  obtain ⟨wa, hwa⟩ : ∃ wa : World, wa = w.alloc (.cells zB 25) := ⟨_, rfl⟩
  have HKa : Hid (Bk wa w.heap.size 25 zB) := by rw [hwa]; exact Bk.new _ _ _
  have HBa : Hid (Kept (isG g) w wa) := by rw [hwa]; exact (Kept.refl _ _).alloc _
  have HR1 : Hid (RdAt wa g 0) := by rw [hwa]; exact h.below ((Below.refl _ _).alloc (Nat.le_refl _) _)
  have hza : wa.heap.size = w.heap.size + 1 := by rw [hwa]; simp
  have hgw := h.lt
  clear h
  go_enter Try.func46, Try.ntmps46
  go_upto_region 1 with fail
  rw [← hwa]
  clear hwa
  refine region_fr (by kernel_rfl) [9, 10, 11, 12, 13, 14, 15, 16, 17, 8, 18, 19, 3, 4] (fun a0 => a0.tmps.size = 96 ∧ a0.tmps[0]? = some (.pointer (some ⟨g, 0, none⟩))) (fun l xs w' => ∃ hv, DW g 15 wa gfS gbT 12 13 10 hv l xs w') ⟨by rfl, by rfl⟩ ?_ ?_ (by kernel_rfl) ?_
  · exact fun xs => ⟨none, DW.start (Kept.refl _ _) (by omega) (by omega) HR1.out⟩
  · rintro a0 b xs l wc ⟨e0, e5⟩ fr ⟨hv, d⟩ i hi
    have hlt := ready_lt hi
    have hnl := (mem_ready.1 hi).1
    have t0 := fr.ex (s := 0) (by decide) e5
    have hcs : i = 0 ∨ i = 1 ∨ i = 2 ∨ i = 3 ∨ i = 4 ∨ i = 5 ∨ i = 6 ∨ i = 7 ∨ i = 8 ∨ i = 9 ∨ i = 10 ∨ i = 11 ∨ i = 12 ∨ i = 13 ∨ i = 14 := by have : i < 15 := hlt; omega
    clear hlt
    rcases hcs with rfl | rfl | rfl | rfl | rfl | rfl | rfl | rfl | rfl | rfl | rfl | rfl | rfl | rfl | rfl
    · refine wpOp_step rfl (fun K hK => ?_)
      have hgl : g < wc.heap.size := by obtain ⟨p, _, _, hr⟩ := d.rd; exact hr.lt'
      have hgv : ¬ gv g hv wc.heap.size := by
        rintro (e | e)
        · omega
        · have := (d.yes _ e).2.1
          omega
      go_simp
      refine hK _ _ ⟨_, fr.put (s := 9) (by decide) _, hv, d.same (i := 0) hnl (by decide) (by decide) (by decide) (by decide) (by decide) ((Kept.refl _ _).alloc _) (fun _ h => h.below ((Below.refl _ _).alloc (Nat.le_refl _) _)) (v := _) (show (gbT 0).holds _ _ _ _ _ from ⟨_, rfl, hgv, by simp, row6 _ _⟩)⟩
    · refine wpOp_step rfl (fun K hK => ?_)
      go_simp
      refine hK _ _ ⟨_, fr.put (s := 10) (by decide) _, hv, d.same (i := 1) hnl (by decide) (by decide) (by decide) (by decide) (by decide) ((Kept.refl _ _)) (fun _ h => h) (v := _) (show (gbT 1).holds _ _ _ _ _ from rfl)⟩
    · refine wpOp_step rfl (fun K hK => ?_)
      have h10 : (.P : TyB).holds wa.heap.size g hv (xs 10) wc := d.at_ 1 (by decide) (by decide) (ready_seen (k := 1) hi (by kernel_rfl))
      have t10 : b.tmps[10]? = some (xs 10) := fr.in_ (s := 10) (by decide) (by omega)
      rw [show xs 10 = _ from h10] at t10
      obtain ⟨p, p0, p1, p2, hr⟩ := d.room
      go_simp
      refine (pick_any g p 6 (by omega) (by omega) (by omega) (by omega) wc hr).mono ?_
      rintro e w2 ⟨v, rfl, v0, v1, hr2, hk2⟩
      refine hK _ _ ⟨_, fr.put (s := 11) (by decide) _, hv, d.put (i := 2) hnl (by decide) (by decide) (by decide) (by decide) (by decide) hk2 p0 p2 (by omega) (by omega) hr2 (v := _) (show (gbT 2).holds _ _ _ _ _ from ⟨v, rfl, by omega, by omega⟩)⟩
    · refine wpOp_step rfl (fun K hK => ?_)
      have h9 : (.R 6 1 10000 : TyB).holds wa.heap.size g hv (xs 9) wc := d.at_ 0 (by decide) (by decide) (ready_seen (k := 0) hi (by kernel_rfl))
      have t9 : b.tmps[9]? = some (xs 9) := fr.in_ (s := 9) (by decide) (by omega)
      obtain ⟨g9, hx9, ne9, lt9, cs9⟩ := h9
      rw [hx9] at t9
      have h11 : (.I 0 5 : TyB).holds wa.heap.size g hv (xs 11) wc := d.at_ 2 (by decide) (by decide) (ready_seen (k := 2) hi (by kernel_rfl))
      have t11 : b.tmps[11]? = some (xs 11) := fr.in_ (s := 11) (by decide) (by omega)
      obtain ⟨x11, hx11, l11, u11⟩ := h11
      rw [hx11] at t11
      obtain ⟨y, y0, y1, hy⟩ := cs9 x11.toNat (by omega)
      have hlt : x11 < 6 := by omega
      go_simp
      refine hK _ _ ⟨_, fr.put (s := 12) (by decide) _, hv, d.same (i := 3) hnl (by decide) (by decide) (by decide) (by decide) (by decide) ((Kept.refl _ _)) (fun _ h => h) (v := _) (show (gbT 3).holds _ _ _ _ _ from ⟨_, _, y, rfl, ne9, lt9, by omega, by omega, by simpa using hy⟩)⟩
    · refine wpOp_step rfl (fun K hK => ?_)
      have h12 : (.A 1 10000 : TyB).holds wa.heap.size g hv (xs 12) wc := d.at_ 3 (by decide) (by decide) (ready_seen (k := 3) hi (by kernel_rfl))
      have t12 : b.tmps[12]? = some (xs 12) := fr.in_ (s := 12) (by decide) (by omega)
      obtain ⟨g12, o12, x12, hx12, ne12, lt12, l12, u12, cs12⟩ := h12
      rw [hx12] at t12
      go_simp
      refine hK _ _ ⟨_, fr.put (s := 13) (by decide) _, hv, d.same (i := 4) hnl (by decide) (by decide) (by decide) (by decide) (by decide) ((Kept.refl _ _)) (fun _ h => h) (v := _) (show (gbT 4).holds _ _ _ _ _ from ⟨_, rfl, by omega, by omega⟩)⟩
    · refine wpOp_step rfl (fun K hK => ?_)
      go_simp
      refine hK _ _ ⟨_, fr.put (s := 14) (by decide) _, hv, d.same (i := 5) hnl (by decide) (by decide) (by decide) (by decide) (by decide) ((Kept.refl _ _)) (fun _ h => h) (v := _) (show (gbT 5).holds _ _ _ _ _ from rfl)⟩
    · refine wpOp_step rfl (fun K hK => ?_)
      have h14 : (.P : TyB).holds wa.heap.size g hv (xs 14) wc := d.at_ 5 (by decide) (by decide) (ready_seen (k := 5) hi (by kernel_rfl))
      have t14 : b.tmps[14]? = some (xs 14) := fr.in_ (s := 14) (by decide) (by omega)
      rw [show xs 14 = _ from h14] at t14
      obtain ⟨p, p0, p1, p2, hr⟩ := d.room
      go_simp
      refine (pick_any g p 4 (by omega) (by omega) (by omega) (by omega) wc hr).mono ?_
      rintro e w2 ⟨v, rfl, v0, v1, hr2, hk2⟩
      refine hK _ _ ⟨_, fr.put (s := 15) (by decide) _, hv, d.put (i := 6) hnl (by decide) (by decide) (by decide) (by decide) (by decide) hk2 p0 p2 (by omega) (by omega) hr2 (v := _) (show (gbT 6).holds _ _ _ _ _ from ⟨v, rfl, by omega, by omega⟩)⟩
    · refine wpOp_step rfl (fun K hK => ?_)
      have h15 : (.I 0 3 : TyB).holds wa.heap.size g hv (xs 15) wc := d.at_ 6 (by decide) (by decide) (ready_seen (k := 6) hi (by kernel_rfl))
      have t15 : b.tmps[15]? = some (xs 15) := fr.in_ (s := 15) (by decide) (by omega)
      obtain ⟨x15, hx15, l15, u15⟩ := h15
      rw [hx15] at t15
      go_simp
      rw [IntKind.wrap_i64]
      refine hK _ _ ⟨_, fr.put (s := 16) (by decide) _, hv, d.same (i := 7) hnl (by decide) (by decide) (by decide) (by decide) (by decide) ((Kept.refl _ _)) (fun _ h => h) (v := _) (show (gbT 7).holds _ _ _ _ _ from ⟨_, rfl, by omega, by omega⟩)⟩
    · refine wpOp_step rfl (fun K hK => ?_)
      have h13 : (.I 1 10000 : TyB).holds wa.heap.size g hv (xs 13) wc := d.at_ 4 (by decide) (by decide) (ready_seen (k := 4) hi (by kernel_rfl))
      have t13 : b.tmps[13]? = some (xs 13) := fr.in_ (s := 13) (by decide) (by omega)
      obtain ⟨x13, hx13, l13, u13⟩ := h13
      rw [hx13] at t13
      have h16 : (.I 1 4 : TyB).holds wa.heap.size g hv (xs 16) wc := d.at_ 7 (by decide) (by decide) (ready_seen (k := 7) hi (by kernel_rfl))
      have t16 : b.tmps[16]? = some (xs 16) := fr.in_ (s := 16) (by decide) (by omega)
      obtain ⟨x16, hx16, l16, u16⟩ := h16
      rw [hx16] at t16
      go_simp
      refine (sBandNewR_any x13 x16 wc).mono ?_
      rintro e w2 ⟨⟨Al, cl, Ad, cd, rfl, o1, o2, o3, hb2⟩, orm⟩
      have hok : newBOk x13 x16 = true := by rw [newBOk, inR_iff.2 ⟨l13, u13⟩, inR_iff.2 ⟨l16, u16⟩]; rfl
      rw [hok] at o1 o2 o3 orm ⊢
      obtain ⟨gl, rfl, s1, s2⟩ := o1 (show 0 < x16.toNat by omega)
      obtain ⟨gd, rfl, s3, s4⟩ := o2 (show 0 < x16.toNat by omega)
      have s5 : gl ≠ gd := fun e => o3 (show 0 < x16.toNat by omega) gl ⟨0, rfl⟩ ⟨0, by rw [e]⟩
      have hgl : g < wc.heap.size := by obtain ⟨p, _, _, hr⟩ := d.rd; exact hr.lt'
      have hbs := d.bel.size
      have hgv : ∀ k, wc.heap.size ≤ k → ¬ gv g hv k := by
        rintro k hk (e | e)
        · omega
        · have := (d.yes _ e).2.1
          omega
      refine hK _ _ ⟨_, fr.put (s := 17) (by decide) _, hv, d.same (i := 8) hnl (by decide) (by decide) (by decide) (by decide) (by decide) (Kept.of hb2) (fun _ h => h.below hb2) (v := _) (show (gbT 8).holds _ _ _ _ _ from ⟨_, rfl, _, _, gl, cl, gd, cd, rfl, l13, u13, by show 1 ≤ x16.toNat; omega, by show x16.toNat ≤ 4; omega, .of s2 (orm _ _ _ _ _ _ _ _ rfl), s4, s5, by omega, by omega, hgv gl s1, hgv gd s3⟩)⟩
    · refine wpOp_step rfl (fun K hK => ?_)
      have h17 : (.N : TyB).holds wa.heap.size g hv (xs 17) wc := d.at_ 8 (by decide) (by decide) (ready_seen (k := 8) hi (by kernel_rfl))
      have t17 : b.tmps[17]? = some (xs 17) := fr.in_ (s := 17) (by decide) (by omega)
      obtain ⟨b17, hx17, hb17⟩ := h17
      rw [hx17] at t17
      go_simp
      refine hK _ _ ⟨_, fr.put (s := 8) (by decide) _, hv, d.same (i := 9) hnl (by decide) (by decide) (by decide) (by decide) (by decide) ((Kept.refl _ _)) (fun _ h => h) (v := _) (show (gbT 9).holds _ _ _ _ _ from ⟨_, rfl, hb17⟩)⟩
    · refine wpOp_step rfl (fun K hK => ?_)
      have h8 : (.N : TyB).holds wa.heap.size g hv (xs 8) wc := d.at_ 9 (by decide) (by decide) (ready_seen (k := 9) hi (by kernel_rfl))
      have t8 : b.tmps[8]? = some (xs 8) := fr.in_ (s := 8) (by decide) (by omega)
      obtain ⟨b8, hx8, hb8⟩ := h8
      rw [hx8] at t8
      go_simp
      refine hK _ _ ⟨_, fr.put (s := 18) (by decide) _, hv, d.same (i := 10) hnl (by decide) (by decide) (by decide) (by decide) (by decide) ((Kept.refl _ _)) (fun _ h => h) (v := _) (show (gbT 10).holds _ _ _ _ _ from hb8)⟩
    · refine wpOp_step rfl (fun K hK => ?_)
      have h8 : (.N : TyB).holds wa.heap.size g hv (xs 8) wc := d.at_ 9 (by decide) (by decide) (ready_seen (k := 9) hi (by kernel_rfl))
      have t8 : b.tmps[8]? = some (xs 8) := fr.in_ (s := 8) (by decide) (by omega)
      obtain ⟨b8, hx8, hb8⟩ := h8
      rw [hx8] at t8
      go_simp
      refine hK _ _ ⟨_, fr.put (s := 19) (by decide) _, hv, d.same (i := 11) hnl (by decide) (by decide) (by decide) (by decide) (by decide) ((Kept.refl _ _)) (fun _ h => h) (v := _) (show (gbT 11).holds _ _ _ _ _ from rfl)⟩
    · refine wpOp_step rfl (fun K hK => ?_)
      go_simp
      refine hK _ _ ⟨_, fr.put (s := 3) (by decide) _, _, d.var hnl (by decide) (by decide) rfl⟩
    · refine wpOp_step rfl (fun K hK => ?_)
      have h3 : (.V : TyB).holds wa.heap.size g hv (xs 3) wc := d.at_ 12 (by decide) (by decide) (ready_seen (k := 12) hi (by kernel_rfl))
      have t3 : b.tmps[3]? = some (xs 3) := fr.in_ (s := 3) (by decide) (by omega)
      obtain ⟨v3, hx3, hv3⟩ := h3
      rw [hx3] at t3
      have h18 : (.B : TyB).holds wa.heap.size g hv (xs 18) wc := d.at_ 10 (by decide) (by decide) (ready_seen (k := 10) hi (by kernel_rfl))
      have t18 : b.tmps[18]? = some (xs 18) := fr.in_ (s := 18) (by decide) (by omega)
      obtain ⟨y1, y2, y3, y4, y5, y6⟩ := d.yes v3 hv3
      have kz := y5 (not_seen hnl)
      obtain ⟨z0, z1, z2, z3, z4⟩ := kz.five
      have zf := kz.frees
      obtain ⟨q, n', gl, cl, gd, cd, hx22, a1, a2, a3, a4, a5, a6, a7, a8, a9, a10, a11⟩ := h18
      have hx22' := hx22
      rw [hx22] at t18
      go_simp
      refine hK _ _ ⟨xs, fr, hv, d.stored hnl (by decide) (by decide) hv3 (ready_seen (k := 10) hi (by kernel_rfl)) hx22' kz⟩
    · refine wpOp_step rfl (fun K hK => ?_)
      have h19 : (.Y : TyB).holds wa.heap.size g hv (xs 19) wc := d.at_ 11 (by decide) (by decide) (ready_seen (k := 11) hi (by kernel_rfl))
      have t19 : b.tmps[19]? = some (xs 19) := fr.in_ (s := 19) (by decide) (by omega)
      rw [show xs 19 = _ from h19] at t19
      go_simp
      refine hK _ _ ⟨_, fr.put (s := 4) (by decide) _, hv, d.same (i := 14) hnl (by decide) (by decide) (by decide) (by decide) (by decide) ((Kept.refl _ _)) (fun _ h => h) (v := _) (show (gbT 14).holds _ _ _ _ _ from rfl)⟩
  · rintro xs l wc ⟨hv, d⟩ hall
    obtain ⟨hh, hx3, rfl⟩ : TyB.V.holds wa.heap.size g hv (xs 3) wc := d.at_ 12 (by decide) (by decide) (hall 12 (by decide))
    obtain ⟨y1, y2, y3, y4, y5, y6⟩ := d.yes hh rfl
    obtain ⟨_, cs, y7, y8⟩ := y6 (hall 13 (by decide))
    obtain ⟨q, n', gl, cl, gd, cd, x18, q0, q1, n0, n1, o1, o2, o3, o4, o5, o6, o7⟩ : TyB.B.holds wa.heap.size g (some hh) (xs 18) wc := d.at_ 10 (by decide) (by decide) (hall 10 (by decide))
    rw [show xs (gfS 10) = xs 18 from rfl, x18, Value.agg.injEq] at y7
    subst y7
    have hx4 : xs 4 = .bool true := d.at_ 14 (by decide) (by decide) (hall 14 (by decide))
    obtain ⟨p, p0, _, p1, hr⟩ := d.room
    have hc : 10 * (l.toList.count false : Nat) ≥ 0 := by omega
    have p2 : p ≤ 150 := by omega
    have HR := Lib.hid hr
    have HK := Lib.hid y8
    have HL := Lib.hid o1
    have HD := Lib.hid o2
    have HB := Lib.hid (HBa.out.trans d.bel)
    have hgw' : g ≠ w.heap.size := by omega
    have HZ := Lib.hid (HKa.out.kept d.bel (fun e => hgw' e.symm))
    have e3 : g ≠ gl := fun e => o6 (.inl e.symm)
    have e4 : g ≠ gd := fun e => o7 (.inl e.symm)
    have e5 : hh ≠ gl := fun e => o6 (.inr (by rw [e]))
    have e6 : hh ≠ gd := fun e => o7 (.inr (by rw [e]))
    have e7 : w.heap.size < gl := by omega
    have e8 : w.heap.size < gd := by omega
    have e9 : w.heap.size < hh := by omega
    have hz := d.bel.size
    have hbok : bOk q n' ⟨q, 0, fun _ => 0, fun _ => false⟩ = true := newB_ok q0 q1 n0 n1
    clear d hall hr y8 o1 o2 y5 y6 x18 y1 p1 hc o6 o7 HR1 HKa HBa
    simp only [List.foldl_cons, List.foldl_nil, List.setIfInBounds_toArray, List.set_cons_succ, List.set_cons_zero, hx3, hx4]
    go_wp2_with fail
    refine (pick_any g p 24 (by omega) (by omega) (by omega) (by omega) wc HR.out).mono ?_
    rintro e w2 ⟨m, rfl, m0, m1, hr2, hk2⟩
    have hgg : ∀ k, k ≠ g → ¬ isG g k := fun k hk e => hk e
    have HR2 := Lib.hid hr2
    have HK2 := Lib.hid (HK.out.kept hk2 (hgg _ (by omega)))
    have HL2 := Lib.hid (HL.out.kept hk2 (hgg _ (by omega)))
    have HD2 := Lib.hid (HD.out.kept hk2 (hgg _ (by omega)))
    have HB2 := Lib.hid (HB.out.trans hk2)
    have HZ2 := Lib.hid (HZ.out.kept hk2 (hgg _ (by omega)))
    clear hr2 hk2 HR HK HL HD HB HZ
    go_wp2_with fail
    go_loopw [6] (fun i wr => ∃ (k : Nat) (b : BSt) (gl cl gd cd : Nat) (p : Int), (k : Int) ≤ m ∧ i = .int .i64 k ∧ 0 ≤ p ∧ p ≤ 160 + 80 * k ∧ bOk q n' b = true ∧ g ≠ gl ∧ g ≠ gd ∧ hh ≠ gl ∧ hh ≠ gd ∧ gl ≠ gd ∧ w.heap.size < gl ∧ w.heap.size < gd ∧ Hid (RdAt wr g p) ∧
      Hid (Bk wr hh 25 #[.int .i64 q, .int .i64 b.p, .int .i64 b.s, .slice (some ⟨gl, 0, none⟩) n' cl, .slice (some ⟨gd, 0, none⟩) n' cd]) ∧ Hid (RowL 3 wr gl n' cl (fun i => .int .i64 (b.f i))) ∧ Hid (OwnV wr gd n' (fun i => .bool (b.d i))) ∧ Hid (Bk wr w.heap.size 25 zB) ∧ Hid (Kept (isG g) w wr)) (fun i _ => (m - intOf i).toNat)
    case atStart => exact ⟨0, ⟨q, 0, fun _ => 0, fun _ => false⟩, gl, cl, gd, cd, p + 1, by omega, rfl, by omega, by omega, hbok, e3, e4, e5, e6, o3, e7, e8, HR2, HK2, HL2, HD2, HZ2, HB2⟩
    case round =>
      clear HR2 HK2 HL2 HD2 HZ2 HB2 e3 e4 e5 e6 o3 e7 e8 hbok p2 p0
      obtain ⟨k, b, gl, cl, gd, cd, p, hkm, rfl, p0, p1, hbok, e3, e4, e5, e6, e10, e7, e8, HR, HK, HL, HD, HZ, HB⟩ := hrel
      by_cases hlt : (k : Int) < m
      · have hhw := HK.out.lt
        go_upto_region 6 with fail
        refine region_fr (by kernel_rfl) [28, 29, 30, 31, 27, 32, 33] (fun a0 => a0.tmps.size = 96 ∧ a0.tmps[0]? = some (.pointer (some ⟨g, 0, none⟩)) ∧ a0.tmps[3]? = some (.pointer (some ⟨hh, 0, none⟩))) (fun l xs w' => ∃ b' gl' cl' gd' cd' C, BL g hh q n' b gl cl gd cd p wr b' gl' cl' gd' cd' C l xs w') ⟨by rfl, by rfl, by rfl⟩ ?_ ?_ (by kernel_rfl) ?_
        · exact fun xs => ⟨b, 0, 0, 0, 0, 0, BL.start HR.out p0 (by omega) HK.out⟩
        · rintro a0 bb xs l wc' ⟨e0, f0, f3⟩ fr ⟨b', gl', cl', gd', cd', C, r⟩ i hi
          have hlt' := ready_lt hi
          have hnl := (mem_ready.1 hi).1
          have t0 := fr.ex (s := 0) (by decide) f0
          have t3 := fr.ex (s := 3) (by decide) f3
          have hcs : i = 0 ∨ i = 1 ∨ i = 2 ∨ i = 3 ∨ i = 4 ∨ i = 5 ∨ i = 6 ∨ i = 7 := by have : i < 8 := hlt'; omega
          clear hlt'
          have hkept : ∀ x, x ≠ g → x ≠ hh → ¬ (fun k => k = g ∨ k = hh) x := fun x h1 h2 e => e.elim h1 h2
          rcases hcs with rfl | rfl | rfl | rfl | rfl | rfl | rfl | rfl
          · refine wpOp_step rfl (fun K hK => ?_)
            have n7 : ¬ seen l 7 := fun s => not_seen hnl (r.q3 (r.q7 s).1).1
            obtain ⟨z0, z1, z2, z3, z4⟩ := (r.q8 n7).five
            go_simp
            refine hK _ _ ⟨_, fr.put (s := 28) (by decide) _, _, _, _, _, _, _, r.s0 hnl⟩
          · refine wpOp_step rfl (fun K hK => ?_)
            go_simp
            refine hK _ _ ⟨_, fr.put (s := 29) (by decide) _, _, _, _, _, _, _, r.s1 hnl⟩
          · refine wpOp_step rfl (fun K hK => ?_)
            have t29 : bb.tmps[29]? = some (xs 29) := fr.in_ (s := 29) (by decide) (by omega)
            rw [r.q1 (ready_seen (k := 1) hi (by kernel_rfl))] at t29
            obtain ⟨p', c0, c1, c2, hr⟩ := r.room
            go_simp
            refine (bandOp_any g p' (by omega) (by omega) wc' hr).mono ?_
            rintro e w3 ⟨kind, cpu, kk, p5, rfl, b0, b1, b2, b3, b4, b5, b6, b7, hr3, hk3⟩
            refine hK _ _ ⟨_, fr.put (s := 30) (by decide) _, _, _, _, _, _, _, r.s2 hnl (by omega) hk3 (p' := p5) (by omega) (by omega) hr3⟩
          · refine wpOp_step rfl (fun K hK => ?_)
            have s0 := ready_seen (k := 0) hi (by kernel_rfl)
            have t28 : bb.tmps[28]? = some (xs 28) := fr.in_ (s := 28) (by decide) (by omega)
            rw [r.q0 s0] at t28
            have t30 : bb.tmps[30]? = some (xs 30) := fr.in_ (s := 30) (by decide) (by omega)
            obtain ⟨kind, cpu, kk, hx30⟩ := r.q2 (ready_seen (k := 2) hi (by kernel_rfl))
            rw [hx30] at t30
            have hl := (HL.out.own.kept r.bel (hkept _ (Ne.symm e3) (Ne.symm e5))).rwl
            have hd := (HD.out.kept r.bel (hkept _ (Ne.symm e4) (Ne.symm e6))).rwl
            have hsz := r.bel.size
            go_simp
            refine (sBandDoR_any q b.p b.s _ _ n' n' cl cd (by omega) (by omega) b.f b.d kind cpu kk wc' wc' (Below.refl _ _) hl hd).mono ?_
            rintro e w3 ⟨⟨Al, cl3, Ad, cd3, rfl, u1, u2, u3, hb3⟩, urm⟩
            have hok : bandOk q b.p b.s n' n' b.f b.d = true := hbok
            rw [hok] at u1 u2 u3 urm ⊢
            obtain ⟨gl3, rfl, s1, s2⟩ := u1 (show 0 < n' by omega)
            obtain ⟨gd3, rfl, s3, s4⟩ := u2 (show 0 < n' by omega)
            have s5 : gl3 ≠ gd3 := fun e => u3 (show 0 < n' by omega) gl3 ⟨0, rfl⟩ ⟨0, by rw [e]⟩
            refine hK _ _ ⟨_, fr.put (s := 31) (by decide) _, _, _, _, _, _, _, r.s3 (b3 := (bandStep q n' kind cpu kk b).1) (gl3 := gl3) (cl3 := cl3) (gd3 := gd3) (cd3 := cd3) (C3 := (bandStep q n' kind cpu kk b).2) hnl s0 (by omega) (bandStep_ok hbok) hb3 (.of s2 (urm _ _ _ _ _ _ _ _ rfl)) s4 s1 s3 (by omega) s5⟩
          · refine wpOp_step rfl (fun K hK => ?_)
            have s3 := ready_seen (k := 3) hi (by kernel_rfl)
            have t31 : bb.tmps[31]? = some (xs 31) := fr.in_ (s := 31) (by decide) (by omega)
            rw [(r.q3 s3).2.1] at t31
            go_simp
            refine hK _ _ ⟨_, fr.put (s := 27) (by decide) _, _, _, _, _, _, _, r.s4 hnl s3⟩
          · refine wpOp_step rfl (fun K hK => ?_)
            have s4 := ready_seen (k := 4) hi (by kernel_rfl)
            have t27 : bb.tmps[27]? = some (xs 27) := fr.in_ (s := 27) (by decide) (by omega)
            rw [(r.q4 s4).2] at t27
            go_simp
            refine hK _ _ ⟨_, fr.put (s := 32) (by decide) _, _, _, _, _, _, _, r.s5 hnl (r.q4 s4).1⟩
          · refine wpOp_step rfl (fun K hK => ?_)
            have s4 := ready_seen (k := 4) hi (by kernel_rfl)
            have t27 : bb.tmps[27]? = some (xs 27) := fr.in_ (s := 27) (by decide) (by omega)
            rw [(r.q4 s4).2] at t27
            go_simp
            refine hK _ _ ⟨_, fr.put (s := 33) (by decide) _, _, _, _, _, _, _, r.s6 hnl _⟩
          · refine wpOp_step rfl (fun K hK => ?_)
            have s5 := ready_seen (k := 5) hi (by kernel_rfl)
            have t32 : bb.tmps[32]? = some (xs 32) := fr.in_ (s := 32) (by decide) (by omega)
            rw [(r.q5 s5).2] at t32
            have kz := r.q8 (not_seen hnl)
            obtain ⟨z0, z1, z2, z3, z4⟩ := kz.five
            have zf := kz.frees
            go_simp
            refine hK _ _ ⟨xs, fr, _, _, _, _, _, _, r.s7 hnl (r.q5 s5).1 (by omega)⟩
        · rintro xs l wd ⟨b', gl', cl', gd', cd', C, r⟩ hall
          obtain ⟨_, _, hbok', hl', hd', g1, g2, g3, g4, g5⟩ := r.q3 (hall 3 (by decide))
          have hk' := (r.q7 (hall 7 (by decide))).2
          obtain ⟨p', c0, c1, _, hr⟩ := r.room
          have HR' := Lib.hid hr
          have HK' := Lib.hid hk'
          have HL' := Lib.hid hl'
          have HD' := Lib.hid hd'
          have HZ' := Lib.hid (HZ.out.kept r.bel (by rintro (e | e) <;> omega))
          have HB' := Lib.hid (HB.out.then_ r.bel (by rintro i hi (e | e); exact e; omega))
          clear r hr hk' hl' hd' HR HK HL HD HZ HB hall
          simp only [List.foldl_cons, List.foldl_nil, List.setIfInBounds_toArray, List.set_cons_succ, List.set_cons_zero]
          go_wp2
          go_roundw
          case rel => exact ⟨k + 1, b', gl', cl', gd', cd', p', by omega, by go_num, c0, by omega, hbok', by omega, by omega, by omega, by omega, g5, by omega, by omega, HR', HK', HL', HD', HZ', HB'⟩
          case measure => simp [intOf]; omega
      · obtain rfl : m = (k : Int) := by omega
        go_wp2_with fail
        refine (pick_any g p 8 (by omega) (by omega) (by omega) (by omega) wr HR.out).mono ?_
        rintro e w3 ⟨v, rfl, v0, v1, hr3, hk3⟩
        have HR3 := Lib.hid hr3
        have HK3 := Lib.hid (HK.out.kept hk3 (hgg _ (by omega)))
        have HL3 := Lib.hid (HL.out.kept hk3 (hgg _ (by omega)))
        have HD3 := Lib.hid (HD.out.kept hk3 (hgg _ (by omega)))
        have HB3 := Lib.hid (HB.out.trans hk3)
        have HZ3 := Lib.hid (HZ.out.kept hk3 (hgg _ (by omega)))
        clear hr3 hk3 HR HK HL HD HB HZ

        have hzl : w.heap.size < w3.heap.size := HZ3.out.lt
        by_cases hv : 0 < v
        · obtain ⟨z0, z1, z2, z3, z4⟩ := HK3.out.five
          obtain ⟨r0, r1, r2, r3, r4⟩ := HZ3.out.five
          have rf := HZ3.out.frees
          go_wp2
          have kf := ((((HZ3.out.put 0 (.int .i64 (q))).put 1 (.int .i64 (b.p))).put 2 (.int .i64 (b.s))).put 3 (.slice (some ⟨gl, 0, none⟩) (n') (cl))).put 4 (.slice (some ⟨gd, 0, none⟩) (n') (cd))
          obtain ⟨s0, s1, s2, s3, s4⟩ := (show Bk _ w.heap.size 25 #[.int .i64 (q), .int .i64 (b.p), .int .i64 (b.s), .slice (some ⟨gl, 0, none⟩) (n') (cl), .slice (some ⟨gd, 0, none⟩) (n') (cd)] from kf).five
          have hks := five_kept (w3) w.heap.size (.int .i64 (q)) (.int .i64 (b.p)) (.int .i64 (b.s)) (.slice (some ⟨gl, 0, none⟩) (n') (cl)) (.slice (some ⟨gd, 0, none⟩) (n') (cd))
          refine bodyPost_ret (v := .agg #[.int .i64 (q), .int .i64 (b.p), .int .i64 (b.s), .slice (some ⟨gl, 0, none⟩) (n') (cl), .slice (some ⟨gd, 0, none⟩) (n') (cd)]) (by simp [results, Try.results46, go_sem, s0, s1, s2, s3, s4]) rfl ?_
          exact BandP.fin hks (by omega) (by omega) HL3.out.own.rowAt HD3.out.rowAt (by omega) (by omega) (by omega) (by omega) HR3.out hgw HB3.out
        · obtain rfl : v = 0 := by omega
          obtain ⟨z0, z1, z2, z3, z4⟩ := HK3.out.five
          go_wp2_with fail
          refine (pick_any g (p + 1) n' (by omega) (by omega) (by omega) (by omega) w3 HR3.out).mono ?_
          rintro e w4 ⟨x, rfl, x0, x1, hr4, hk4⟩
          have HR4 := Lib.hid hr4
          have HK4 := Lib.hid (HK3.out.kept hk4 (hgg _ (by omega)))
          have HL4 := Lib.hid (HL3.out.kept hk4 (hgg _ (by omega)))
          have HD4 := Lib.hid (HD3.out.kept hk4 (hgg _ (by omega)))
          have HB4 := Lib.hid (HB3.out.trans hk4)
          have HZ4 := Lib.hid (HZ3.out.kept hk4 (hgg _ (by omega)))
          clear hr4 hk4 HR3 HK3 HL3 HD3 HB3 HZ3 z0 z1 z2 z3 z4
          go_wp2_with fail
          refine (pick_any g (p + 1 + 1) 7 (by omega) (by omega) (by omega) (by omega) w4 HR4.out).mono ?_
          rintro e w5 ⟨y, rfl, y0, y1, hr5, hk5⟩
          have HR5 := Lib.hid hr5
          have HK5 := Lib.hid (HK4.out.kept hk5 (hgg _ (by omega)))
          have HL5 := Lib.hid (HL4.out.kept hk5 (hgg _ (by omega)))
          have HD5 := Lib.hid (HD4.out.kept hk5 (hgg _ (by omega)))
          have HB5 := Lib.hid (HB4.out.trans hk5)
          have HZ5 := Lib.hid (HZ4.out.kept hk5 (hgg _ (by omega)))
          clear hr5 hk5 HR4 HK4 HL4 HD4 HB4 HZ4
          obtain ⟨z0, z1, z2, z3, z4⟩ := HK5.out.five
          have zf := HK5.out.frees
          obtain ⟨r0, r1, r2, r3, r4⟩ := HZ5.out.five
          have rf := HZ5.out.frees
          have d0 := HD5.out.2.1 x.toNat (by omega)
          have d1 := HD5.out.2.2 x.toNat (by omega)
          have l0 := HL5.out.own.2.1 x.toNat (by omega)
          have l1 := HL5.out.own.2.2 x.toNat (by omega)
          have hzl5 : w.heap.size < w5.heap.size := HZ5.out.lt
          have hcs : y = 0 ∨ y = 1 ∨ y = 2 ∨ y = 3 ∨ y = 4 ∨ y = 5 ∨ y = 6 := by omega
          rcases hcs with rfl | rfl | rfl | rfl | rfl | rfl | rfl
          · go_wp2
            have kf := (((((HZ5.out.off (p := ⟨hh, 1, none⟩) (by simp; omega) (.int .i64 (wrap64 (b.p + 1)))).put 0 (.int .i64 (q))).put 1 (.int .i64 (wrap64 (b.p + 1)))).put 2 (.int .i64 (b.s))).put 3 (.slice (some ⟨gl, 0, none⟩) (n') (cl))).put 4 (.slice (some ⟨gd, 0, none⟩) (n') (cd))
            obtain ⟨s0, s1, s2, s3, s4⟩ := (show Bk _ w.heap.size 25 #[.int .i64 (q), .int .i64 (wrap64 (b.p + 1)), .int .i64 (b.s), .slice (some ⟨gl, 0, none⟩) (n') (cl), .slice (some ⟨gd, 0, none⟩) (n') (cd)] from kf).five
            have hks := five_kept ((w5.setCell ⟨hh, 1, none⟩ (.int .i64 (wrap64 (b.p + 1))))) w.heap.size (.int .i64 (q)) (.int .i64 (wrap64 (b.p + 1))) (.int .i64 (b.s)) (.slice (some ⟨gl, 0, none⟩) (n') (cl)) (.slice (some ⟨gd, 0, none⟩) (n') (cd))
            refine bodyPost_ret (v := .agg #[.int .i64 (q), .int .i64 (wrap64 (b.p + 1)), .int .i64 (b.s), .slice (some ⟨gl, 0, none⟩) (n') (cl), .slice (some ⟨gd, 0, none⟩) (n') (cd)]) (by simp [results, Try.results46, go_sem, s0, s1, s2, s3, s4]) rfl ?_
            exact BandP.fin hks (by omega) (by omega) (HL5.out.own.rowAt.set (b := hh) (by omega) (1) (.int .i64 (wrap64 (b.p + 1)))) (HD5.out.rowAt.set (b := hh) (by omega) (1) (.int .i64 (wrap64 (b.p + 1)))) (by omega) (by omega) (by omega) (by omega) (HR5.out.set (b := hh) (by omega) (1) (.int .i64 (wrap64 (b.p + 1)))) hgw (HB5.out.set' (b := hh) (by omega) (1) (.int .i64 (wrap64 (b.p + 1))))
          · go_wp2
            go_region
            all_goals
              go_wp2
              have kf := (((((HZ5.out.off (p := ⟨gd, x.toNat, none⟩) (by simp; omega) (.bool (!b.d x.toNat))).put 0 (.int .i64 (q))).put 1 (.int .i64 (b.p))).put 2 (.int .i64 (b.s))).put 3 (.slice (some ⟨gl, 0, none⟩) (n') (cl))).put 4 (.slice (some ⟨gd, 0, none⟩) (n') (cd))
              obtain ⟨s0, s1, s2, s3, s4⟩ := (show Bk _ w.heap.size 25 #[.int .i64 (q), .int .i64 (b.p), .int .i64 (b.s), .slice (some ⟨gl, 0, none⟩) (n') (cl), .slice (some ⟨gd, 0, none⟩) (n') (cd)] from kf.drew).five
              have hks := five_kept ((w5.setCell ⟨gd, x.toNat, none⟩ (.bool (!b.d x.toNat)))) w.heap.size (.int .i64 (q)) (.int .i64 (b.p)) (.int .i64 (b.s)) (.slice (some ⟨gl, 0, none⟩) (n') (cl)) (.slice (some ⟨gd, 0, none⟩) (n') (cd))
              have hks := hks.drew
              refine bodyPost_ret (v := .agg #[.int .i64 (q), .int .i64 (b.p), .int .i64 (b.s), .slice (some ⟨gl, 0, none⟩) (n') (cl), .slice (some ⟨gd, 0, none⟩) (n') (cd)]) (by simp [results, Try.results46, go_sem, s0, s1, s2, s3, s4]) rfl ?_
              exact BandP.fin hks (by omega) (by omega) (HL5.out.own.rowAt.set (b := gd) (by omega) (x.toNat) (.bool (!b.d x.toNat))) ((HD5.out.put (k := x.toNat) (by omega) (.bool (!b.d x.toNat))).congr (f' := fun i => .bool (if i = x.toNat then !b.d x.toNat else b.d i)) (fun i _ => by split <;> rfl)).rowAt (by omega) (by omega) (by omega) (by omega) (HR5.out.set (b := gd) (by omega) (x.toNat) (.bool (!b.d x.toNat))) hgw (HB5.out.set' (b := gd) (by omega) (x.toNat) (.bool (!b.d x.toNat)))
          · go_wp2
            have kf := (((((HZ5.out.off (p := ⟨gl, x.toNat, none⟩) (by simp; omega) (.int .i64 (-1))).put 0 (.int .i64 (q))).put 1 (.int .i64 (b.p))).put 2 (.int .i64 (b.s))).put 3 (.slice (some ⟨gl, 0, none⟩) (n') (cl))).put 4 (.slice (some ⟨gd, 0, none⟩) (n') (cd))
            obtain ⟨s0, s1, s2, s3, s4⟩ := (show Bk _ w.heap.size 25 #[.int .i64 (q), .int .i64 (b.p), .int .i64 (b.s), .slice (some ⟨gl, 0, none⟩) (n') (cl), .slice (some ⟨gd, 0, none⟩) (n') (cd)] from kf).five
            have hks := five_kept ((w5.setCell ⟨gl, x.toNat, none⟩ (.int .i64 (-1)))) w.heap.size (.int .i64 (q)) (.int .i64 (b.p)) (.int .i64 (b.s)) (.slice (some ⟨gl, 0, none⟩) (n') (cl)) (.slice (some ⟨gd, 0, none⟩) (n') (cd))
            refine bodyPost_ret (v := .agg #[.int .i64 (q), .int .i64 (b.p), .int .i64 (b.s), .slice (some ⟨gl, 0, none⟩) (n') (cl), .slice (some ⟨gd, 0, none⟩) (n') (cd)]) (by simp [results, Try.results46, go_sem, s0, s1, s2, s3, s4]) rfl ?_
            exact BandP.fin hks (by omega) (by omega) ((HL5.out.own.put (k := x.toNat) (by omega) (.int .i64 (-1))).congr (f' := fun i => .int .i64 (if i = x.toNat then -1 else b.f i)) (fun i _ => by split <;> rfl)).rowAt (HD5.out.rowAt.set (b := gl) (by omega) (x.toNat) (.int .i64 (-1))) (by omega) (by omega) (by omega) (by omega) (HR5.out.set (b := gl) (by omega) (x.toNat) (.int .i64 (-1))) hgw (HB5.out.set' (b := gl) (by omega) (x.toNat) (.int .i64 (-1)))
          · go_wp2
            have kf := (((((HZ5.out.off (p := ⟨hh, 0, none⟩) (by simp; omega) (.int .i64 0)).put 0 (.int .i64 (0))).put 1 (.int .i64 (b.p))).put 2 (.int .i64 (b.s))).put 3 (.slice (some ⟨gl, 0, none⟩) (n') (cl))).put 4 (.slice (some ⟨gd, 0, none⟩) (n') (cd))
            obtain ⟨s0, s1, s2, s3, s4⟩ := (show Bk _ w.heap.size 25 #[.int .i64 (0), .int .i64 (b.p), .int .i64 (b.s), .slice (some ⟨gl, 0, none⟩) (n') (cl), .slice (some ⟨gd, 0, none⟩) (n') (cd)] from kf).five
            have hks := five_kept ((w5.setCell ⟨hh, 0, none⟩ (.int .i64 0))) w.heap.size (.int .i64 (0)) (.int .i64 (b.p)) (.int .i64 (b.s)) (.slice (some ⟨gl, 0, none⟩) (n') (cl)) (.slice (some ⟨gd, 0, none⟩) (n') (cd))
            refine bodyPost_ret (v := .agg #[.int .i64 (0), .int .i64 (b.p), .int .i64 (b.s), .slice (some ⟨gl, 0, none⟩) (n') (cl), .slice (some ⟨gd, 0, none⟩) (n') (cd)]) (by simp [results, Try.results46, go_sem, s0, s1, s2, s3, s4]) rfl ?_
            exact BandP.fin hks (by omega) (by omega) (HL5.out.own.rowAt.set (b := hh) (by omega) (0) (.int .i64 0)) (HD5.out.rowAt.set (b := hh) (by omega) (0) (.int .i64 0)) (by omega) (by omega) (by omega) (by omega) (HR5.out.set (b := hh) (by omega) (0) (.int .i64 0)) hgw (HB5.out.set' (b := hh) (by omega) (0) (.int .i64 0))
          · go_wp2
            · skip
              have kf := (((((HZ5.out.off (p := ⟨hh, 4, none⟩) (by simp; omega) (.slice (some ⟨gd, 0, none⟩) (n' - 1) 0)).put 0 (.int .i64 (q))).put 1 (.int .i64 (b.p))).put 2 (.int .i64 (b.s))).put 3 (.slice (some ⟨gl, 0, none⟩) (n') (cl))).put 4 (.slice (some ⟨gd, 0, none⟩) (n' - 1) (0))
              obtain ⟨s0, s1, s2, s3, s4⟩ := (show Bk _ w.heap.size 25 #[.int .i64 (q), .int .i64 (b.p), .int .i64 (b.s), .slice (some ⟨gl, 0, none⟩) (n') (cl), .slice (some ⟨gd, 0, none⟩) (n' - 1) (0)] from kf).five
              have hks := five_kept ((w5.setCell ⟨hh, 4, none⟩ (.slice (some ⟨gd, 0, none⟩) (n' - 1) 0))) w.heap.size (.int .i64 (q)) (.int .i64 (b.p)) (.int .i64 (b.s)) (.slice (some ⟨gl, 0, none⟩) (n') (cl)) (.slice (some ⟨gd, 0, none⟩) (n' - 1) (0))
              refine bodyPost_ret (v := .agg #[.int .i64 (q), .int .i64 (b.p), .int .i64 (b.s), .slice (some ⟨gl, 0, none⟩) (n') (cl), .slice (some ⟨gd, 0, none⟩) (n' - 1) (0)]) (by simp [results, Try.results46, go_sem, s0, s1, s2, s3, s4]) rfl ?_
              exact BandP.fin hks (by omega) (by omega) (HL5.out.own.rowAt.set (b := hh) (by omega) (4) (.slice (some ⟨gd, 0, none⟩) (n' - 1) 0)) ((HD5.out.rowLess (k := n' - 1) (by omega)).set (b := hh) (by omega) (4) (.slice (some ⟨gd, 0, none⟩) (n' - 1) 0)) (by omega) (by omega) (by omega) (by omega) (HR5.out.set (b := hh) (by omega) (4) (.slice (some ⟨gd, 0, none⟩) (n' - 1) 0)) hgw (HB5.out.set' (b := hh) (by omega) (4) (.slice (some ⟨gd, 0, none⟩) (n' - 1) 0))
            · skip
              have kf := (((((HZ5.out.off (p := ⟨hh, 4, none⟩) (by simp; omega) (.slice (some ⟨gd, 1, none⟩) (n' - 1) (cd - 1))).put 0 (.int .i64 (q))).put 1 (.int .i64 (b.p))).put 2 (.int .i64 (b.s))).put 3 (.slice (some ⟨gl, 0, none⟩) (n') (cl))).put 4 (.slice (some ⟨gd, 1, none⟩) (n' - 1) (cd - 1))
              obtain ⟨s0, s1, s2, s3, s4⟩ := (show Bk _ w.heap.size 25 #[.int .i64 (q), .int .i64 (b.p), .int .i64 (b.s), .slice (some ⟨gl, 0, none⟩) (n') (cl), .slice (some ⟨gd, 1, none⟩) (n' - 1) (cd - 1)] from kf).five
              have hks := five_kept ((w5.setCell ⟨hh, 4, none⟩ (.slice (some ⟨gd, 1, none⟩) (n' - 1) (cd - 1)))) w.heap.size (.int .i64 (q)) (.int .i64 (b.p)) (.int .i64 (b.s)) (.slice (some ⟨gl, 0, none⟩) (n') (cl)) (.slice (some ⟨gd, 1, none⟩) (n' - 1) (cd - 1))
              refine bodyPost_ret (v := .agg #[.int .i64 (q), .int .i64 (b.p), .int .i64 (b.s), .slice (some ⟨gl, 0, none⟩) (n') (cl), .slice (some ⟨gd, 1, none⟩) (n' - 1) (cd - 1)]) (by simp [results, Try.results46, go_sem, s0, s1, s2, s3, s4]) rfl ?_
              exact BandP.fin hks (by omega) (by omega) (HL5.out.own.rowAt.set (b := hh) (by omega) (4) (.slice (some ⟨gd, 1, none⟩) (n' - 1) (cd - 1))) (HD5.out.rowAt1.set (b := hh) (by omega) (4) (.slice (some ⟨gd, 1, none⟩) (n' - 1) (cd - 1))) (by omega) (by omega) (by omega) (by omega) (HR5.out.set (b := hh) (by omega) (4) (.slice (some ⟨gd, 1, none⟩) (n' - 1) (cd - 1))) hgw (HB5.out.set' (b := hh) (by omega) (4) (.slice (some ⟨gd, 1, none⟩) (n' - 1) (cd - 1)))
          · obtain ⟨i0, hi, hi0, hi1, hi2⟩ := info_parts infoI
            have hown0 := RoomV.owns (B := w.heap.size + 1) HL5.out.room HL5.out.own (by omega)
            have HO5 := Lib.hid hown0
            clear hown0
            go_wp2_with (at_builtin; refine wpList_append_lies _ rfl _ _ 22 rfl (w.heap.size + 1) 3 i0 (.int .i64 0) 1 8 Try.underlying22 hi hi0 hi1 hi2 rfl (by decide) (.slice (some ⟨gl, 0, none⟩) n' cl) n' (flat n' (fun i => [.int .i64 (b.f i)])) rfl (HO5.out.alloc _) ⟨w5.heap.size, 0, none⟩ 1 1 [.int .i64 0] rfl rfl (World.news_of_block (cs := #[.int .i64 0]) (t := 3) (fr := (0, 0)) (heap_alloc_new w5 _)) (by simp [Value.oneCell']) (by omega) (by unfold maxLen; omega) (by omega) (by simp; omega) (w5.heap.size + 1) (by simp) ?_)
            intro bl cl3 w6 hown hgrow hat hbl
            have hkw : Kept (fun j => j = gl) w5 w6 := ((Kept.refl (fun j => j = gl) w5).alloc (.cells #[.int .i64 0] 3)).trans ⟨hgrow.os, hgrow.tape, hgrow.output, hgrow.size, fun i hi hne => hgrow.block i hi (by simpa [Value.ownBlock] using hne)⟩
            have hbl0 : w.heap.size + 1 ≤ bl := (hown.lt bl rfl).1
            have hown2 : w6.ownsRow (w.heap.size + 1) 3 1 (.slice (some ⟨bl, 0, none⟩) (n' + 1) cl3) (n' + 1) (flat (n' + 1) (fun i => [.int .i64 (if i = n' then 0 else b.f i)])) := by
              have e := flat_put n' (fun i => [Value.int .i64 (b.f i)]) [.int .i64 0]
              rw [show (fun i => [Value.int .i64 (if i = n' then 0 else b.f i)]) = fun i => if i = n' then [Value.int .i64 0] else [Value.int .i64 (b.f i)] from funext fun i => by split <;> rfl, e]
              exact hown
            obtain ⟨bl', cl3', he3, _, hv3⟩ := owns_V (by omega) hown2
            simp only [Value.slice.injEq, Option.some.injEq, Addr.mk.injEq] at he3
            obtain ⟨⟨rfl, _⟩, _, rfl⟩ := he3
            have HL6 := Lib.hid hv3
            have HK6 := Lib.hid (HK5.out.kept hkw (by omega))
            have HZ6 := Lib.hid (HZ5.out.kept hkw (by omega))
            have HD6 := Lib.hid (HD5.out.kept hkw (by omega))
            have HR6 := Lib.hid (HR5.out.kept hkw (fun k hk e => by omega))
            have HB6 := Lib.hid (HB5.out.then_ hkw (fun i hi e => by omega))
            have hzl6 : w.heap.size < w6.heap.size := HZ6.out.lt
            have hbh : bl ≠ hh := by
              have := HK5.out.lt
              rcases hat with e | e
              · simp only [Value.ownBlock, Option.some.injEq] at e
                omega
              · omega
            clear hown hown2 hv3 hkw hgrow hat z0 z1 z2 z3 z4 zf r0 r1 r2 r3 r4 rf d0 d1 l0 l1 HL5 HK5 HZ5 HD5 HR5 HB5 HO5
            obtain ⟨z0, z1, z2, z3, z4⟩ := HK6.out.five
            have zf := HK6.out.frees
            obtain ⟨r0, r1, r2, r3, r4⟩ := HZ6.out.five
            have rf := HZ6.out.frees
            go_wp2
            have kf := (((((HZ6.out.off (p := ⟨hh, 3, none⟩) (by simp; omega) (.slice (some ⟨bl, 0, none⟩) (n' + 1) cl3)).put 0 (.int .i64 (q))).put 1 (.int .i64 (b.p))).put 2 (.int .i64 (b.s))).put 3 (.slice (some ⟨bl, 0, none⟩) (n' + 1) (cl3))).put 4 (.slice (some ⟨gd, 0, none⟩) (n') (cd))
            obtain ⟨s0, s1, s2, s3, s4⟩ := (show Bk _ w.heap.size 25 #[.int .i64 (q), .int .i64 (b.p), .int .i64 (b.s), .slice (some ⟨bl, 0, none⟩) (n' + 1) (cl3), .slice (some ⟨gd, 0, none⟩) (n') (cd)] from kf).five
            have hks := five_kept ((w6.setCell ⟨hh, 3, none⟩ (.slice (some ⟨bl, 0, none⟩) (n' + 1) cl3))) w.heap.size (.int .i64 (q)) (.int .i64 (b.p)) (.int .i64 (b.s)) (.slice (some ⟨bl, 0, none⟩) (n' + 1) (cl3)) (.slice (some ⟨gd, 0, none⟩) (n') (cd))
            refine bodyPost_ret (v := .agg #[.int .i64 (q), .int .i64 (b.p), .int .i64 (b.s), .slice (some ⟨bl, 0, none⟩) (n' + 1) (cl3), .slice (some ⟨gd, 0, none⟩) (n') (cd)]) (by simp [results, Try.results46, go_sem, s0, s1, s2, s3, s4]) rfl ?_
            exact BandP.fin hks (by omega) (by omega) (HL6.out.rowAt.set (b := hh) (by omega) (3) (.slice (some ⟨bl, 0, none⟩) (n' + 1) cl3)) (HD6.out.rowAt.set (b := hh) (by omega) (3) (.slice (some ⟨bl, 0, none⟩) (n' + 1) cl3)) (by omega) (by omega) (by omega) (by omega) (HR6.out.set (b := hh) (by omega) (3) (.slice (some ⟨bl, 0, none⟩) (n' + 1) cl3)) hgw (HB6.out.set' (b := hh) (by omega) (3) (.slice (some ⟨bl, 0, none⟩) (n' + 1) cl3))
          · go_wp2
            have kf := ((((((HZ5.out.off (p := ⟨hh, 2, none⟩) (by simp; omega) (.int .i64 (wrap64 (b.s + 1)))).off (p := ⟨hh, 1, none⟩) (by simp; omega) (.int .i64 (wrap64 (b.p - 1)))).put 0 (.int .i64 (q))).put 1 (.int .i64 (wrap64 (b.p - 1)))).put 2 (.int .i64 (wrap64 (b.s + 1)))).put 3 (.slice (some ⟨gl, 0, none⟩) (n') (cl))).put 4 (.slice (some ⟨gd, 0, none⟩) (n') (cd))
            obtain ⟨s0, s1, s2, s3, s4⟩ := (show Bk _ w.heap.size 25 #[.int .i64 (q), .int .i64 (wrap64 (b.p - 1)), .int .i64 (wrap64 (b.s + 1)), .slice (some ⟨gl, 0, none⟩) (n') (cl), .slice (some ⟨gd, 0, none⟩) (n') (cd)] from kf).five
            have hks := five_kept (((w5.setCell ⟨hh, 2, none⟩ (.int .i64 (wrap64 (b.s + 1)))).setCell ⟨hh, 1, none⟩ (.int .i64 (wrap64 (b.p - 1))))) w.heap.size (.int .i64 (q)) (.int .i64 (wrap64 (b.p - 1))) (.int .i64 (wrap64 (b.s + 1))) (.slice (some ⟨gl, 0, none⟩) (n') (cl)) (.slice (some ⟨gd, 0, none⟩) (n') (cd))
            refine bodyPost_ret (v := .agg #[.int .i64 (q), .int .i64 (wrap64 (b.p - 1)), .int .i64 (wrap64 (b.s + 1)), .slice (some ⟨gl, 0, none⟩) (n') (cl), .slice (some ⟨gd, 0, none⟩) (n') (cd)]) (by simp [results, Try.results46, go_sem, s0, s1, s2, s3, s4]) rfl ?_
            exact BandP.fin hks (by omega) (by omega) ((HL5.out.own.rowAt.set (b := hh) (by omega) (2) (.int .i64 (wrap64 (b.s + 1)))).set (b := hh) (by omega) (1) (.int .i64 (wrap64 (b.p - 1)))) ((HD5.out.rowAt.set (b := hh) (by omega) (2) (.int .i64 (wrap64 (b.s + 1)))).set (b := hh) (by omega) (1) (.int .i64 (wrap64 (b.p - 1)))) (by omega) (by omega) (by omega) (by omega) ((HR5.out.set (b := hh) (by omega) (2) (.int .i64 (wrap64 (b.s + 1)))).set (b := hh) (by omega) (1) (.int .i64 (wrap64 (b.p - 1)))) hgw ((HB5.out.set' (b := hh) (by omega) (2) (.int .i64 (wrap64 (b.s + 1)))).set' (b := hh) (by omega) (1) (.int .i64 (wrap64 (b.p - 1))))
end Go.Proofs.Ytbgmjcfnehnicaa

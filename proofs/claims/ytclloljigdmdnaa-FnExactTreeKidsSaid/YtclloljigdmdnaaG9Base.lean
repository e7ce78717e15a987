/- Trees: the program's nodes: made, linked, looked at. -/
import Derived.Test.YtclloljigdmdnaaG8Base
import Derived.Deep.Cut
namespace Go.Proofs.Ytclloljigdmdnaa
open Go.RowKit Go.Maps
/-- Keys that stand in the map are those of the used slots below k. -/
def KeysAre (D : DataW Unit) (us : Nat → Bool) (pa : Nat → Int) (nm : Nat → ByteArray) (k : Nat) : Prop :=
  Maps.IsMap D ∧ ∀ g, g < 8 → us g = true → (Maps.has D (keyL (pa g) (nm g)) = true ↔ ∃ h, 1 ≤ h ∧ h < k ∧ us h = true ∧ pa h = pa g ∧ nm h = nm g)
/-- What is known of the fields. -/
structure Flds (us : Nat → Bool) (pa : Nat → Int) (nm : Nat → ByteArray) : Prop where
  wf : ∀ i, i < 8 → (Lit.int .i64 (pa i)).wf = true
  ln : ∀ i, i < 8 → (nm i).size ≤ maxLen
theorem KeysAre.start (us : Nat → Bool) (pa : Nat → Int) (nm : Nat → ByteArray) : KeysAre (.map []) us pa nm 1 :=
  ⟨Maps.isMap_empty, fun g _ _ => ⟨fun h => by simp [Maps.has] at h, fun ⟨h, h1, h2, _⟩ => by omega⟩⟩
theorem KeysAre.skip {D : DataW Unit} {us : Nat → Bool} {pa : Nat → Int} {nm : Nat → ByteArray} {k : Nat} (h : KeysAre D us pa nm k) (hu : us k = false) : KeysAre D us pa nm (k + 1) :=
  ⟨h.1, fun g hg hug => (h.2 g hg hug).trans ⟨fun ⟨x, h1, h2, h3⟩ => ⟨x, h1, by omega, h3⟩, fun ⟨x, h1, h2, h3⟩ => ⟨x, h1, by
    by_cases e : x = k
    · subst e; rw [hu] at h3; exact absurd h3.1 (by simp)
    · omega, h3⟩⟩⟩
theorem isKey_keyL (p : Int) (s : ByteArray) : WideAt.IsKeyLit (keyL p s) := by unfold keyL; trivial
theorem KeysAre.put {D : DataW Unit} {us : Nat → Bool} {pa : Nat → Int} {nm : Nat → ByteArray} {k : Nat} (h : KeysAre D us pa nm k) (F : Flds us pa nm) (h1 : 1 ≤ k) (hk : k < 8) (hu : us k = true) (d : DataW Unit) : KeysAre (D.put (keyL (pa k) (nm k)) d) us pa nm (k + 1) := by
  refine ⟨h.1.put _ _, fun g hg hug => ?_⟩
  by_cases e : keyL (pa g) (nm g) = keyL (pa k) (nm k)
  · rw [e, Maps.has_put_same h.1 (isKey_keyL _ _)]
    obtain ⟨e1, e2⟩ := keyL_inj (F.wf g hg) (F.wf k hk) (F.ln g hg) (F.ln k hk) e
    exact ⟨fun _ => ⟨k, h1, by omega, hu, e1.symm, e2.symm⟩, fun _ => rfl⟩
  · rw [Maps.has_put_other e]
    refine (h.2 g hg hug).trans ⟨fun ⟨x, a1, a2, a3⟩ => ⟨x, a1, by omega, a3⟩, fun ⟨x, a1, a2, a3⟩ => ⟨x, a1, ?_, a3⟩⟩
    by_cases ex : x = k
    · subst ex
      exact absurd (by rw [a3.2.1, a3.2.2]) e
    · omega
/-- The nodes made of the slots below k: where they lie. -/
structure MadeS (w W : World) (ab : Nat) (nb : Nat → Nat) (us : Nat → Bool) (nm : Nat → ByteArray) (k : Nat) : Prop where
  all : OwnV w ab 8 (fun h => .pointer (if decide (h < k) && us h then some ⟨nb h, 0, none⟩ else none))
  nd : ∀ h, h < k → us h = true → Bk w (nb h) 69 #[.int .i64 (h : Int), .string (nm h), .pointer none] ∧ ab < nb h
  up : ∀ h h', h < h' → h' < k → us h = true → us h' = true → nb h < nb h'
  bel : Below W.heap.size W w
  ge : W.heap.size ≤ ab
theorem MadeS.skip {w W : World} {ab : Nat} {nb : Nat → Nat} {us : Nat → Bool} {nm : Nat → ByteArray} {k : Nat} (h : MadeS w W ab nb us nm k) (hu : us k = false) : MadeS w W ab nb us nm (k + 1) := by
  refine ⟨h.all.congr (fun i hi => ?_), fun i hi hui => ?_, fun i j hij hj hui huj => ?_, h.bel, h.ge⟩
  · by_cases e : i = k
    · subst e; simp [hu]
    · have : (decide (i < k + 1)) = decide (i < k) := by simp; omega
      rw [this]
  · by_cases e : i = k
    · subst e; rw [hu] at hui; cases hui
    · exact h.nd i (by omega) hui
  · by_cases e : j = k
    · subst e; rw [hu] at huj; cases huj
    · exact h.up i j hij (by omega) hui huj
theorem MadeS.step {w W : World} {ab : Nat} {nb : Nat → Nat} {us : Nat → Bool} {nm : Nat → ByteArray} {k : Nat} (h : MadeS w W ab nb us nm k) (hk : k < 8) (hu : us k = true) :
    MadeS ((w.setCell ⟨ab, k, none⟩ (.pointer (some ⟨w.heap.size, 0, none⟩))).alloc (.cells #[.int .i64 (k : Int), .string (nm k), .pointer none] 69)) W ab (updN nb k w.heap.size) us nm (k + 1) := by
  have hab := h.all.1
  refine ⟨((h.all.put hk _).same (Below.heap_alloc _ _ ab (by simpa using hab)) (by simp)).congr (fun i hi => ?_), fun i hi hui => ?_, fun i j hij hj hui huj => ?_, ?_, h.ge⟩
  · by_cases e : i = k
    · subst e; simp [hu, updN_same]
    · have : (decide (i < k + 1)) = decide (i < k) := by simp; omega
      rw [this]
      simp [e, updN]
  · by_cases e : i = k
    · subst e
      rw [updN_same]
      exact ⟨Bk.new' _ w.heap.size _ _ (by simp), hab⟩
    · obtain ⟨n1, n2⟩ := h.nd i (by omega) hui
      rw [show updN nb k w.heap.size i = nb i by simp [updN, e]]
      exact ⟨(n1.off (by simp; omega) _).alloc _, n2⟩
  · by_cases e : j = k
    · subst e
      rw [updN_same, updN_lt _ _ _ hij]
      exact (h.nd i hij hui).1.lt
    · rw [updN_lt _ _ _ (by omega), updN_lt _ _ _ (by omega)]
      exact h.up i j hij (by omega) hui huj
  · exact (h.bel.setCell (by have := h.ge; simpa using this) _).alloc (by have := h.bel.size; simpa using this) _
/-- What linking has done when the slots below k are linked. -/
structure LinkS (w W : World) (ab mb : Nat) (nb : Nat → Nat) (us : Nat → Bool) (pa : Nat → Int) (nm : Nat → ByteArray) (k : Nat) (D : DataW Unit) : Prop where
  all : OwnV w ab 8 (fun h => .pointer (if us h then some ⟨nb h, 0, none⟩ else none))
  nd : NodesAt w nb us pa nm (fun h => decide (1 ≤ h) && decide (h < k))
  mp : w.ownsMap Try.prog 72 (plainElem Try.prog 3) mb k D
  ks : KeysAre D us pa nm k
  sep : ∀ h, h < 8 → us h = true → ab < nb h ∧ nb h < mb
  up : ∀ h h', h < h' → h' < 8 → us h = true → us h' = true → nb h < nb h'
  bel : Below W.heap.size W w
  ge : W.heap.size ≤ ab
  mlt : ab < mb
theorem MadeS.link {w W : World} {ab : Nat} {nb : Nat → Nat} {us : Nat → Bool} {pa : Nat → Int} {nm : Nat → ByteArray} (h : MadeS w W ab nb us nm 8) : LinkS (w.alloc (.map #[] 0)) W ab w.heap.size nb us pa nm 1 (.map []) := by
  refine ⟨(h.all.same (Below.heap_alloc w _ ab h.all.1) (by simp)).congr (fun i hi => by simp [hi]), fun i hi hui => ?_, ?_, KeysAre.start us pa nm, fun i hi hui => ⟨(h.nd i hi hui).2, (h.nd i hi hui).1.lt⟩, h.up, h.bel.alloc h.bel.size _, h.ge, h.all.1⟩
  · have := (h.nd i hi hui).1.alloc (.map #[] 0)
    have e : (decide (1 ≤ i) && decide (i < 1)) = false := by simp; omega
    simp only [e, Bool.false_eq_true, if_false]
    exact this
  · exact (World.ownsMap_made w _ _ _).mono (by omega)
theorem LinkS.skip {w W : World} {ab mb : Nat} {nb : Nat → Nat} {us : Nat → Bool} {pa : Nat → Int} {nm : Nat → ByteArray} {k : Nat} {D : DataW Unit} (h : LinkS w W ab mb nb us pa nm k D) (hu : us k = false) : LinkS w W ab mb nb us pa nm (k + 1) D := by
  refine ⟨h.all, fun i hi hui => ?_, h.mp.mono (by omega), h.ks.skip hu, h.sep, h.up, h.bel, h.ge, h.mlt⟩
  have e : i ≠ k := fun e => by subst e; rw [hu] at hui; cases hui
  have e2 : decide (i < k + 1) = decide (i < k) := by simp; omega
  have := h.nd i hi hui
  simpa [e2] using this
/-- The node of slot k gets its parent. -/
theorem LinkS.tie {w W : World} {ab mb : Nat} {nb : Nat → Nat} {us : Nat → Bool} {pa : Nat → Int} {nm : Nat → ByteArray} {k : Nat} {D : DataW Unit} (h : LinkS w W ab mb nb us pa nm k D) (hk1 : 1 ≤ k) (hk : k < 8) (hu : us k = true) :
    OwnV (w.setCell ⟨nb k, 2, none⟩ (.pointer (some ⟨nb (pa k).toNat, 0, none⟩))) ab 8 (fun h => .pointer (if us h then some ⟨nb h, 0, none⟩ else none)) ∧
    NodesAt (w.setCell ⟨nb k, 2, none⟩ (.pointer (some ⟨nb (pa k).toNat, 0, none⟩))) nb us pa nm (fun h => decide (1 ≤ h) && decide (h < k + 1)) ∧
    (w.setCell ⟨nb k, 2, none⟩ (.pointer (some ⟨nb (pa k).toNat, 0, none⟩))).ownsMap Try.prog 72 (plainElem Try.prog 3) mb k D ∧
    Below W.heap.size W (w.setCell ⟨nb k, 2, none⟩ (.pointer (some ⟨nb (pa k).toNat, 0, none⟩))) := by
  obtain ⟨s1, s2⟩ := h.sep k hk hu
  refine ⟨h.all.off (by simp; omega) _, fun i hi hui => ?_, h.mp.setCell (by simp; omega) _, h.bel.setCell (by have := h.ge; simp; omega) _⟩
  have hn := h.nd i hi hui
  by_cases e : i = k
  · subst e
    have := hn.put 2 (.pointer (some ⟨nb (pa i).toNat, 0, none⟩))
    have e1 : (decide (1 ≤ i) && decide (i < i + 1)) = true := by simp [hk1]
    simp only [e1, if_true]
    simpa using this
  · have hne : nb i ≠ nb k := by
      rcases Nat.lt_or_gt_of_ne e with hlt | hlt
      · have := h.up i k hlt hk hui hu; omega
      · have := h.up k i hlt hi hu hui; omega
    have e2 : decide (i < k + 1) = decide (i < k) := by simp; omega
    have := hn.off (p := ⟨nb k, 2, none⟩) hne (.pointer (some ⟨nb (pa k).toNat, 0, none⟩))
    simpa [e2] using this
end Go.Proofs.Ytclloljigdmdnaa

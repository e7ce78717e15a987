/- Bands: a region that loads a band and an operation, calls BandDo and lays the result into a variable. -/
import Derived.Test.YtbgmjcfnehnicaaB24Base
import Derived.Test.YtbgmjcfnehnicaaT4Base
import Derived.Deep.DeepCutAuto
namespace Go.Proofs.Ytbgmjcfnehnicaa
open Go.RowKit
theorem xAlloc {a b : World} (h : Below a.heap.size a b) (o : Obj) : Below a.heap.size a (b.alloc o) := h.alloc h.size o
theorem xDrew {a b : World} (h : Below a.heap.size a b) : Below a.heap.size a b.drew := h.drew
theorem xDrew' {a b : World} (h : Below a.heap.size a b) : Below a.drew.heap.size a.drew b := ⟨h.os, h.tape, h.output, h.size, h.block⟩
/-- What BandDo returns, its numbers named. -/
def DP (C Q P S : Int) (N : Nat) (F D : Nat → Value) (w : World) (e : Ending) (w' : World) : Prop :=
  ∃ Al cl Ad cd, e = .returned (.tuple #[.agg #[.int .i64 Q, .int .i64 P, .int .i64 S, .slice Al N cl, .slice Ad N cd], .int .i64 C]) ∧ Rows2 w' w.heap.size Al Ad N F D ∧ Below w.heap.size w w'
/-- A variable that holds such a result, in a world that came out of w. -/
def VarAt (C Q P S : Int) (N : Nat) (F D : Nat → Value) (w : World) (a b : Value) (w' : World) : Prop :=
  ∃ h Al cl Ad cd, a = .pointer (some ⟨h, 0, none⟩) ∧ b = .int .i64 C ∧ Bk w' h 25 #[.int .i64 Q, .int .i64 P, .int .i64 S, .slice Al N cl, .slice Ad N cd] ∧ Rows2 w' w.heap.size Al Ad N F D ∧ (0 < N → ∀ k, hd Al k ∨ hd Ad k → k ≠ h) ∧ w.heap.size ≤ h ∧ Below w.heap.size w w'
theorem three {w : World} {g : Nat} {t : TypeId} {a b c : Value} (h : Bk w g t #[a, b, c]) :
    w.cell? ⟨g, 0, none⟩ = some a ∧ w.cell? ⟨g, 1, none⟩ = some b ∧ w.cell? ⟨g, 2, none⟩ = some c := ⟨h.cell 0, h.cell 1, h.cell 2⟩
theorem bkB {a b : World} {g : Nat} {t : TypeId} {cs : Array Value} (hb : Below a.heap.size a b) (h : Bk a g t cs) : Bk b g t cs := h.below hb h.lt
theorem useP {P G : Prop} (h : P) (k : P → G) : G := k h
theorem more2 {w : World} {B B' n : Nat} {A A' : Option Addr} {f f' : Nat → Value} (h : Rows2 w B A A' n f f') (hB : B' ≤ B) : Rows2 w B' A A' n f f' := ⟨h.1.more hB, h.2.1.more hB, h.2.2⟩
theorem VarAt.after {C Q P S : Int} {N : Nat} {F D : Nat → Value} {w x wD : World} {Al Ad : Option Addr} {cl cd : Nat} (hx : Below w.heap.size w x) (hr : Rows2 wD x.heap.size Al Ad N F D) (hb : Below x.heap.size x wD) :
    VarAt C Q P S N F D w (.pointer (some ⟨wD.heap.size, 0, none⟩)) (.int .i64 C) (wD.alloc (.cells #[.int .i64 Q, .int .i64 P, .int .i64 S, .slice Al N cl, .slice Ad N cd] 25)) := by
  have h1 := hx.size
  have h2 := hb.size
  refine ⟨_, Al, cl, Ad, cd, rfl, rfl, Bk.new _ _ _, more2 (hr.below ((Below.refl _ _).alloc (Nat.le_refl _) _)) h1, fun hn k hk => ?_, by omega, (bel hx hb).alloc (by omega) _⟩
  have := hr.ub hn k hk
  omega
theorem VarAt.before {C Q P S : Int} {N h : Nat} {F D : Nat → Value} {w x wD : World} {Al Ad : Option Addr} {cl cd : Nat} (kv : Bk wD h 25 #[.int .i64 0, .int .i64 0, .int .i64 0, .slice none 0 0, .slice none 0 0]) (hx : Below w.heap.size w x) (h1 : w.heap.size ≤ h) (hr : Rows2 wD x.heap.size Al Ad N F D) (hb : Below x.heap.size x wD) (h2 : h < x.heap.size) :
    VarAt C Q P S N F D w (.pointer (some ⟨h, 0, none⟩)) (.int .i64 C) (((((wD.setCell ⟨h, 0, none⟩ (.int .i64 Q)).setCell ⟨h, 1, none⟩ (.int .i64 P)).setCell ⟨h, 2, none⟩ (.int .i64 S)).setCell ⟨h, 3, none⟩ (.slice Al N cl)).setCell ⟨h, 4, none⟩ (.slice Ad N cd)) := by
  have h3 := hx.size
  have k := ((((kv.put 0 (.int .i64 Q)).put 1 (.int .i64 P)).put 2 (.int .i64 S)).put 3 (.slice Al N cl)).put 4 (.slice Ad N cd)
  have ee : ∀ o, (fun b => b = h) (⟨h, o, none⟩ : Addr).block := fun _ => rfl
  have hr2 := hr.kept (p := fun b => b = h) (((((((Kept.refl (fun b => b = h) wD).setCell (q := ⟨h, 0, none⟩) (ee 0) (.int .i64 Q)).setCell (q := ⟨h, 1, none⟩) (ee 1) (.int .i64 P)).setCell (q := ⟨h, 2, none⟩) (ee 2) (.int .i64 S)).setCell (q := ⟨h, 3, none⟩) (ee 3) (.slice Al N cl)).setCell (q := ⟨h, 4, none⟩) (ee 4) (.slice Ad N cd))) (fun _ j hj _ e => by omega)
  refine ⟨_, Al, cl, Ad, cd, rfl, rfl, k, more2 hr2 h3, fun hn j hj => ?_, h1, (((((bel hx hb).setCell h1 _).setCell h1 _).setCell h1 _).setCell h1 _).setCell h1 _⟩
  rcases hj with hj | hj
  · obtain ⟨o, e⟩ := hj
    obtain ⟨g, ha, hB, _⟩ := hr.1 hn
    rw [ha] at e
    simp at e
    omega
  · obtain ⟨o, e⟩ := hj
    obtain ⟨g, ha, hB, _⟩ := hr.2.1 hn
    rw [ha] at e
    simp at e
    omega
theorem OwnV.rwl {w : World} {g n : Nat} {f : Nat → Value} (h : OwnV w g n f) : Rw w w.heap.size (some ⟨g, 0, none⟩) n f := fun _ => ⟨g, 0, rfl, h.1, fun i hi => by rw [Nat.zero_add]; exact h.2.1 i hi⟩
theorem OwnV.bel {w w' : World} {g n : Nat} {f : Nat → Value} (h : OwnV w g n f) (hb : Below w.heap.size w w') : OwnV w' g n f := h.same (hb.block g h.1) hb.size
theorem Bk.bel {w w' : World} {g : Nat} {t : TypeId} {cs : Array Value} (h : Bk w g t cs) (hb : Below w.heap.size w w') : Bk w' g t cs := h.below hb h.lt
theorem getD_put {l : Array Bool} {i : Nat} (h : l.getD i true = false) (k : Nat) : (l.setIfInBounds i true).getD k false = if k = i then true else l.getD k false := by
  by_cases e : k = i
  · subst e
    rw [if_pos rfl]
    exact seen_self h
  · rw [if_neg e]
    exact getD_set_ne false (Ne.symm e)
/-- What has come, in the words of RegI. -/
def reL (l : Array Bool) : Array Bool := #[false, l.getD 0 false, false, l.getD 4 false, l.getD 5 false, l.getD 6 false, l.getD 7 false, l.getD 8 false, l.getD 9 false, l.getD 10 false, l.getD 11 false]
theorem reL_new (k : Nat) : reL (Array.replicate k false) = Array.replicate 11 false := by
  have h : ∀ j, (Array.replicate k false).getD j false = false := fun j => by
    have := seen_none k j
    unfold seen at this
    simpa using this
  simp only [reL, h]
  rfl
theorem reL_0 {l : Array Bool} (h : l.getD 0 true = false) : reL (l.setIfInBounds 0 true) = (reL l).setIfInBounds 1 true := by
  simp only [reL, getD_put h]
  simp
theorem reL_n0 {l : Array Bool} (h : l.getD 0 true = false) : (reL l).getD 1 true = false := by
  have := not_seen h
  unfold seen at this
  show l.getD 0 false = false
  simpa using this
theorem reL_s0 {l : Array Bool} (h : seen l 0) : seen (reL l) 1 := h
theorem reL_4 {l : Array Bool} (h : l.getD 4 true = false) : reL (l.setIfInBounds 4 true) = (reL l).setIfInBounds 3 true := by
  simp only [reL, getD_put h]
  simp
theorem reL_n4 {l : Array Bool} (h : l.getD 4 true = false) : (reL l).getD 3 true = false := by
  have := not_seen h
  unfold seen at this
  show l.getD 4 false = false
  simpa using this
theorem reL_s4 {l : Array Bool} (h : seen l 4) : seen (reL l) 3 := h
theorem reL_5 {l : Array Bool} (h : l.getD 5 true = false) : reL (l.setIfInBounds 5 true) = (reL l).setIfInBounds 4 true := by
  simp only [reL, getD_put h]
  simp
theorem reL_n5 {l : Array Bool} (h : l.getD 5 true = false) : (reL l).getD 4 true = false := by
  have := not_seen h
  unfold seen at this
  show l.getD 5 false = false
  simpa using this
theorem reL_s5 {l : Array Bool} (h : seen l 5) : seen (reL l) 4 := h
theorem reL_6 {l : Array Bool} (h : l.getD 6 true = false) : reL (l.setIfInBounds 6 true) = (reL l).setIfInBounds 5 true := by
  simp only [reL, getD_put h]
  simp
theorem reL_n6 {l : Array Bool} (h : l.getD 6 true = false) : (reL l).getD 5 true = false := by
  have := not_seen h
  unfold seen at this
  show l.getD 6 false = false
  simpa using this
theorem reL_s6 {l : Array Bool} (h : seen l 6) : seen (reL l) 5 := h
theorem reL_7 {l : Array Bool} (h : l.getD 7 true = false) : reL (l.setIfInBounds 7 true) = (reL l).setIfInBounds 6 true := by
  simp only [reL, getD_put h]
  simp
theorem reL_n7 {l : Array Bool} (h : l.getD 7 true = false) : (reL l).getD 6 true = false := by
  have := not_seen h
  unfold seen at this
  show l.getD 7 false = false
  simpa using this
theorem reL_s7 {l : Array Bool} (h : seen l 7) : seen (reL l) 6 := h
theorem reL_8 {l : Array Bool} (h : l.getD 8 true = false) : reL (l.setIfInBounds 8 true) = (reL l).setIfInBounds 7 true := by
  simp only [reL, getD_put h]
  simp
theorem reL_n8 {l : Array Bool} (h : l.getD 8 true = false) : (reL l).getD 7 true = false := by
  have := not_seen h
  unfold seen at this
  show l.getD 8 false = false
  simpa using this
theorem reL_s8 {l : Array Bool} (h : seen l 8) : seen (reL l) 7 := h
theorem reL_9 {l : Array Bool} (h : l.getD 9 true = false) : reL (l.setIfInBounds 9 true) = (reL l).setIfInBounds 8 true := by
  simp only [reL, getD_put h]
  simp
theorem reL_n9 {l : Array Bool} (h : l.getD 9 true = false) : (reL l).getD 8 true = false := by
  have := not_seen h
  unfold seen at this
  show l.getD 9 false = false
  simpa using this
theorem reL_s9 {l : Array Bool} (h : seen l 9) : seen (reL l) 8 := h
theorem reL_10 {l : Array Bool} (h : l.getD 10 true = false) : reL (l.setIfInBounds 10 true) = (reL l).setIfInBounds 9 true := by
  simp only [reL, getD_put h]
  simp
theorem reL_n10 {l : Array Bool} (h : l.getD 10 true = false) : (reL l).getD 9 true = false := by
  have := not_seen h
  unfold seen at this
  show l.getD 10 false = false
  simpa using this
theorem reL_s10 {l : Array Bool} (h : seen l 10) : seen (reL l) 9 := h
theorem reL_11 {l : Array Bool} (h : l.getD 11 true = false) : reL (l.setIfInBounds 11 true) = (reL l).setIfInBounds 10 true := by
  simp only [reL, getD_put h]
  simp
theorem reL_n11 {l : Array Bool} (h : l.getD 11 true = false) : (reL l).getD 10 true = false := by
  have := not_seen h
  unfold seen at this
  show l.getD 11 false = false
  simpa using this
theorem reL_s11 {l : Array Bool} (h : seen l 11) : seen (reL l) 10 := h
theorem reL_1 {l : Array Bool} (h : l.getD 1 true = false) : reL (l.setIfInBounds 1 true) = reL l := by
  simp only [reL, getD_put h]
  simp
theorem reL_2 {l : Array Bool} (h : l.getD 2 true = false) : reL (l.setIfInBounds 2 true) = reL l := by
  simp only [reL, getD_put h]
  simp
theorem reL_3 {l : Array Bool} (h : l.getD 3 true = false) : reL (l.setIfInBounds 3 true) = reL l := by
  simp only [reL, getD_put h]
  simp
end Go.Proofs.Ytbgmjcfnehnicaa

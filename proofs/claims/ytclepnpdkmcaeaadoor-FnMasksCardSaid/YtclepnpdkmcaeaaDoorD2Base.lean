/- Draws: opening an argument of type []byte; DrawDomainNear. -/
import Derived.Test.YtclepnpdkmcaeaaDoorD1Base
import Derived.Test.YtclepnpdkmcaeaaDoorOpen
namespace Go.Proofs.YtclepnpdkmcaeaaDoor
open Go.ChangeShapes Go.WideShapes Go.ChangeAt Go.RowKit Go.Deep
section
variable {H : Type} {enc : TypeId × Value → H} {w : World} {base : Nat} {spare : Nat → Bool} {held : Bool}
theorem open_lawsBytes {W : World} {r : Reach} {b0 : Nat} {v0 : Value} {d : DataW H} {p : List MemPlace} (hv : Value.okWide Tryd.prog W r b0 27 v0) (h : DataW.Trod enc Tryd.prog w base spare held 27 v0 d p) :
    ∃ (A : Option Addr) (n c : Nat) (z : Nat → Int), v0 = .slice A n c ∧ n ≤ c ∧ (c : Int) ≤ 9223372036854775807 ∧ Rw w w.heap.size A n (fun i => .int .u8 (z i)) ∧ (∀ i, i < n → 0 ≤ z i ∧ z i ≤ 255) := by
  obtain ⟨a0, len0, cap0, rfl⟩ := okWide_slice Tryd.underlying27 hv
  obtain ⟨fuel, hf⟩ := h
  have hf2 : DataW.trod enc Tryd.prog w base spare held fuel 27 [.slice a0 len0 cap0] = some (d, p) := by simpa [Value.cells] using hf
  rcases open_slice1 Tryd.underlying27 (show Tryd.prog.cellsOf 5 = 1 by kernel_rfl) hf2 with ⟨hcs, _⟩ | ⟨a, len, cap, m, n, V, D, Pl, hcs, _, hl, hm, hmm, _, hV⟩
  · simp at hcs
    obtain ⟨rfl, rfl, rfl⟩ := hcs
    exact ⟨none, 0, 0, fun _ => 0, rfl, Nat.le_refl _, by omega, fun h => absurd h (by omega), fun i hi => by omega⟩
  · simp at hcs
    obtain ⟨rfl, rfl, rfl⟩ := hcs
    unfold maxLen at hm
    have hlm : len0 ≤ m := by rw [hmm]; split <;> omega
    have hex : ∀ i, i < len0 → ∃ x : Int, w.cell? (a.add i) = some (.int .u8 x) ∧ (Lit.int .u8 x).wf = true := fun i hi => by
      obtain ⟨h1, h2⟩ := hV i (by omega)
      obtain ⟨x, hx, _, hw⟩ := DataW.trod_int Tryd.underlying5 h2
      exact ⟨x, by rw [h1]; simpa using hx, hw⟩
    obtain ⟨f, hf3⟩ := choose_lt (α := Int) (n := len0) (p := fun i z => w.cell? (a.add i) = some (.int .u8 z) ∧ (Lit.int .u8 z).wf = true) hex
    refine ⟨some a, len0, cap0, f, rfl, hl, by omega, fun h0 => ?_, fun i hi => ?_⟩
    · have h00 := (hf3 0 h0).1
      have hsp : a.spot = none := by simpa [Addr.add] using World.cell?_spot h00
      have hb : a.block < w.heap.size := by simpa [Addr.add] using block_lt h00
      obtain ⟨b, o, s⟩ := a
      simp only at hsp hb
      subst hsp
      refine ⟨b, o, rfl, hb, fun i hi => ?_⟩
      have := (hf3 i hi).1
      by_cases hi0 : i = 0
      · subst hi0; simpa [Addr.add] using this
      · simpa [Addr.add, hi0] using this
    · have := (hf3 i hi).2
      simp only [Lit.wf, Bool.and_eq_true, decide_eq_true_eq] at this
      have e1 : IntKind.u8.min = 0 := rfl
      have e2 : IntKind.u8.max = 255 := rfl
      omega
end
end Go.Proofs.YtclepnpdkmcaeaaDoor

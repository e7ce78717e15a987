/- Draws: opening an argument of type []byte; DrawDomainNear. -/
import Derived.Test.YtipopjkikahjpabD1Base
import Derived.Test.YtipopjkikahjpabOpen
namespace Go.Proofs.Ytipopjkikahjpab
open Go.ChangeShapes Go.WideShapes Go.ChangeAt Go.RowKit Go.Deep
section
variable {H : Type} {enc : TypeId × Value → H} {w : World} {base : Nat} {spare : Nat → Bool} {held : Bool}
theorem open_lawsBytes {W : World} {r : Reach} {b0 : Nat} {v0 : Value} {d : DataW H} {p : List MemPlace} (hv : Value.okWide Try.prog W r b0 24 v0) (h : DataW.Trod enc Try.prog w base spare held 24 v0 d p) :
    ∃ (A : Option Addr) (n c : Nat) (z : Nat → Int), v0 = .slice A n c ∧ n ≤ c ∧ (c : Int) ≤ 9223372036854775807 ∧ Rw w w.heap.size A n (fun i => .int .u8 (z i)) ∧ (∀ i, i < n → 0 ≤ z i ∧ z i ≤ 255) := by
  obtain ⟨a0, len0, cap0, rfl⟩ := okWide_slice Try.underlying24 hv
  obtain ⟨fuel, hf⟩ := h
  have hf2 : DataW.trod enc Try.prog w base spare held fuel 24 [.slice a0 len0 cap0] = some (d, p) := by simpa [Value.cells] using hf
  rcases open_slice1 Try.underlying24 (show Try.prog.cellsOf 5 = 1 by kernel_rfl) hf2 with ⟨hcs, _⟩ | ⟨a, len, cap, m, n, V, D, Pl, hcs, _, hl, hm, hmm, _, hV⟩
  · simp at hcs
    obtain ⟨rfl, rfl, rfl⟩ := hcs
    exact ⟨none, 0, 0, fun _ => 0, rfl, Nat.le_refl _, by omega, fun h => absurd h (by omega), fun i hi => by omega⟩
  · simp at hcs
    obtain ⟨rfl, rfl, rfl⟩ := hcs
    unfold maxLen at hm
    have hlm : len0 ≤ m := by rw [hmm]; split <;> omega
    have hex : ∀ i, i < len0 → ∃ x : Int, w.cell? (a.add i) = some (.int .u8 x) ∧ (Lit.int .u8 x).wf = true := fun i hi => by
      obtain ⟨h1, h2⟩ := hV i (by omega)
      obtain ⟨x, hx, _, hw⟩ := DataW.trod_int Try.underlying5 h2
      exact ⟨x, by rw [h1]; simpa using hx, hw⟩
    obtain ⟨f, hf3⟩ := choose_lt (α := Int) (n := len0) (p := fun i z => w.cell? (a.add i) = some (.int .u8 z) ∧ (Lit.int .u8 z).wf = true) hex
    refine ⟨some a, len0, cap0, f, rfl, hl, by omega, fun h0 => ?_, fun i hi => ?_⟩
    · have h00 := (hf3 0 h0).1
      have hsp : a.spot = none := by simpa [Addr.add] using World.cell?_spot h00
      have hb : a.block < w.heap.size := by simpa [Addr.add] using block_lt h00
      obtain ⟨b, o, s⟩ := a
      simp only at hsp hb
      subst hsp
      refine ⟨b, o, rfl, hb, fun i hi => ?_⟩
      have := (hf3 i hi).1
      by_cases hi0 : i = 0
      · subst hi0; simpa [Addr.add] using this
      · simpa [Addr.add, hi0] using this
    · have := (hf3 i hi).2
      simp only [Lit.wf, Bool.and_eq_true, decide_eq_true_eq] at this
      have e1 : IntKind.u8.min = 0 := rfl
      have e2 : IntKind.u8.max = 255 := rfl
      omega
end
def Draw3P (w : World) (e : Ending) (w' : World) : Prop := ∃ a b c : Int, e = .returned (.tuple #[.int .i64 a, .int .i64 b, .int .i64 c]) ∧ -1 ≤ a ∧ a ≤ 5 ∧ -1 ≤ b ∧ b ≤ 4 ∧ -1 ≤ c ∧ c ≤ 4 ∧ Below w.heap.size w w'
set_option maxHeartbeats 400000 in
theorem drawDomainNear_any (A : Option Addr) (n c : Nat) (hn : (n : Int) ≤ 1048576) (hc : n ≤ c) (hc2 : (c : Int) ≤ 9223372036854775807) (z : Nat → Int) (w W : World) (hb : Below W.heap.size W w) (hA : Rw W W.heap.size A n (fun i => .int .u8 (z i))) (hz : ∀ i, i < n → 0 ≤ z i ∧ z i ≤ 255) :
    Calls Try.prog 17 #[.slice A n c] w (Draw3P w) := by
  have HA := Lib.hid hA
  have HZ := Lib.hid hz
  clear hA hz
  go_enter Try.func17, Try.ntmps17
  go_wp2_with fail
  refine (l20Open_any A n c hn hc hc2 z w W hb HA.out HZ.out).mono ?_
  rintro e w1 ⟨rfl, hr1, hb1⟩
  have HR1 := Lib.hid hr1
  have HB1 := Lib.hid hb1
  clear hr1 hb1
  go_wp2_with fail
  refine (pick_any w.heap.size 0 7 (by omega) (by omega) (by omega) (by omega) w1 HR1.out).mono ?_
  rintro e w2 ⟨v1, rfl, a1, a2, hr2, hk2⟩
  have HR2 := Lib.hid hr2
  have HB2 := Lib.hid (HB1.out.trans (hk2.below HB1.out.size (fun j hj => by unfold isG at hj; omega)))
  clear hr2 hk2 HR1 HB1
  go_wp2_with fail
  refine (pick_any w.heap.size _ 6 (by omega) (by omega) (by omega) (by omega) w2 HR2.out).mono ?_
  rintro e w3 ⟨v2, rfl, a3, a4, hr3, hk3⟩
  have HR3 := Lib.hid hr3
  have HB3 := Lib.hid (HB2.out.trans (hk3.below HB2.out.size (fun j hj => by unfold isG at hj; omega)))
  clear hr3 hk3 HR2 HB2
  go_wp2_with fail
  refine (pick_any w.heap.size _ 6 (by omega) (by omega) (by omega) (by omega) w3 HR3.out).mono ?_
  rintro e w4 ⟨v3, rfl, a5, a6, hr4, hk4⟩
  have HB4 := Lib.hid (HB3.out.trans (hk4.below HB3.out.size (fun j hj => by unfold isG at hj; omega)))
  clear hr4 hk4 HR3 HB3
  go_wp2
  go_ret3
  exact ⟨_, _, _, rfl, by omega, by omega, by omega, by omega, by omega, by omega, HB4.out⟩
end Go.Proofs.Ytipopjkikahjpab

/- Opening an argument of type []int. -/
import Derived.Test.YtjdlfldeoinbiaaOpen
namespace Go.Proofs.Ytjdlfldeoinbiaa
open Go.ChangeShapes Go.WideShapes Go.ChangeAt Go.RowKit Go.Deep
theorem open_lawsInts {H : Type} {enc : TypeId × Value → H} {w : World} {base : Nat} {spare : Nat → Bool} {held : Bool} {W : World} {r : Reach} {b0 : Nat} {v0 : Value} {d : DataW H} {p : List MemPlace} (hv : Value.okWide Try.prog W r b0 35 v0) (h : DataW.Trod enc Try.prog w base spare held 35 v0 d p) :
    ∃ (A : Option Addr) (n c : Nat) (f : Nat → Int), v0 = .slice A n c ∧ (n : Int) ≤ 9223372036854775807 ∧ Rw w w.heap.size A n (fun i => .int .i64 (f i)) := by
  obtain ⟨a, len, cap, rfl⟩ := okWide_slice Try.underlying35 hv
  obtain ⟨fuel, hf⟩ := h
  exact open_ints1 Try.underlying35 (by kernel_rfl) Try.underlying3 (by simpa [Value.cells] using hf)
end Go.Proofs.Ytjdlfldeoinbiaa

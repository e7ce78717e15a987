/- Queues: opening an argument of the law's type Queue. -/
import Derived.Test.YtjdlfldeoinbiaaQ6Base
import Derived.Test.YtjdlfldeoinbiaaOpen2
namespace Go.Proofs.Ytjdlfldeoinbiaa
open Go.ChangeShapes Go.WideShapes Go.ChangeAt Go.RowKit Go.Deep
theorem cellsInt : Try.prog.cellsOf 3 = 1 := by kernel_rfl
theorem cellsBool : Try.prog.cellsOf 4 = 1 := by kernel_rfl
theorem cellsLEntries : Try.prog.cellsOf 22 = 1 := by kernel_rfl
theorem cellsLEntry : Try.prog.cellsOf 59 = 4 := by kernel_rfl
theorem cellsLQueue : Try.prog.cellsOf 24 = 4 := by kernel_rfl
section
variable {H : Type} {enc : TypeId × Value → H} {w : World} {base : Nat} {spare : Nat → Bool} {held : Bool}
/-- An entry's cells. -/
def entC (z : Bool × Int × Int × Int) : List Value := [.bool z.1, .int .i64 z.2.1, .int .i64 z.2.2.1, .int .i64 z.2.2.2]
theorem open_entryCells {fuel : Nat} {cs : List Value} {x : DataW H × List MemPlace} (hl : cs.length = 4) (h : DataW.trod enc Try.prog w base spare held fuel 59 cs = some x) : ∃ z, cs = entC z := by
  match cs, hl with
  | [c0, c1, c2, c3], _ =>
    obtain ⟨k, hf⟩ := open_field Try.underlying59 h
    obtain ⟨y0, h0⟩ := hf 0 _ rfl 4 0 1 rfl rfl cellsBool
    obtain ⟨y1, h1⟩ := hf 1 _ rfl 3 1 1 rfl rfl cellsInt
    obtain ⟨y2, h2⟩ := hf 2 _ rfl 3 2 1 rfl rfl cellsInt
    obtain ⟨y3, h3⟩ := hf 3 _ rfl 3 3 1 rfl rfl cellsInt
    simp only [List.drop_zero, List.drop_succ_cons, List.take_succ_cons, List.take_zero] at h0 h1 h2 h3
    obtain ⟨q0, e0, _⟩ := DataW.trod_bool Try.underlying4 h0
    obtain ⟨q1, e1, _⟩ := DataW.trod_int Try.underlying3 h1
    obtain ⟨q2, e2, _⟩ := DataW.trod_int Try.underlying3 h2
    obtain ⟨q3, e3, _⟩ := DataW.trod_int Try.underlying3 h3
    simp only [List.cons.injEq, and_true] at e0 e1 e2 e3
    subst e0 e1 e2 e3
    exact ⟨(q0, q1, q2, q3), rfl⟩
theorem open_queueCells {fuel : Nat} {cs : List Value} {x : DataW H × List MemPlace} (hl : cs.length = 4) (h : DataW.trod enc Try.prog w base spare held fuel 24 cs = some x) :
    ∃ (fl cu ra : Int) (A : Option Addr) (n c : Nat) (on : Nat → Bool) (v x s : Nat → Int), cs = [.int .i64 fl, .int .i64 cu, .int .i64 ra, .slice A n c] ∧
      (n : Int) ≤ 9223372036854775807 ∧ Rs w w.heap.size A n 4 (ent on v x s) := by
  match cs, hl with
  | [c0, c1, c2, c3], _ =>
    obtain ⟨k, hf⟩ := open_field Try.underlying24 h
    obtain ⟨y0, h0⟩ := hf 0 _ rfl 3 0 1 rfl rfl cellsInt
    obtain ⟨y1, h1⟩ := hf 1 _ rfl 3 1 1 rfl rfl cellsInt
    obtain ⟨y2, h2⟩ := hf 2 _ rfl 3 2 1 rfl rfl cellsInt
    obtain ⟨y3, h3⟩ := hf 3 _ rfl 22 3 1 rfl rfl cellsLEntries
    simp only [List.drop_zero, List.drop_succ_cons, List.take_succ_cons, List.take_zero] at h0 h1 h2 h3
    obtain ⟨q0, e0, _⟩ := DataW.trod_int Try.underlying3 h0
    obtain ⟨q1, e1, _⟩ := DataW.trod_int Try.underlying3 h1
    obtain ⟨q2, e2, _⟩ := DataW.trod_int Try.underlying3 h2
    obtain ⟨A, n, c, f, hA, hn, hr⟩ := open_rows (el := entC) Try.underlying22 cellsLEntry (by omega) (fun _ _ _ hl hy => open_entryCells hl hy) h3
    simp only [List.cons.injEq, and_true] at e0 e1 e2
    subst e0 e1 e2 hA
    exact ⟨q0, q1, q2, A, n, c, fun i => (f i).1, fun i => (f i).2.1, fun i => (f i).2.2.1, fun i => (f i).2.2.2, rfl, hn, hr⟩
theorem open_lawsQueue {W : World} {r : Reach} {b0 : Nat} {v0 : Value} {d : DataW H} {p : List MemPlace} (hv : Value.okWide Try.prog W r b0 24 v0) (h : DataW.Trod enc Try.prog w base spare held 24 v0 d p) :
    ∃ (fl cu ra : Int) (A : Option Addr) (n c : Nat) (on : Nat → Bool) (v x s : Nat → Int), v0 = .agg #[.int .i64 fl, .int .i64 cu, .int .i64 ra, .slice A n c] ∧
      (n : Int) ≤ 9223372036854775807 ∧ Rs w w.heap.size A n 4 (ent on v x s) := by
  obtain ⟨cs, rfl, hsz⟩ := okWide_struct Try.underlying24 hv
  obtain ⟨fuel, hf⟩ := h
  obtain ⟨fl, cu, ra, A, n, c, on, v, x, s, he, h1⟩ := open_queueCells (cs := cs.toList) (by simpa [cellsLQueue] using hsz) (by simpa [Value.cells] using hf)
  refine ⟨fl, cu, ra, A, n, c, on, v, x, s, ?_, h1⟩
  rw [← he]
end
end Go.Proofs.Ytjdlfldeoinbiaa

/- Bands: opening an argument of the law's type Band. -/
import Derived.Test.YtbgmjcfnehnicaaB3Base
import Derived.Test.YtbgmjcfnehnicaaOpen
namespace Go.Proofs.Ytbgmjcfnehnicaa
open Go.ChangeShapes Go.WideShapes Go.ChangeAt Go.RowKit Go.Deep
theorem cellsInt : Try.prog.cellsOf 3 = 1 := by kernel_rfl
theorem cellsBool : Try.prog.cellsOf 4 = 1 := by kernel_rfl
theorem cellsInts : Try.prog.cellsOf 22 = 1 := by kernel_rfl
theorem cellsBools : Try.prog.cellsOf 23 = 1 := by kernel_rfl
theorem cellsLBand : Try.prog.cellsOf 31 = 5 := by kernel_rfl
section
variable {H : Type} {enc : TypeId × Value → H} {w : World} {base : Nat} {spare : Nat → Bool} {held : Bool}
theorem open_bandCells {fuel : Nat} {cs : List Value} {x : DataW H × List MemPlace} (hl : cs.length = 5) (h : DataW.trod enc Try.prog w base spare held fuel 31 cs = some x) :
    ∃ (q p s : Int) (A A' : Option Addr) (n m c c' : Nat) (f : Nat → Int) (f' : Nat → Bool), cs = [.int .i64 q, .int .i64 p, .int .i64 s, .slice A n c, .slice A' m c'] ∧
      (n : Int) ≤ 9223372036854775807 ∧ (m : Int) ≤ 9223372036854775807 ∧ Rw w w.heap.size A n (fun i => .int .i64 (f i)) ∧ Rw w w.heap.size A' m (fun i => .bool (f' i)) := by
  match cs, hl with
  | [c0, c1, c2, c3, c4], _ =>
    obtain ⟨k, hf⟩ := open_field Try.underlying31 h
    obtain ⟨y0, h0⟩ := hf 0 _ rfl 3 0 1 rfl rfl cellsInt
    obtain ⟨y1, h1⟩ := hf 1 _ rfl 3 1 1 rfl rfl cellsInt
    obtain ⟨y2, h2⟩ := hf 2 _ rfl 3 2 1 rfl rfl cellsInt
    obtain ⟨y3, h3⟩ := hf 3 _ rfl 22 3 1 rfl rfl cellsInts
    obtain ⟨y4, h4⟩ := hf 4 _ rfl 23 4 1 rfl rfl cellsBools
    simp only [List.drop_zero, List.drop_succ_cons, List.take_succ_cons, List.take_zero] at h0 h1 h2 h3 h4
    obtain ⟨q, hq, _⟩ := DataW.trod_int Try.underlying3 h0
    obtain ⟨p, hp, _⟩ := DataW.trod_int Try.underlying3 h1
    obtain ⟨s, hs, _⟩ := DataW.trod_int Try.underlying3 h2
    obtain ⟨A, n, c, f, hA, hn, hr⟩ := open_ints1 Try.underlying22 cellsInt Try.underlying3 h3
    obtain ⟨A', m, c', f', hA', hm, hr'⟩ := open_bools1 Try.underlying23 cellsBool Try.underlying4 h4
    simp only [List.cons.injEq, and_true] at hq hp hs
    subst hq hp hs hA hA'
    exact ⟨q, p, s, A, A', n, m, c, c', f, f', rfl, hn, hm, hr, hr'⟩
theorem open_lawsBand {W : World} {r : Reach} {b0 : Nat} {v : Value} {d : DataW H} {p : List MemPlace} (hv : Value.okWide Try.prog W r b0 31 v) (h : DataW.Trod enc Try.prog w base spare held 31 v d p) :
    ∃ (q p s : Int) (A A' : Option Addr) (n m c c' : Nat) (f : Nat → Int) (f' : Nat → Bool), v = .agg #[.int .i64 q, .int .i64 p, .int .i64 s, .slice A n c, .slice A' m c'] ∧
      (n : Int) ≤ 9223372036854775807 ∧ (m : Int) ≤ 9223372036854775807 ∧ Rw w w.heap.size A n (fun i => .int .i64 (f i)) ∧ Rw w w.heap.size A' m (fun i => .bool (f' i)) := by
  obtain ⟨cs, rfl, hsz⟩ := okWide_struct Try.underlying31 hv
  obtain ⟨fuel, hf⟩ := h
  obtain ⟨q, p, s, A, A', n, m, c, c', f, f', he, h1⟩ := open_bandCells (cs := cs.toList) (by simpa [cellsLBand] using hsz) (by simpa [Value.cells] using hf)
  refine ⟨q, p, s, A, A', n, m, c, c', f, f', ?_, h1⟩
  rw [← he]
end
end Go.Proofs.Ytbgmjcfnehnicaa

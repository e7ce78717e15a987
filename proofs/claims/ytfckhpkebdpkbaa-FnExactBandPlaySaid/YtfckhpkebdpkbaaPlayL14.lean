/-
  Bands: opening an argument of the law's type Band.
-/
import Derived.Test.YtfckhpkebdpkbaaPlayL5
import Derived.Test.YtfckhpkebdpkbaaPlayL13
namespace Go.Proofs.Ytfckhpkebdpkbaa
open Go.ChangeShapes Go.WideShapes Go.ChangeAt Go.RowKit Go.Deep
theorem cellsInt : Try.prog.cellsOf 3 = 1 := by kernel_rfl
theorem cellsBool : Try.prog.cellsOf 4 = 1 := by kernel_rfl
theorem cellsInts : Try.prog.cellsOf 22 = 1 := by kernel_rfl
theorem cellsBools : Try.prog.cellsOf 23 = 1 := by kernel_rfl
theorem cellsLBand : Try.prog.cellsOf 25 = 5 := by kernel_rfl
section
variable {H : Type} {enc : TypeId × Value → H} {w : World} {base : Nat} {spare : Nat → Bool} {held : Bool}
theorem open_bandCells {fuel : Nat} {cs : List Value} {x : DataW H × List MemPlace} (hl : cs.length = 5) (h : DataW.trod enc Try.prog w base spare held fuel 25 cs = some x) :
    ∃ (q p s : Int) (A A' : Option Addr) (n m c c' : Nat) (f : Nat → Int) (f' : Nat → Bool), cs = [.int .i64 q, .int .i64 p, .int .i64 s, .slice A n c, .slice A' m c'] ∧
      (n : Int) ≤ 9223372036854775807 ∧ (m : Int) ≤ 9223372036854775807 ∧ Rw w w.heap.size A n (fun i => .int .i64 (f i)) ∧ Rw w w.heap.size A' m (fun i => .bool (f' i)) := by
  match cs, hl with
  | [c0, c1, c2, c3, c4], _ =>
    obtain ⟨k, hf⟩ := open_field Try.underlying25 h
    obtain ⟨y0, h0⟩ := hf 0 _ rfl 3 0 1 rfl rfl cellsInt
    obtain ⟨y1, h1⟩ := hf 1 _ rfl 3 1 1 rfl rfl cellsInt
    obtain ⟨y2, h2⟩ := hf 2 _ rfl 3 2 1 rfl rfl cellsInt
    obtain ⟨y3, h3⟩ := hf 3 _ rfl 22 3 1 rfl rfl cellsInts
    obtain ⟨y4, h4⟩ := hf 4 _ rfl 23 4 1 rfl rfl cellsBools
    simp only [List.drop_zero, List.drop_succ_cons, List.take_succ_cons, List.take_zero] at h0 h1 h2 h3 h4
    obtain ⟨q, hq, _⟩ := DataW.trod_int Try.underlying3 h0
    obtain ⟨p, hp, _⟩ := DataW.trod_int Try.underlying3 h1
    obtain ⟨s, hs, _⟩ := DataW.trod_int Try.underlying3 h2
    obtain ⟨A, n, c, f, hA, hn, hr⟩ := open_ints1 Try.underlying22 cellsInt Try.underlying3 h3
    obtain ⟨A', m, c', f', hA', hm, hr'⟩ := open_bools1 Try.underlying23 cellsBool Try.underlying4 h4
    simp only [List.cons.injEq, and_true] at hq hp hs
    subst hq hp hs hA hA'
    exact ⟨q, p, s, A, A', n, m, c, c', f, f', rfl, hn, hm, hr, hr'⟩
set_option maxRecDepth 100000 in
theorem open_lawsBand {W : World} {r : Reach} {b0 : Nat} {v : Value} {d : DataW H} {p : List MemPlace} (hv : Value.okWide Try.prog W r b0 25 v) (h : DataW.Trod enc Try.prog w base spare held 25 v d p) :
    ∃ (q p s : Int) (A A' : Option Addr) (n m c c' : Nat) (f : Nat → Int) (f' : Nat → Bool), v = .agg #[.int .i64 q, .int .i64 p, .int .i64 s, .slice A n c, .slice A' m c'] ∧
      (n : Int) ≤ 9223372036854775807 ∧ (m : Int) ≤ 9223372036854775807 ∧ Rw w w.heap.size A n (fun i => .int .i64 (f i)) ∧ Rw w w.heap.size A' m (fun i => .bool (f' i)) := by
  obtain ⟨cs, rfl, hsz⟩ := okWide_struct Try.underlying25 hv
  obtain ⟨fuel, hf⟩ := h
  obtain ⟨q, p, s, A, A', n, m, c, c', f, f', he, h1⟩ := open_bandCells (cs := cs.toList) (by simpa [cellsLBand] using hsz) (by simpa [Value.cells] using hf)
  refine ⟨q, p, s, A, A', n, m, c, c', f, f', ?_, h1⟩
  rw [← he]
end
end Go.Proofs.Ytfckhpkebdpkbaa

/- Opening an argument of the law's type BandOp: three ints. -/
namespace Go.Proofs.Ytfckhpkebdpkbaa
open Go.ChangeShapes Go.WideShapes Go.ChangeAt Go.RowKit Go.Deep
theorem cellsLBandOp : Try.prog.cellsOf 52 = 3 := by kernel_rfl
section
variable {H : Type} {enc : TypeId × Value → H} {w : World} {base : Nat} {spare : Nat → Bool} {held : Bool}
theorem open_bandOpCells {fuel : Nat} {cs : List Value} {x : DataW H × List MemPlace} (hl : cs.length = 3) (h : DataW.trod enc Try.prog w base spare held fuel 52 cs = some x) :
    ∃ (q p s : Int), cs = [.int .i64 q, .int .i64 p, .int .i64 s] := by
  match cs, hl with
  | [c0, c1, c2], _ =>
    obtain ⟨k, hf⟩ := open_field Try.underlying52 h
    obtain ⟨y0, h0⟩ := hf 0 _ rfl 3 0 1 rfl rfl cellsInt
    obtain ⟨y1, h1⟩ := hf 1 _ rfl 3 1 1 rfl rfl cellsInt
    obtain ⟨y2, h2⟩ := hf 2 _ rfl 3 2 1 rfl rfl cellsInt
    simp only [List.drop_zero, List.drop_succ_cons, List.take_succ_cons, List.take_zero] at h0 h1 h2
    obtain ⟨q, hq, _⟩ := DataW.trod_int Try.underlying3 h0
    obtain ⟨p, hp, _⟩ := DataW.trod_int Try.underlying3 h1
    obtain ⟨s, hs, _⟩ := DataW.trod_int Try.underlying3 h2
    simp only [List.cons.injEq, and_true] at hq hp hs
    subst hq hp hs
    exact ⟨q, p, s, rfl⟩
set_option maxRecDepth 100000 in
theorem open_lawsBandOp {W : World} {r : Reach} {b0 : Nat} {v : Value} {d : DataW H} {p : List MemPlace} (hv : Value.okWide Try.prog W r b0 52 v) (h : DataW.Trod enc Try.prog w base spare held 52 v d p) :
    ∃ (a b c : Int), v = .agg #[.int .i64 a, .int .i64 b, .int .i64 c] ∧ True := by
  obtain ⟨cs, rfl, hsz⟩ := okWide_struct Try.underlying52 hv
  obtain ⟨fuel, hf⟩ := h
  obtain ⟨a, b, c, he⟩ := open_bandOpCells (cs := cs.toList) (by simpa [cellsLBandOp] using hsz) (by simpa [Value.cells] using hf)
  refine ⟨a, b, c, ?_, trivial⟩
  rw [← he]
end
end Go.Proofs.Ytfckhpkebdpkbaa

/- Opening an argument of the law's type []BandOp. -/
namespace Go.Proofs.Ytfckhpkebdpkbaa
open Go.ChangeShapes Go.WideShapes Go.ChangeAt Go.RowKit Go.Deep
section
variable {H : Type} {enc : TypeId × Value → H} {w : World} {base : Nat} {spare : Nat → Bool} {held : Bool}
set_option maxRecDepth 100000 in
theorem open_lawsBandOps {W : World} {r : Reach} {b0 : Nat} {v : Value} {d : DataW H} {p : List MemPlace} (hv : Value.okWide Try.prog W r b0 26 v) (h : DataW.Trod enc Try.prog w base spare held 26 v d p) :
    ∃ (A : Option Addr) (n c : Nat) (o1 o2 o3 : Nat → Int), v = .slice A n c ∧ (n : Int) ≤ 9223372036854775807 ∧ Rs w w.heap.size A n 3 (fun i => [.int .i64 (o1 i), .int .i64 (o2 i), .int .i64 (o3 i)]) := by
  obtain ⟨a, len, cap, rfl⟩ := okWide_slice Try.underlying26 hv
  obtain ⟨fuel, hf⟩ := h
  obtain ⟨A, n, c, f, hA, hn, hr⟩ := open_rows (α := Int × Int × Int) (el := fun z => [.int .i64 z.1, .int .i64 z.2.1, .int .i64 z.2.2]) Try.underlying26 cellsLBandOp (by omega) (fun n cs y hl h => by
    obtain ⟨q, p, s, e⟩ := open_bandOpCells hl h
    exact ⟨(q, p, s), e⟩) (by simpa [Value.cells] using hf)
  exact ⟨A, n, c, fun i => (f i).1, fun i => (f i).2.1, fun i => (f i).2.2, hA, hn, hr⟩
end
end Go.Proofs.Ytfckhpkebdpkbaa

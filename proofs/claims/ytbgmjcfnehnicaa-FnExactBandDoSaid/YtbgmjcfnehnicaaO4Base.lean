/- Opening an argument of the law's type BandOp: three ints. -/
import Derived.Test.YtbgmjcfnehnicaaB4Base
namespace Go.Proofs.Ytbgmjcfnehnicaa
open Go.ChangeShapes Go.WideShapes Go.ChangeAt Go.RowKit Go.Deep
theorem cellsLBandOp : Try.prog.cellsOf 47 = 3 := by kernel_rfl
section
variable {H : Type} {enc : TypeId × Value → H} {w : World} {base : Nat} {spare : Nat → Bool} {held : Bool}
theorem open_bandOpCells {fuel : Nat} {cs : List Value} {x : DataW H × List MemPlace} (hl : cs.length = 3) (h : DataW.trod enc Try.prog w base spare held fuel 47 cs = some x) :
    ∃ (q p s : Int), cs = [.int .i64 q, .int .i64 p, .int .i64 s] := by
  match cs, hl with
  | [c0, c1, c2], _ =>
    obtain ⟨k, hf⟩ := open_field Try.underlying47 h
    obtain ⟨y0, h0⟩ := hf 0 _ rfl 3 0 1 rfl rfl cellsInt
    obtain ⟨y1, h1⟩ := hf 1 _ rfl 3 1 1 rfl rfl cellsInt
    obtain ⟨y2, h2⟩ := hf 2 _ rfl 3 2 1 rfl rfl cellsInt
    simp only [List.drop_zero, List.drop_succ_cons, List.take_succ_cons, List.take_zero] at h0 h1 h2
    obtain ⟨q, hq, _⟩ := DataW.trod_int Try.underlying3 h0
    obtain ⟨p, hp, _⟩ := DataW.trod_int Try.underlying3 h1
    obtain ⟨s, hs, _⟩ := DataW.trod_int Try.underlying3 h2
    simp only [List.cons.injEq, and_true] at hq hp hs
    subst hq hp hs
    exact ⟨q, p, s, rfl⟩
theorem open_lawsBandOp {W : World} {r : Reach} {b0 : Nat} {v : Value} {d : DataW H} {p : List MemPlace} (hv : Value.okWide Try.prog W r b0 47 v) (h : DataW.Trod enc Try.prog w base spare held 47 v d p) :
    ∃ (a b c : Int), v = .agg #[.int .i64 a, .int .i64 b, .int .i64 c] ∧ True := by
  obtain ⟨cs, rfl, hsz⟩ := okWide_struct Try.underlying47 hv
  obtain ⟨fuel, hf⟩ := h
  obtain ⟨a, b, c, he⟩ := open_bandOpCells (cs := cs.toList) (by simpa [cellsLBandOp] using hsz) (by simpa [Value.cells] using hf)
  refine ⟨a, b, c, ?_, trivial⟩
  rw [← he]
end
end Go.Proofs.Ytbgmjcfnehnicaa

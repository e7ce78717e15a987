/- Trees: opening an argument of the law's type []Group. -/
import Derived.Test.YtclloljigdmdnaaG2Base
import Derived.Test.YtclloljigdmdnaaOpen2
namespace Go.Proofs.Ytclloljigdmdnaa
open Go.ChangeShapes Go.WideShapes Go.ChangeAt Go.RowKit Go.Deep
theorem cellsInt : Try.prog.cellsOf 3 = 1 := by kernel_rfl
theorem cellsBool : Try.prog.cellsOf 4 = 1 := by kernel_rfl
theorem cellsStr : Try.prog.cellsOf 9 = 1 := by kernel_rfl
theorem cellsInts : Try.prog.cellsOf 34 = 1 := by kernel_rfl
theorem cellsBools : Try.prog.cellsOf 39 = 1 := by kernel_rfl
theorem cellsLBand : Try.prog.cellsOf 41 = 5 := by kernel_rfl
theorem cellsLShelf : Try.prog.cellsOf 82 = 5 := by kernel_rfl
theorem cellsLShelves : Try.prog.cellsOf 42 = 1 := by kernel_rfl
theorem cellsLGroup : Try.prog.cellsOf 44 = 14 := by kernel_rfl
/-- Every number of a group is one. -/
structure GWf (g : GV) : Prop where
  pa : (Lit.int .i64 g.pa).wf = true
  we : (Lit.int .i64 g.we).wf = true
  cp : (Lit.int .i64 g.cp).wf = true
  pe : (Lit.int .i64 g.pe).wf = true
  ne : (Lit.int .i64 g.ne).wf = true
  su : (Lit.int .i64 g.su).wf = true
  qu : (Lit.int .i64 g.qu).wf = true
  po : (Lit.int .i64 g.po).wf = true
  sp : (Lit.int .i64 g.sp).wf = true
section
variable {H : Type} {enc : TypeId × Value → H} {w : World} {base : Nat} {spare : Nat → Bool} {held : Bool}
/-- A shelf's cells. -/
def shcC (z : Int × Bool × Int × Int × Int) : List Value := [.int .i64 z.1, .bool z.2.1, .int .i64 z.2.2.1, .int .i64 z.2.2.2.1, .int .i64 z.2.2.2.2]
theorem open_shelfCells {fuel : Nat} {cs : List Value} {x : DataW H × List MemPlace} (hl : cs.length = 5) (h : DataW.trod enc Try.prog w base spare held fuel 82 cs = some x) : ∃ z, cs = shcC z := by
  match cs, hl with
  | [c0, c1, c2, c3, c4], _ =>
    obtain ⟨k, hf⟩ := open_field Try.underlying82 h
    obtain ⟨y0, h0⟩ := hf 0 _ rfl 3 0 1 rfl rfl cellsInt
    obtain ⟨y1, h1⟩ := hf 1 _ rfl 4 1 1 rfl rfl cellsBool
    obtain ⟨y2, h2⟩ := hf 2 _ rfl 3 2 1 rfl rfl cellsInt
    obtain ⟨y3, h3⟩ := hf 3 _ rfl 3 3 1 rfl rfl cellsInt
    obtain ⟨y4, h4⟩ := hf 4 _ rfl 3 4 1 rfl rfl cellsInt
    simp only [List.drop_zero, List.drop_succ_cons, List.take_succ_cons, List.take_zero] at h0 h1 h2 h3 h4
    obtain ⟨q0, e0, _⟩ := DataW.trod_int Try.underlying3 h0
    obtain ⟨q1, e1, _⟩ := DataW.trod_bool Try.underlying4 h1
    obtain ⟨q2, e2, _⟩ := DataW.trod_int Try.underlying3 h2
    obtain ⟨q3, e3, _⟩ := DataW.trod_int Try.underlying3 h3
    obtain ⟨q4, e4, _⟩ := DataW.trod_int Try.underlying3 h4
    simp only [List.cons.injEq, and_true] at e0 e1 e2 e3 e4
    subst e0 e1 e2 e3 e4
    exact ⟨(q0, q1, q2, q3, q4), rfl⟩
theorem open_bandCells {fuel : Nat} {cs : List Value} {x : DataW H × List MemPlace} (hl : cs.length = 5) (h : DataW.trod enc Try.prog w base spare held fuel 41 cs = some x) :
    ∃ (q p s : Int) (A A' : Option Addr) (n m c c' : Nat) (f : Nat → Int) (f' : Nat → Bool), cs = [.int .i64 q, .int .i64 p, .int .i64 s, .slice A n c, .slice A' m c'] ∧
      (n : Int) ≤ 9223372036854775807 ∧ (m : Int) ≤ 9223372036854775807 ∧ Rw w w.heap.size A n (fun i => .int .i64 (f i)) ∧ Rw w w.heap.size A' m (fun i => .bool (f' i)) ∧ (Lit.int .i64 q).wf = true ∧ (Lit.int .i64 p).wf = true ∧ (Lit.int .i64 s).wf = true := by
  match cs, hl with
  | [c0, c1, c2, c3, c4], _ =>
    obtain ⟨k, hf⟩ := open_field Try.underlying41 h
    obtain ⟨y0, h0⟩ := hf 0 _ rfl 3 0 1 rfl rfl cellsInt
    obtain ⟨y1, h1⟩ := hf 1 _ rfl 3 1 1 rfl rfl cellsInt
    obtain ⟨y2, h2⟩ := hf 2 _ rfl 3 2 1 rfl rfl cellsInt
    obtain ⟨y3, h3⟩ := hf 3 _ rfl 34 3 1 rfl rfl cellsInts
    obtain ⟨y4, h4⟩ := hf 4 _ rfl 39 4 1 rfl rfl cellsBools
    simp only [List.drop_zero, List.drop_succ_cons, List.take_succ_cons, List.take_zero] at h0 h1 h2 h3 h4
    obtain ⟨q, hq, w0⟩ := DataW.trod_int Try.underlying3 h0
    obtain ⟨p, hp, w1⟩ := DataW.trod_int Try.underlying3 h1
    obtain ⟨s, hs, w2⟩ := DataW.trod_int Try.underlying3 h2
    obtain ⟨A, n, c, f, hA, hn, hr⟩ := open_ints1 Try.underlying34 cellsInt Try.underlying3 h3
    obtain ⟨A', m, c', f', hA', hm, hr'⟩ := open_bools1 Try.underlying39 cellsBool Try.underlying4 h4
    simp only [List.cons.injEq, and_true] at hq hp hs
    subst hq hp hs hA hA'
    exact ⟨q, p, s, A, A', n, m, c, c', f, f', rfl, hn, hm, hr, hr', w0.2, w1.2, w2.2⟩
/-- A group that was read. -/
def GSub (w : World) : Type := {x : GV × GH // GRd w w.heap.size x.1 x.2 ∧ GBig x.1 ∧ GWf x.1}
instance : Inhabited (GSub w) := ⟨⟨(default, default), ⟨fun h => absurd h (by decide), fun h => absurd h (by decide), fun h => absurd h (by decide)⟩, ⟨by decide, by decide, by decide, by decide⟩, ⟨by decide, by decide, by decide, by decide, by decide, by decide, by decide, by decide, by decide⟩⟩⟩
theorem open_groupCells {fuel : Nat} {cs : List Value} {x : DataW H × List MemPlace} (hl : cs.length = 14) (h : DataW.trod enc Try.prog w base spare held fuel 44 cs = some x) : ∃ z : GSub w, cs = grC z.1.1 z.1.2 := by
  match cs, hl with
  | [c0, c1, c2, c3, c4, c5, c6, c7, c8, c9, c10, c11, c12, c13], _ =>
    obtain ⟨k, hf⟩ := open_field Try.underlying44 h
    obtain ⟨y0, h0⟩ := hf 0 _ rfl 4 0 1 rfl rfl cellsBool
    obtain ⟨y1, h1⟩ := hf 1 _ rfl 3 1 1 rfl rfl cellsInt
    obtain ⟨y2, h2⟩ := hf 2 _ rfl 9 2 1 rfl rfl cellsStr
    obtain ⟨y3, h3⟩ := hf 3 _ rfl 3 3 1 rfl rfl cellsInt
    obtain ⟨y4, h4⟩ := hf 4 _ rfl 3 4 1 rfl rfl cellsInt
    obtain ⟨y5, h5⟩ := hf 5 _ rfl 3 5 1 rfl rfl cellsInt
    obtain ⟨y6, h6⟩ := hf 6 _ rfl 3 6 1 rfl rfl cellsInt
    obtain ⟨y7, h7⟩ := hf 7 _ rfl 3 7 1 rfl rfl cellsInt
    obtain ⟨y8, h8⟩ := hf 8 _ rfl 41 8 5 rfl rfl cellsLBand
    obtain ⟨y9, h9⟩ := hf 9 _ rfl 42 13 1 rfl rfl cellsLShelves
    simp only [List.drop_zero, List.drop_succ_cons, List.take_succ_cons, List.take_zero] at h0 h1 h2 h3 h4 h5 h6 h7 h8 h9
    obtain ⟨q0, e0, _⟩ := DataW.trod_bool Try.underlying4 h0
    obtain ⟨q1, e1, w1⟩ := DataW.trod_int Try.underlying3 h1
    obtain ⟨q2, e2, w2⟩ := DataW.trod_string Try.underlying9 h2
    obtain ⟨q3, e3, w3⟩ := DataW.trod_int Try.underlying3 h3
    obtain ⟨q4, e4, w4⟩ := DataW.trod_int Try.underlying3 h4
    obtain ⟨q5, e5, w5⟩ := DataW.trod_int Try.underlying3 h5
    obtain ⟨q6, e6, w6⟩ := DataW.trod_int Try.underlying3 h6
    obtain ⟨q7, e7, w7⟩ := DataW.trod_int Try.underlying3 h7
    obtain ⟨q, p, s, A, A', n, m, c, c', f, f', e8, hn, hm, hr, hr', wq, wp, ws⟩ := open_bandCells (cs := [c8, c9, c10, c11, c12]) rfl h8
    obtain ⟨A2, d, c2, f2, e9, hd, hr2⟩ := open_rows (el := shcC) Try.underlying42 cellsLShelf (by omega) (fun _ _ _ hl hy => open_shelfCells hl hy) h9
    simp only [List.cons.injEq, and_true] at e0 e1 e2 e3 e4 e5 e6 e7 e8
    obtain ⟨e8a, e8b, e8c, e8d, e8e⟩ := e8
    subst e0 e1 e2 e3 e4 e5 e6 e7 e8a e8b e8c e8d e8e e9
    refine ⟨⟨(⟨q0, q1, q2, q3, q4, q5, q6, q7, q, p, s, n, f, m, f', d, fun i => (f2 i).1, fun i => (f2 i).2.1, fun i => (f2 i).2.2.1, fun i => (f2 i).2.2.2.1, fun i => (f2 i).2.2.2.2⟩, ⟨A, c, A', c', A2, c2⟩), ⟨hr, hr', hr2⟩, ⟨?_, hn, hm, hd⟩, ⟨w1.2, w3.2, w4.2, w5.2, w6.2, w7.2, wq, wp, ws⟩⟩, rfl⟩
    have := w2.2
    unfold maxLen at this
    show (q2.size : Int) ≤ 9223372036854775807
    omega
theorem open_lawsGroups {W : World} {r : Reach} {b0 : Nat} {v0 : Value} {d : DataW H} {p : List MemPlace} (hv : Value.okWide Try.prog W r b0 22 v0) (h : DataW.Trod enc Try.prog w base spare held 22 v0 d p) :
    ∃ (A : Option Addr) (n c : Nat) (g : Nat → GV) (h : Nat → GH), v0 = .slice A n c ∧ (n : Int) ≤ 9223372036854775807 ∧ GsRd w w.heap.size A n g h ∧ (∀ i, GBig (g i)) ∧ ∀ i, GWf (g i) := by
  obtain ⟨a, len, cap, rfl⟩ := okWide_slice Try.underlying22 hv
  obtain ⟨fuel, hf⟩ := h
  obtain ⟨A, n, c, f, hA, hn, hr⟩ := open_rows (α := GSub w) (el := fun z => grC z.1.1 z.1.2) Try.underlying22 cellsLGroup (by omega) (fun _ _ _ hl hy => open_groupCells hl hy) (by simpa [Value.cells] using hf)
  exact ⟨A, n, c, fun i => (f i).1.1, fun i => (f i).1.2, hA, hn, ⟨hr, fun i _ => (f i).2.1⟩, fun i => (f i).2.2.1, fun i => (f i).2.2.2⟩
end
end Go.Proofs.Ytclloljigdmdnaa

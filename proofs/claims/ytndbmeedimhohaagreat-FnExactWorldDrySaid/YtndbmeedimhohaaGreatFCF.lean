/- Opening arguments: a slice of one-cell elements as a function of the index; a struct field by field. -/
import Derived.Test.YtndbmeedimhohaaGreatFCA
import Derived.ProofKit
import Derived.OpenShut
import Derived.ShutString
import Derived.ChangeOld
import Derived.Deep.Slices
import Derived.Deep.Fields
import Derived.ChangeSame
import Derived.Test.YtndbmeedimhohaaGreatFCB
import Derived.Test.YtndbmeedimhohaaGreatFG10Base
import Derived.Test.YtndbmeedimhohaaGreatFCC
import Derived.Test.YtndbmeedimhohaaGreatFB3Base
import Derived.Deep.RegionHeld3
namespace Go.Proofs.YtndbmeedimhohaaGreat
open Go.ChangeShapes Go.WideShapes Go.ChangeAt Go.RowKit Go.Deep
section
variable {H : Type} {enc : TypeId × Value → H} {P : Program} {w : World} {base : Nat} {spare : Nat → Bool} {held : Bool}
theorem block_lt {w : World} {a : Addr} {v : Value} (h : w.cell? a = some v) : a.block < w.heap.size := by
  by_cases hl : a.block < w.heap.size
  · exact hl
  · unfold World.cell? at h
    have hn : w.heap[a.block]? = none := Array.getElem?_eq_none (by omega)
    rw [hn] at h
    split at h <;> simp_all
/-- A slice whose elements are one cell each, read as g. -/
theorem open_row {t e : TypeId} {fuel : Nat} {v : Value} {x : DataW H × List MemPlace} {α : Type} {g : α → Value} [Inhabited α] (ht : P.underlying t = some (.slice e)) (hc : P.cellsOf e = 1)
    (hg : ∀ (n : Nat) (u : Value) (y : DataW H × List MemPlace), DataW.trod enc P w base spare held n e [u] = some y → ∃ a, u = g a) (h : DataW.trod enc P w base spare held fuel t [v] = some x) :
    ∃ (A : Option Addr) (n c : Nat) (f : Nat → α), v = .slice A n c ∧ (n : Int) ≤ 9223372036854775807 ∧ Rw w w.heap.size A n (fun i => g (f i)) := by
  rcases open_slice1 ht hc h with ⟨hcs, _⟩ | ⟨a, len, cap, m, n, V, D, Pl, hcs, _, hl, hm, hmm, _, hV⟩
  · obtain rfl : v = .slice none 0 0 := by simpa using hcs
    exact ⟨none, 0, 0, fun _ => default, rfl, by omega, fun h => absurd h (by omega)⟩
  · obtain rfl : v = .slice (some a) len cap := by simpa using hcs
    unfold maxLen at hm
    have hlm : len ≤ m := by rw [hmm]; split <;> omega
    have hex : ∀ i, i < len → ∃ z, w.cell? (a.add i) = some (g z) := fun i hi => by
      obtain ⟨h1, h2⟩ := hV i (by omega)
      obtain ⟨z, hz⟩ := hg n _ _ h2
      exact ⟨z, by rw [h1, hz]⟩
    obtain ⟨f, hf⟩ := choose_lt (α := α) (n := len) (p := fun i z => w.cell? (a.add i) = some (g z)) hex
    refine ⟨some a, len, cap, f, rfl, by omega, fun h0 => ?_⟩
    have h00 := hf 0 h0
    have hsp : a.spot = none := by simpa [Addr.add] using World.cell?_spot h00
    have hb : a.block < w.heap.size := by simpa [Addr.add] using block_lt h00
    obtain ⟨b, o, s⟩ := a
    simp only at hsp hb
    subst hsp
    refine ⟨b, o, rfl, hb, fun i hi => ?_⟩
    have := hf i hi
    by_cases hi0 : i = 0
    · subst hi0; simpa [Addr.add] using this
    · simpa [Addr.add, hi0] using this
theorem open_ints1 {t e : TypeId} {fuel : Nat} {v : Value} {x : DataW H × List MemPlace} (ht : P.underlying t = some (.slice e)) (hc : P.cellsOf e = 1) (he : P.underlying e = some (.int .i64)) (h : DataW.trod enc P w base spare held fuel t [v] = some x) :
    ∃ (A : Option Addr) (n c : Nat) (f : Nat → Int), v = .slice A n c ∧ (n : Int) ≤ 9223372036854775807 ∧ Rw w w.heap.size A n (fun i => .int .i64 (f i)) :=
  open_row (g := fun z : Int => Value.int .i64 z) ht hc (fun n u y hu => by
    obtain ⟨z, hz, _⟩ := DataW.trod_int he hu
    exact ⟨z, by simpa using hz⟩) h
theorem open_bools1 {t e : TypeId} {fuel : Nat} {v : Value} {x : DataW H × List MemPlace} (ht : P.underlying t = some (.slice e)) (hc : P.cellsOf e = 1) (he : P.underlying e = some .bool) (h : DataW.trod enc P w base spare held fuel t [v] = some x) :
    ∃ (A : Option Addr) (n c : Nat) (f : Nat → Bool), v = .slice A n c ∧ (n : Int) ≤ 9223372036854775807 ∧ Rw w w.heap.size A n (fun i => .bool (f i)) :=
  open_row (g := fun z : Bool => Value.bool z) ht hc (fun n u y hu => by
    obtain ⟨z, hz, _⟩ := DataW.trod_bool he hu
    exact ⟨z, by simpa using hz⟩) h
/-- A field of a struct: its own cells read. -/
theorem open_field {t : TypeId} {fs : Array Field} {fuel : Nat} {cs : List Value} {x : DataW H × List MemPlace} (ht : P.underlying t = some (.struct fs)) (h : DataW.trod enc P w base spare held fuel t cs = some x) :
    ∃ n, ∀ (j : Nat) (f : Field), fs[j]? = some f → ∀ (ty : TypeId) (off sz : Nat), f.type = ty → f.offset = off → P.cellsOf ty = sz → ∃ y, DataW.trod enc P w base spare held n ty ((cs.drop off).take sz) = some y := by
  obtain ⟨xs, n, _, _, _, hlen, hf⟩ := DataW.trod_struct ht h
  refine ⟨n, fun j f hj ty off sz h1 h2 h3 => ?_⟩
  have hjl : j < fs.size := (Array.getElem?_eq_some_iff.1 hj).1
  refine ⟨xs[j]'(by omega), ?_⟩
  subst h1 h2 h3
  rw [hf j f hj]
  exact List.getElem?_eq_getElem (by omega)
end
end Go.Proofs.YtndbmeedimhohaaGreat
namespace Go.Proofs.YtndbmeedimhohaaGreat
open Go.ChangeShapes Go.WideShapes Go.ChangeAt Go.RowKit Go.Deep
section
variable {H : Type} {enc : TypeId × Value → H} {P : Program} {w : World} {base : Nat} {spare : Nat → Bool} {held : Bool}
theorem Addr_add_none (b o j : Nat) : (⟨b, o, none⟩ : Addr).add j = ⟨b, o + j, none⟩ := by unfold Addr.add; split <;> simp_all
/-- A slice whose elements are sz cells each, read as el. -/
theorem open_rows {t e : TypeId} {sz fuel : Nat} {v : Value} {x : DataW H × List MemPlace} {α : Type} {el : α → List Value} [Inhabited α] (ht : P.underlying t = some (.slice e)) (hc : P.cellsOf e = sz) (h0 : 0 < sz)
    (hg : ∀ (n : Nat) (cs : List Value) (y : DataW H × List MemPlace), cs.length = sz → DataW.trod enc P w base spare held n e cs = some y → ∃ a, cs = el a) (h : DataW.trod enc P w base spare held fuel t [v] = some x) :
    ∃ (A : Option Addr) (n c : Nat) (f : Nat → α), v = .slice A n c ∧ (n : Int) ≤ 9223372036854775807 ∧ Rs w w.heap.size A n sz (fun i => el (f i)) := by
  rcases open_slice ht h with ⟨hcs, _⟩ | ⟨a, len, cap, m, n, D, Pl, hcs, _, hl, hm, hmm, _, hV⟩
  · obtain rfl : v = .slice none 0 0 := by simpa using hcs
    exact ⟨none, 0, 0, fun _ => default, rfl, by omega, fun h => absurd h (by omega)⟩
  · obtain rfl : v = .slice (some a) len cap := by simpa using hcs
    unfold maxLen at hm
    have hlm : len ≤ m := by rw [hmm]; split <;> omega
    have hex : ∀ i, i < len → ∃ z : α, (el z).length = sz ∧ ∀ j, j < sz → w.cell? ((a.add (i * sz)).add j) = (el z)[j]? := fun i hi => by
      obtain ⟨cs', h1, h2⟩ := hV i (by omega)
      rw [hc] at h1
      obtain ⟨_, hlen, hcell⟩ := World.cells?_some h1
      obtain ⟨z, hz⟩ := hg n cs' _ hlen h2
      subst hz
      exact ⟨z, hlen, hcell⟩
    obtain ⟨f, hf⟩ := choose_lt (α := α) (n := len) (p := fun i z => (el z).length = sz ∧ ∀ j, j < sz → w.cell? ((a.add (i * sz)).add j) = (el z)[j]?) hex
    refine ⟨some a, len, cap, f, rfl, by omega, fun hp => ?_⟩
    obtain ⟨hl0, hc0⟩ := hf 0 hp
    have h00 : w.cell? ((a.add (0 * sz)).add 0) = some ((el (f 0))[0]'(by omega)) := by rw [hc0 0 h0]; exact List.getElem?_eq_getElem (by omega)
    have hsp : a.spot = none := by simpa [Addr.add] using World.cell?_spot h00
    have hb : a.block < w.heap.size := by simpa [Addr.add] using block_lt h00
    obtain ⟨b, o, s⟩ := a
    simp only at hsp hb
    subst hsp
    refine ⟨b, o, rfl, hb, fun i hi j u hu => ?_⟩
    obtain ⟨hl1, hc1⟩ := hf i hi
    have hj : j < sz := Nat.lt_of_lt_of_eq (List.getElem?_eq_some_iff.1 hu).1 hl1
    have := hc1 j hj
    rw [Addr_add_none, Addr_add_none] at this
    rw [this]
    exact hu
end
end Go.Proofs.YtndbmeedimhohaaGreat
namespace Go.Proofs.YtndbmeedimhohaaGreat
open Go.ChangeShapes Go.WideShapes Go.ChangeAt Go.RowKit Go.Deep
theorem cellsInt : Tryz.prog.cellsOf 3 = 1 := by kernel_rfl
theorem cellsBool : Tryz.prog.cellsOf 4 = 1 := by kernel_rfl
theorem cellsStr : Tryz.prog.cellsOf 9 = 1 := by kernel_rfl
theorem cellsInts : Tryz.prog.cellsOf 62 = 1 := by kernel_rfl
theorem cellsBools : Tryz.prog.cellsOf 63 = 1 := by kernel_rfl
theorem cellsLBand : Tryz.prog.cellsOf 79 = 5 := by kernel_rfl
theorem cellsLShelf : Tryz.prog.cellsOf 119 = 5 := by kernel_rfl
theorem cellsLShelves : Tryz.prog.cellsOf 80 = 1 := by kernel_rfl
theorem cellsLGroup : Tryz.prog.cellsOf 82 = 14 := by kernel_rfl
/-- Every number of a group is one. -/
structure GWf (g : GV) : Prop where
  pa : (Lit.int .i64 g.pa).wf = true
  we : (Lit.int .i64 g.we).wf = true
  cp : (Lit.int .i64 g.cp).wf = true
  pe : (Lit.int .i64 g.pe).wf = true
  ne : (Lit.int .i64 g.ne).wf = true
  su : (Lit.int .i64 g.su).wf = true
  qu : (Lit.int .i64 g.qu).wf = true
  po : (Lit.int .i64 g.po).wf = true
  sp : (Lit.int .i64 g.sp).wf = true
section
variable {H : Type} {enc : TypeId × Value → H} {w : World} {base : Nat} {spare : Nat → Bool} {held : Bool}
/-- A shelf's cells. -/
def shcC (z : Int × Bool × Int × Int × Int) : List Value := [.int .i64 z.1, .bool z.2.1, .int .i64 z.2.2.1, .int .i64 z.2.2.2.1, .int .i64 z.2.2.2.2]
theorem open_shelfCells {fuel : Nat} {cs : List Value} {x : DataW H × List MemPlace} (hl : cs.length = 5) (h : DataW.trod enc Tryz.prog w base spare held fuel 119 cs = some x) : ∃ z, cs = shcC z := by
  match cs, hl with
  | [c0, c1, c2, c3, c4], _ =>
    obtain ⟨k, hf⟩ := open_field Tryz.underlying119 h
    obtain ⟨y0, h0⟩ := hf 0 _ rfl 3 0 1 rfl rfl cellsInt
    obtain ⟨y1, h1⟩ := hf 1 _ rfl 4 1 1 rfl rfl cellsBool
    obtain ⟨y2, h2⟩ := hf 2 _ rfl 3 2 1 rfl rfl cellsInt
    obtain ⟨y3, h3⟩ := hf 3 _ rfl 3 3 1 rfl rfl cellsInt
    obtain ⟨y4, h4⟩ := hf 4 _ rfl 3 4 1 rfl rfl cellsInt
    simp only [List.drop_zero, List.drop_succ_cons, List.take_succ_cons, List.take_zero] at h0 h1 h2 h3 h4
    obtain ⟨q0, e0, _⟩ := DataW.trod_int Tryz.underlying3 h0
    obtain ⟨q1, e1, _⟩ := DataW.trod_bool Tryz.underlying4 h1
    obtain ⟨q2, e2, _⟩ := DataW.trod_int Tryz.underlying3 h2
    obtain ⟨q3, e3, _⟩ := DataW.trod_int Tryz.underlying3 h3
    obtain ⟨q4, e4, _⟩ := DataW.trod_int Tryz.underlying3 h4
    simp only [List.cons.injEq, and_true] at e0 e1 e2 e3 e4
    subst e0 e1 e2 e3 e4
    exact ⟨(q0, q1, q2, q3, q4), rfl⟩
theorem open_bandCells {fuel : Nat} {cs : List Value} {x : DataW H × List MemPlace} (hl : cs.length = 5) (h : DataW.trod enc Tryz.prog w base spare held fuel 79 cs = some x) :
    ∃ (q p s : Int) (A A' : Option Addr) (n m c c' : Nat) (f : Nat → Int) (f' : Nat → Bool), cs = [.int .i64 q, .int .i64 p, .int .i64 s, .slice A n c, .slice A' m c'] ∧
      (n : Int) ≤ 9223372036854775807 ∧ (m : Int) ≤ 9223372036854775807 ∧ Rw w w.heap.size A n (fun i => .int .i64 (f i)) ∧ Rw w w.heap.size A' m (fun i => .bool (f' i)) ∧ (Lit.int .i64 q).wf = true ∧ (Lit.int .i64 p).wf = true ∧ (Lit.int .i64 s).wf = true := by
  match cs, hl with
  | [c0, c1, c2, c3, c4], _ =>
    obtain ⟨k, hf⟩ := open_field Tryz.underlying79 h
    obtain ⟨y0, h0⟩ := hf 0 _ rfl 3 0 1 rfl rfl cellsInt
    obtain ⟨y1, h1⟩ := hf 1 _ rfl 3 1 1 rfl rfl cellsInt
    obtain ⟨y2, h2⟩ := hf 2 _ rfl 3 2 1 rfl rfl cellsInt
    obtain ⟨y3, h3⟩ := hf 3 _ rfl 62 3 1 rfl rfl cellsInts
    obtain ⟨y4, h4⟩ := hf 4 _ rfl 63 4 1 rfl rfl cellsBools
    simp only [List.drop_zero, List.drop_succ_cons, List.take_succ_cons, List.take_zero] at h0 h1 h2 h3 h4
    obtain ⟨q, hq, w0⟩ := DataW.trod_int Tryz.underlying3 h0
    obtain ⟨p, hp, w1⟩ := DataW.trod_int Tryz.underlying3 h1
    obtain ⟨s, hs, w2⟩ := DataW.trod_int Tryz.underlying3 h2
    obtain ⟨A, n, c, f, hA, hn, hr⟩ := open_ints1 Tryz.underlying62 cellsInt Tryz.underlying3 h3
    obtain ⟨A', m, c', f', hA', hm, hr'⟩ := open_bools1 Tryz.underlying63 cellsBool Tryz.underlying4 h4
    simp only [List.cons.injEq, and_true] at hq hp hs
    subst hq hp hs hA hA'
    exact ⟨q, p, s, A, A', n, m, c, c', f, f', rfl, hn, hm, hr, hr', w0.2, w1.2, w2.2⟩
/-- A group that was read. -/
def GSub (w : World) : Type := {x : GV × GH // GRd w w.heap.size x.1 x.2 ∧ GBig x.1 ∧ GWf x.1}
instance : Inhabited (GSub w) := ⟨⟨(default, default), ⟨fun h => absurd h (by decide), fun h => absurd h (by decide), fun h => absurd h (by decide)⟩, ⟨by decide, by decide, by decide, by decide⟩, ⟨by decide, by decide, by decide, by decide, by decide, by decide, by decide, by decide, by decide⟩⟩⟩
theorem open_groupCells {fuel : Nat} {cs : List Value} {x : DataW H × List MemPlace} (hl : cs.length = 14) (h : DataW.trod enc Tryz.prog w base spare held fuel 82 cs = some x) : ∃ z : GSub w, cs = grC z.1.1 z.1.2 := by
  match cs, hl with
  | [c0, c1, c2, c3, c4, c5, c6, c7, c8, c9, c10, c11, c12, c13], _ =>
    obtain ⟨k, hf⟩ := open_field Tryz.underlying82 h
    obtain ⟨y0, h0⟩ := hf 0 _ rfl 4 0 1 rfl rfl cellsBool
    obtain ⟨y1, h1⟩ := hf 1 _ rfl 3 1 1 rfl rfl cellsInt
    obtain ⟨y2, h2⟩ := hf 2 _ rfl 9 2 1 rfl rfl cellsStr
    obtain ⟨y3, h3⟩ := hf 3 _ rfl 3 3 1 rfl rfl cellsInt
    obtain ⟨y4, h4⟩ := hf 4 _ rfl 3 4 1 rfl rfl cellsInt
    obtain ⟨y5, h5⟩ := hf 5 _ rfl 3 5 1 rfl rfl cellsInt
    obtain ⟨y6, h6⟩ := hf 6 _ rfl 3 6 1 rfl rfl cellsInt
    obtain ⟨y7, h7⟩ := hf 7 _ rfl 3 7 1 rfl rfl cellsInt
    obtain ⟨y8, h8⟩ := hf 8 _ rfl 79 8 5 rfl rfl cellsLBand
    obtain ⟨y9, h9⟩ := hf 9 _ rfl 80 13 1 rfl rfl cellsLShelves
    simp only [List.drop_zero, List.drop_succ_cons, List.take_succ_cons, List.take_zero] at h0 h1 h2 h3 h4 h5 h6 h7 h8 h9
    obtain ⟨q0, e0, _⟩ := DataW.trod_bool Tryz.underlying4 h0
    obtain ⟨q1, e1, w1⟩ := DataW.trod_int Tryz.underlying3 h1
    obtain ⟨q2, e2, w2⟩ := DataW.trod_string Tryz.underlying9 h2
    obtain ⟨q3, e3, w3⟩ := DataW.trod_int Tryz.underlying3 h3
    obtain ⟨q4, e4, w4⟩ := DataW.trod_int Tryz.underlying3 h4
    obtain ⟨q5, e5, w5⟩ := DataW.trod_int Tryz.underlying3 h5
    obtain ⟨q6, e6, w6⟩ := DataW.trod_int Tryz.underlying3 h6
    obtain ⟨q7, e7, w7⟩ := DataW.trod_int Tryz.underlying3 h7
    obtain ⟨q, p, s, A, A', n, m, c, c', f, f', e8, hn, hm, hr, hr', wq, wp, ws⟩ := open_bandCells (cs := [c8, c9, c10, c11, c12]) rfl h8
    obtain ⟨A2, d, c2, f2, e9, hd, hr2⟩ := open_rows (el := shcC) Tryz.underlying80 cellsLShelf (by omega) (fun _ _ _ hl hy => open_shelfCells hl hy) h9
    simp only [List.cons.injEq, and_true] at e0 e1 e2 e3 e4 e5 e6 e7 e8
    obtain ⟨e8a, e8b, e8c, e8d, e8e⟩ := e8
    subst e0 e1 e2 e3 e4 e5 e6 e7 e8a e8b e8c e8d e8e e9
    refine ⟨⟨(⟨q0, q1, q2, q3, q4, q5, q6, q7, q, p, s, n, f, m, f', d, fun i => (f2 i).1, fun i => (f2 i).2.1, fun i => (f2 i).2.2.1, fun i => (f2 i).2.2.2.1, fun i => (f2 i).2.2.2.2⟩, ⟨A, c, A', c', A2, c2⟩), ⟨hr, hr', hr2⟩, ⟨?_, hn, hm, hd⟩, ⟨w1.2, w3.2, w4.2, w5.2, w6.2, w7.2, wq, wp, ws⟩⟩, rfl⟩
    have := w2.2
    unfold maxLen at this
    show (q2.size : Int) ≤ 9223372036854775807
    omega
set_option maxRecDepth 100000 in
theorem open_lawsGroups {W : World} {r : Reach} {b0 : Nat} {v0 : Value} {d : DataW H} {p : List MemPlace} (hv : Value.okWide Tryz.prog W r b0 24 v0) (h : DataW.Trod enc Tryz.prog w base spare held 24 v0 d p) :
    ∃ (A : Option Addr) (n c : Nat) (g : Nat → GV) (h : Nat → GH), v0 = .slice A n c ∧ (n : Int) ≤ 9223372036854775807 ∧ GsRd w w.heap.size A n g h ∧ (∀ i, GBig (g i)) ∧ ∀ i, GWf (g i) := by
  obtain ⟨a, len, cap, rfl⟩ := okWide_slice Tryz.underlying24 hv
  obtain ⟨fuel, hf⟩ := h
  obtain ⟨A, n, c, f, hA, hn, hr⟩ := open_rows (α := GSub w) (el := fun z => grC z.1.1 z.1.2) Tryz.underlying24 cellsLGroup (by omega) (fun _ _ _ hl hy => open_groupCells hl hy) (by simpa [Value.cells] using hf)
  exact ⟨A, n, c, fun i => (f i).1.1, fun i => (f i).1.2, hA, hn, ⟨hr, fun i _ => (f i).2.1⟩, fun i => (f i).2.2.1, fun i => (f i).2.2.2⟩
end
end Go.Proofs.YtndbmeedimhohaaGreat
namespace Go.Proofs.YtndbmeedimhohaaGreat
open Go.RowKit
theorem GsRd.flds {n : Nat} {g : Nat → GV} (hL : ∀ i, i < n → GLen (g i)) (hW : ∀ i, GWf (g i)) : n = 8 → Flds (fun i => (g i).us) (fun i => (g i).pa) (fun i => (g i).nm) := fun h8 =>
  ⟨fun i _ => (hW i).pa, fun i hi => by have := (hL i (by omega)).nm; show (g i).nm.size ≤ maxLen; unfold maxLen; omega⟩
theorem iTreeOk_any (A : Option Addr) (n c : Nat) (hn : n ≤ 1048576) (us : Nat → Bool) (pa : Nat → Int) (nm : Nat → ByteArray) (hF : n = 8 → Flds us pa nm) (w W : World) (hb : Below W.heap.size W w) (hT0 : TRd W W.heap.size A n us pa nm) :
    Calls Tryz.prog 84 #[.slice A n c] w fun e w' => e = .returned (.bool (treeOk nameOk us pa nm n)) ∧ Below w.heap.size w w' := by
  have hT := Lib.hid (hT0.at_ hb)
  clear hT0
  have HN := Lib.hid (nodes_any A n c hn us pa nm hF w w (Below.refl _ _) hT.out)
  go_enter Tryz.func84, Tryz.ntmps84
  go_wp2_with fail
  refine HN.out.mono ?_
  rintro e w1 ⟨hr, hb1⟩
  unfold NodesR at hr
  cases ht : treeOk nameOk us pa nm n
  · rw [ht] at hr
    obtain rfl := hr
    go_wp2
    go_ret
    exact ⟨ret_bool5 ht.symm, hb1⟩
  · rw [ht] at hr
    obtain ⟨ab, nb, rfl, _, _, _⟩ := hr
    go_wp2
    go_ret
    exact ⟨ret_bool5 ht.symm, hb1⟩
end Go.Proofs.YtndbmeedimhohaaGreat
namespace Go.Proofs.YtndbmeedimhohaaGreat
open Go.RowKit
theorem wrap_in {a : Int} (h1 : -9223372036854775808 ≤ a) (h2 : a ≤ 9223372036854775807) : IntKind.i64.wrap a = a := by rw [IntKind.wrap_i64]; omega
theorem timeOk_any (A : Option Addr) (n c : Nat) (hn : (n : Int) ≤ 9223372036854775807) (f : Nat → Int) (w : World) (hA : Rw w w.heap.size A n fun i => .int .i64 (f i)) :
    Calls Tryz.prog 82 #[.slice A n c] w fun e w' => e = .returned (.bool (allTo (fun i => timeB (f i)) n)) ∧ w = w' := by
  rcases Nat.eq_zero_or_pos n with h0 | h0
  · subst h0
    go_enter Tryz.func82, Tryz.ntmps82
    go_wp2
    refine wp_loop_rounds 1 ?_
    rw [rounds_succ]
    go_wp2
    go_ret
    exact ⟨rfl, rfl⟩
  · obtain ⟨ga, oa, rfl, hga, hca⟩ := hA h0
    have HC := Lib.hid hca
    clear hca hA
    go_enter Tryz.func82, Tryz.ntmps82
    go_wp2
    go_loop [7] (fun i => ∃ k : Nat, k ≤ n ∧ i = .int .i64 k ∧ Hid (allTo (fun i => timeB (f i)) k = true)) (fun i => n - (intOf i).toNat)
    case atStart => exact ⟨0, Nat.zero_le _, rfl, rfl⟩
    case round =>
      obtain ⟨k, hk, rfl, HA⟩ := hrel
      by_cases hlt : k < n
      · have hc := HC.out k hlt
        cases ht : inR (f k) 0 100000000000000000
        · have HN := Lib.hid (allTo_false (fun i => timeB (f i)) k n hlt ht)
          go_wp2_with (go_at_call 61; refine (inRange_any _ _ _ _).mono ?_; rintro e w' ⟨rfl, rfl⟩)
          go_ret
          exact ⟨ret_boolB HN.out.symm, rfl⟩
        · have HN : Hid (allTo (fun i => timeB (f i)) (k + 1) = true) := allTo_next _ k HA.out ht
          go_wp2_with (go_at_call 61; refine (inRange_any _ _ _ _).mono ?_; rintro e w' ⟨rfl, rfl⟩)
          go_round
          case rel => exact ⟨k + 1, by omega, by go_num, HN⟩
          case measure => simp [intOf]; omega
      · obtain rfl : k = n := by omega
        go_wp2
        go_ret
        exact ⟨ret_boolB HA.out.symm, rfl⟩
theorem rwOne (w : World) (t : TypeId) (a : Value) : Rw (w.alloc (.cells #[a] t)) (w.alloc (.cells #[a] t)).heap.size (some ⟨w.heap.size, 0, none⟩) 1 (fun _ => a) := fun _ =>
  ⟨w.heap.size, 0, rfl, by simp, fun i hi => by
    obtain rfl : i = 0 := by omega
    exact (Bk.new w t #[a]).cell 0⟩
theorem rwTwo (w : World) (t : TypeId) (a b : Int) : Rw (w.alloc (.cells #[.int .i64 a, .int .i64 b] t)) (w.alloc (.cells #[.int .i64 a, .int .i64 b] t)).heap.size (some ⟨w.heap.size, 0, none⟩) 2 (fun i => .int .i64 (if i = 0 then a else b)) := fun _ =>
  ⟨w.heap.size, 0, rfl, by simp, fun i hi => by
    have h := (Bk.new w t #[.int .i64 a, .int .i64 b]).cell i
    rw [Nat.zero_add]
    rcases (by omega : i = 0 ∨ i = 1) with e | e <;> subst e <;> exact h⟩
theorem timeOk_one (w : World) (t : TypeId) (a : Int) (c g : Nat) (hg : w.heap.size = g) :
    Calls Tryz.prog 82 #[.slice (some ⟨g, 0, none⟩) 1 c] (w.alloc (.cells #[.int .i64 a] t)) fun e w' => e = .returned (.bool (timeB a)) ∧ w.alloc (.cells #[.int .i64 a] t) = w' := by
  subst hg
  exact (timeOk_any _ 1 c (by omega) (fun _ => a) _ (rwOne w t _)).mono fun _ _ ⟨h1, h2⟩ => ⟨h1.trans (ret_boolB (by simp [allTo])), h2⟩
theorem timeOk_two (w : World) (t : TypeId) (a b : Int) (c g : Nat) (hg : w.heap.size = g) :
    Calls Tryz.prog 82 #[.slice (some ⟨g, 0, none⟩) 2 c] (w.alloc (.cells #[.int .i64 a, .int .i64 b] t)) fun e w' => e = .returned (.bool (time2 a b)) ∧ w.alloc (.cells #[.int .i64 a, .int .i64 b] t) = w' := by
  subst hg
  exact (timeOk_any _ 2 c (by omega) (fun i => if i = 0 then a else b) _ (rwTwo w t _ _)).mono fun _ _ ⟨h1, h2⟩ => ⟨h1.trans (ret_boolB (by simp [allTo, time2])), h2⟩
theorem placed_any (v fl x : Int) (h1 : 0 ≤ v) (h2 : v ≤ 100000000000000000) (h3 : 0 ≤ fl) (h4 : fl ≤ 100000000000000000) (w W : World) (hb : Below W.heap.size W w) :
    Calls Tryz.prog 92 #[.int .i64 v, .int .i64 fl, .int .i64 x] w fun e w' => e = .returned (.bool (placedB v fl x)) ∧ Below W.heap.size W w' := by
  by_cases h : fl ≤ v
  · rw [placedB_e h]
    go_enter Tryz.func92, Tryz.ntmps92
    go_wp2_with (go_at_call 112; refine (iLagMost_any _ _ W hb).mono ?_; rintro e w1 ⟨rfl, hb1⟩)
    go_ret
    exact ⟨rfl, hb1⟩
  · rw [placedB_f1 h]
    go_enter Tryz.func92, Tryz.ntmps92
    go_wp2
    go_ret
    exact ⟨rfl, hb⟩
theorem l4Time_any (a : Int) (w : World) :
    Calls Tryz.prog 75 #[.int .i64 a] w fun e w' => e = .returned (.bool (timeB a)) ∧ w = w' := by
  go_enter Tryz.func75, Tryz.ntmps75
  go_wp2_with (go_at_call 39; refine (l1In_any _ _ _ _).mono ?_; rintro e w' ⟨rfl, rfl⟩)
  go_ret
  exact ⟨rfl, rfl⟩
theorem rwThree (w : World) (t : TypeId) (a b c : Int) : Rw (w.alloc (.cells #[.int .i64 a, .int .i64 b, .int .i64 c] t)) (w.alloc (.cells #[.int .i64 a, .int .i64 b, .int .i64 c] t)).heap.size (some ⟨w.heap.size, 0, none⟩) 3 (fun i => .int .i64 (if i = 0 then a else if i = 1 then b else c)) := fun _ =>
  ⟨w.heap.size, 0, rfl, by simp, fun i hi => by
    have h := (Bk.new w t #[.int .i64 a, .int .i64 b, .int .i64 c]).cell i
    rw [Nat.zero_add]
    rcases (by omega : i = 0 ∨ i = 1 ∨ i = 2) with e | e | e <;> subst e <;> exact h⟩
def time3 (a b c : Int) : Bool := timeB a && timeB b && timeB c
theorem timeOk_three (w : World) (t : TypeId) (a b c : Int) (k g : Nat) (hg : w.heap.size = g) :
    Calls Tryz.prog 82 #[.slice (some ⟨g, 0, none⟩) 3 k] (w.alloc (.cells #[.int .i64 a, .int .i64 b, .int .i64 c] t)) fun e w' => e = .returned (.bool (time3 a b c)) ∧ w.alloc (.cells #[.int .i64 a, .int .i64 b, .int .i64 c] t) = w' := by
  subst hg
  exact (timeOk_any _ 3 k (by omega) (fun i => if i = 0 then a else if i = 1 then b else c) _ (rwThree w t _ _ _)).mono fun _ _ ⟨h1, h2⟩ => ⟨h1.trans (ret_boolB (by simp [allTo, time3, Bool.and_assoc])), h2⟩
end Go.Proofs.YtndbmeedimhohaaGreat
namespace Go.Proofs.YtndbmeedimhohaaGreat
open Go.RowKit
def anyTo (f : Nat → Bool) : Nat → Bool
  | 0 => false
  | k + 1 => anyTo f k || f k
theorem anyTo_true (f : Nat → Bool) (k : Nat) : ∀ n, k < n → f k = true → anyTo f n = true
  | 0, h, _ => absurd h (by omega)
  | n + 1, h, hf => by
    unfold anyTo
    by_cases e : k = n
    · subst e; simp [hf]
    · simp [anyTo_true f k n (by omega) hf]
theorem anyTo_next (f : Nat → Bool) (k : Nat) (h : anyTo f k = false) (hf : f k = false) : anyTo f (k + 1) = false := by simp [anyTo, h, hf]
/-- The processors that are up. -/
def upsTo (V : WV) : Nat → Int
  | 0 => 0
  | k + 1 => upsTo V k + if (V.cv k).up then 2 ^ k else 0
def ups (V : WV) : Int := upsTo V V.cn
theorem upsTo_b (V : WV) : ∀ k : Nat, 0 ≤ upsTo V k ∧ upsTo V k < 2 ^ k
  | 0 => by simp [upsTo]
  | k + 1 => by
    have := upsTo_b V k
    have hp : (2 : Int) ^ (k + 1) = 2 ^ k + 2 ^ k := by rw [Int.pow_succ]; omega
    simp only [upsTo]
    split <;> omega
def treeV (V : WV) : Bool := treeOk nameOk (fun i => (V.gv i).us) (fun i => (V.gv i).pa) (fun i => (V.gv i).nm) V.gn
def pN (V : WV) (g : Nat) : Nat := (V.gv g).pa.toNat
def dN (V : WV) (g : Nat) : Nat := (dep (fun i => (V.gv i).us) (fun i => (V.gv i).pa) 8 4 g).toNat
/-- What a tree tells. -/
structure Tree (V : WV) : Prop where
  n8 : V.gn = 8
  u0 : (V.gv 0).us = true
  p0 : (V.gv 0).pa = -1
  d0 : dN V 0 = 0
  pa : ∀ g, g ≠ 0 → g < 8 → (V.gv g).us = true → (V.gv g).pa = (pN V g : Int) ∧ pN V g < 8 ∧ (V.gv (pN V g)).us = true ∧ dN V g = dN V (pN V g) + 1
theorem Tree.of {V : WV} (h : treeV V = true) : Tree V := by
  have hr := rootB_iff.1 (treeOk_spec h).1
  obtain ⟨h8, hu, hp, _⟩ := hr
  refine ⟨h8, hu, hp, ?_, fun g g0 g8 gu => ?_⟩
  · unfold dN
    rw [show ((0 : Nat) : Int) = 0 from rfl, dep_zero (usedB_iff.2 ⟨by omega, by omega, hu⟩) 4 (by omega)]
    rfl
  · have hd := treeOk_dep h (by omega : g < V.gn) gu
    rw [h8] at hd
    obtain ⟨_, h3, hup⟩ := dep_parent (k := 3) (by omega : (g : Int) ≠ 0) hd
    obtain ⟨q1, q2, q3⟩ := usedB_iff.1 hup
    simp only [Int.toNat_natCast] at h3 hup q1 q2 q3
    have hpn : (V.gv g).pa = (pN V g : Int) := by unfold pN; omega
    have h4 := dep_stable 3 (V.gv g).pa h3 4 (by have := (dep_lt (u := fun i => (V.gv i).us) (p := fun i => (V.gv i).pa) (n := 8) 3 (V.gv g).pa).1; omega)
    have hs := dep_step (u := fun i => (V.gv i).us) (p := fun i => (V.gv i).pa) (n := 8) (g := g) (usedB_iff.2 ⟨by omega, by omega, gu⟩) (by omega) 3
    simp only [Int.toNat_natCast] at hs
    rw [if_neg (by omega)] at hs
    refine ⟨hpn, by unfold pN; omega, q3, ?_⟩
    unfold dN
    rw [← hpn, h4]
    have hs' : dep (fun i => (V.gv i).us) (fun i => (V.gv i).pa) 8 4 g = dep (fun i => (V.gv i).us) (fun i => (V.gv i).pa) 8 3 (V.gv g).pa + 1 := hs
    rw [hs']
    omega
/-- The pins of a group and all that it is in. -/
def ancM (V : WV) : Nat → Nat → Int
  | 0, g => (V.gv g).cp
  | d + 1, g => maskAnd (V.gv g).cp (ancM V d (pN V g))
def pinM (V : WV) (g : Nat) : Int := ancM V (dN V g) g
def lin (V : WV) (c : Nat) : Nat → Nat → Bool
  | 0, _ => true
  | d + 1, g => (V.gv g).s1 c && lin V c d (pN V g)
def linB (V : WV) (c g : Nat) : Bool := lin V c (dN V g) g
def sty (V : WV) (c : Nat) (r : Int) : Nat → Nat → Bool
  | 0, _ => true
  | d + 1, g => decide ((V.gv g).s2 c - (V.gv (pN V g)).s0 c ≤ virtualStep r ((V.gv g).s3 c)) && sty V c r d (pN V g)
def styB (V : WV) (c : Nat) (r : Int) (g : Nat) : Bool := sty V c r (dN V g) g
section
variable {V : WV}
theorem Tree.pin0 (t : Tree V) : pinM V 0 = (V.gv 0).cp := by unfold pinM; rw [t.d0]; rfl
theorem Tree.pin (t : Tree V) {g : Nat} (h0 : g ≠ 0) (h8 : g < 8) (hu : (V.gv g).us = true) : pinM V g = maskAnd (V.gv g).cp (pinM V (pN V g)) := by
  unfold pinM; rw [(t.pa g h0 h8 hu).2.2.2]; rfl
theorem Tree.lin0 (t : Tree V) (c : Nat) : linB V c 0 = true := by unfold linB; rw [t.d0]; rfl
theorem Tree.lin (t : Tree V) {g : Nat} (h0 : g ≠ 0) (h8 : g < 8) (hu : (V.gv g).us = true) (c : Nat) : linB V c g = ((V.gv g).s1 c && linB V c (pN V g)) := by
  unfold linB; rw [(t.pa g h0 h8 hu).2.2.2]; rfl
theorem Tree.sty0 (t : Tree V) (c : Nat) (r : Int) : styB V c r 0 = true := by unfold styB; rw [t.d0]; rfl
theorem Tree.sty (t : Tree V) {g : Nat} (h0 : g ≠ 0) (h8 : g < 8) (hu : (V.gv g).us = true) (c : Nat) (r : Int) : styB V c r g = (decide ((V.gv g).s2 c - (V.gv (pN V g)).s0 c ≤ virtualStep r ((V.gv g).s3 c)) && styB V c r (pN V g)) := by
  unfold styB; rw [(t.pa g h0 h8 hu).2.2.2]; rfl
end
def queB (V : WV) (t g c : Nat) : Bool := ((V.tv t).st == 1) && ((V.tv t).gr == (g : Int)) && ((V.tv t).cp == (c : Int))
def holdB (V : WV) (k g c : Nat) : Bool := decide (k ≠ 0) && (V.gv k).us && ((V.gv k).pa == (g : Int)) && (V.gv k).s1 c
def actB (V : WV) (g c : Nat) : Bool := anyTo (fun t => queB V t g c) V.tn || anyTo (fun k => holdB V k g c) V.gn
def dryB (V : WV) (g c : Nat) : Bool := decide (0 < (V.gv g).qu) && (V.gv g).df c
def thereB (V : WV) (t : Int) : Bool := inR t 0 ((V.tn : Int) - 1) && ((V.tv t.toNat).st != 0)
def inlI (V : WV) (t c : Nat) : Bool := ((V.tv t).st == 1) && ((V.tv t).cp == (c : Int)) && linB V c (V.tv t).gr.toNat
def inlS (V : WV) (t : Nat) : Bool := ((V.tv t).st == 1) && linB V (V.tv t).cp.toNat (V.tv t).gr.toNat
/-- Where a task of this mask in this group may be. -/
def whereM (V : WV) (g : Nat) (m : Int) : Int :=
  if maskAnd m (maskAnd (pinM V g) (ups V)) ≠ 0 then maskAnd m (maskAnd (pinM V g) (ups V)) else if maskAnd (pinM V g) (ups V) ≠ 0 then maskAnd (pinM V g) (ups V) else ups V
def standS (v f x : Int) : Bool := decide (f ≤ v) && decide (IntKind.i64.wrap (v - f) ≤ lagMost x)
/-- Tasks. -/
def zeroT (x : TV) : Bool := (x.st == 0) && (x.gr == 0) && (x.cp == 0) && (x.ni == 0) && (x.ma == 0) && (x.vv == 0) && (x.su == 0) && (x.us == 0) && (x.lo == 0)
def flT (V : WV) (t : Nat) : Int := (V.gv (V.tv t).gr.toNat).s0 (V.tv t).cp.toNat
def headT (V : WV) (t : Nat) : Bool := (((V.tv t).st == 1) || ((V.tv t).st == 2)) && usedB (fun i => (V.gv i).us) V.gn (V.tv t).gr && inR (V.tv t).ni (-10) 9 && ((V.tv t).ma != 0) && inR (V.tv t).ma 0 15
def numT (V : WV) (t : Nat) : Bool := time3 (V.tv t).vv (V.tv t).su (V.tv t).us && inR (V.tv t).lo 0 8000000 && maskHas (whereM V (V.tv t).gr.toNat (V.tv t).ma) (V.tv t).cp
def taskI (V : WV) (t : Nat) : Bool := zeroT (V.tv t) || (headT V t && numT V t && (((V.tv t).st != 1) || (timeB (flT V t) && placedB (V.tv t).vv (flT V t) (weightOf (V.tv t).ni))))
def taskS (V : WV) (t : Nat) : Bool := if (V.tv t).st = 0 then zeroT (V.tv t) else headT V t && numT V t && (((V.tv t).st == 2) || standS (V.tv t).vv (flT V t) (weightOf (V.tv t).ni))
/-- Groups. -/
def nobandB (g : GV) : Bool := (g.qu == 0) && (g.po == 0) && (g.sp == 0) && ((g.ln : Int) == 0) && ((g.dn : Int) == 0)
def zeroG (g : GV) : Bool := (g.pa == 0) && decide (g.nm = ByteArray.empty) && (g.we == 0) && (g.cp == 0) && (g.pe == 0) && (g.ne == 0) && (g.su == 0) && ((g.sn : Int) == 0) && nobandB g
def quotaI (V : WV) (g : GV) : Bool := if nobandB g then (g.pe == 0) && (g.ne == 0) else bandOk g.qu g.po g.sp g.ln g.dn g.lf g.df && ((g.ln : Int) == V.cn) && inR g.pe 1 1000 && inR g.ne (V.now + 1) (V.now + g.pe)
def usedG (V : WV) (g : GV) : Bool := inR g.we 1 20 && inR g.cp 0 15 && (g.cp != 0) && timeB g.su && ((g.sn : Int) == V.cn)
def groupI (V : WV) (g : Nat) : Bool := if (V.gv g).us then usedG V (V.gv g) && quotaI V (V.gv g) else zeroG (V.gv g)
def rootI (V : WV) : Bool := ((V.gv 0).we == 10) && ((V.gv 0).cp == 15) && ((V.gv 0).qu == 0)
def quotaS (V : WV) (g : GV) : Bool := if g.qu = 0 then nobandB g && (g.pe == 0) && (g.ne == 0) else bandOk g.qu g.po g.sp g.ln g.dn g.lf g.df && ((g.ln : Int) == V.cn) && inR g.pe 1 1000 && decide (V.now < g.ne) && decide (g.ne - V.now ≤ g.pe)
def groupS (V : WV) (g : Nat) : Bool := if (V.gv g).us then usedG V (V.gv g) && (decide (g ≠ 0) || rootI V) && quotaS V (V.gv g) else zeroG (V.gv g)
/-- Shelves. -/
def numH (V : WV) (g c : Nat) : Bool := timeB ((V.gv g).s0 c) && timeB ((V.gv g).s2 c) && timeB ((V.gv g).s4 c) && inR ((V.gv g).s3 c) 1 20
def rootH (V : WV) (c : Nat) : Bool := !(V.gv 0).s1 c && ((V.gv 0).s2 c == 0) && ((V.gv 0).s3 c == 10)
def onH (V : WV) (g c : Nat) : Bool := (V.gv g).s1 c == (actB V g c && !dryB V g c)
def shelfS (V : WV) (g c : Nat) : Bool := numH V g c && if g = 0 then rootH V c else onH V g c && (!(V.gv g).s1 c || standS ((V.gv g).s2 c) ((V.gv (pN V g)).s0 c) ((V.gv g).s3 c))
def laneI (V : WV) (c : Nat) (g : Nat) : Bool := decide (g = 0) || !(V.gv g).us || (onH V g c && (!(V.gv g).s1 c || placedB ((V.gv g).s2 c) ((V.gv (pN V g)).s0 c) ((V.gv g).s3 c)))
/-- Processors. -/
def stayB (V : WV) (c : Nat) : Bool := decide ((V.tv (V.cv c).cu.toNat).vv - (V.gv (V.tv (V.cv c).cu.toNat).gr.toNat).s0 c ≤ virtualStep (V.cv c).ra (weightOf (V.tv (V.cv c).cu.toNat).ni)) && styB V c (V.cv c).ra (V.tv (V.cv c).cu.toNat).gr.toNat
def cpuI (V : WV) (c : Nat) : Bool := timeB (V.cv c).bu && timeB (V.cv c).id && ((((V.cv c).cu == -1) && ((V.cv c).ra == 0)) || ((V.cv c).up && thereB V (V.cv c).cu && inlI V (V.cv c).cu.toNat c && inR (V.cv c).ra 1 149 && stayB V c))
def cpuS (V : WV) (c : Nat) : Bool := timeB (V.cv c).bu && timeB (V.cv c).id && inR (V.cv c).cu (-1) ((V.tn : Int) - 1) && if (V.cv c).cu < 0 then ((V.cv c).ra == 0) else (V.cv c).up && inR (V.cv c).ra 1 149 && ((V.tv (V.cv c).cu.toNat).cp == (c : Int)) && inlS V (V.cv c).cu.toNat && stayB V c
/-- Worlds. -/
def shapeB (V : WV) : Bool := timeB V.now && inR V.cn 1 4 && (ups V != 0) && ((V.tn : Int) == 12) && treeV V
def worldI (V : WV) : Bool := shapeB V && (allTo (groupI V) V.gn && rootI V) && allTo (taskI V) V.tn && (allTo (fun g => allTo (numH V g) (V.gv g).sn) V.gn && allTo (fun c => rootH V c && allTo (laneI V c) V.gn) V.cn) && allTo (cpuI V) V.cn
def worldS (V : WV) : Bool := shapeB V && allTo (groupS V) V.gn && allTo (taskS V) V.tn && allTo (fun g => allTo (shelfS V g) (V.gv g).sn) V.gn && allTo (cpuS V) V.cn
/-- Where a world's rows lie. -/
structure WA where
  ca : Nat
  oc : Nat
  cc : Nat
  ta : Nat
  ot : Nat
  tc : Nat
  ga : Nat
  og : Nat
  gc : Nat
  gh : Nat → GH
  sb : Nat → Nat
  so : Nat → Nat
  db : Nat → Nat
  dO : Nat → Nat
/-- The rows of a world read so. -/
structure MR (w : World) (V : WV) (a : WA) : Prop where
  cl : a.ca < w.heap.size
  c : ∀ i, i < V.cn → w.rangeAt a.ca (a.oc + i * 5) (cpC (V.cv i))
  tl : a.ta < w.heap.size
  t : ∀ i, i < V.tn → w.rangeAt a.ta (a.ot + i * 9) (taC (V.tv i))
  gl : a.ga < w.heap.size
  g : ∀ i, i < V.gn → w.rangeAt a.ga (a.og + i * 14) (grC (V.gv i) (a.gh i))
  d : ∀ i, i < V.gn → GRd w w.heap.size (V.gv i) (a.gh i)
  s : ∀ i, i < V.gn → 0 < (V.gv i).sn → (a.gh i).sa = some ⟨a.sb i, a.so i, none⟩ ∧ a.sb i < w.heap.size ∧ ∀ c, c < (V.gv i).sn → w.rangeAt (a.sb i) (a.so i + c * 5) (shC (V.gv i) c)
  y : ∀ i, i < V.gn → 0 < (V.gv i).dn → (a.gh i).da = some ⟨a.db i, a.dO i, none⟩ ∧ a.db i < w.heap.size ∧ ∀ c, c < (V.gv i).dn → w.cell? ⟨a.db i, a.dO i + c, none⟩ = some (.bool ((V.gv i).df c))
theorem MR.below {w w' : World} {V : WV} {a : WA} (m : MR w V a) (hb : Below w.heap.size w w') : MR w' V a := by
  have hz := hb.size
  refine ⟨by have := m.cl; omega, fun i hi => rangeAt_below (m.c i hi) hb m.cl, by have := m.tl; omega, fun i hi => rangeAt_below (m.t i hi) hb m.tl, by have := m.gl; omega, fun i hi => rangeAt_below (m.g i hi) hb m.gl, fun i hi => (m.d i hi).at_ hb, fun i hi hs => ?_, fun i hi hs => ?_⟩
  · obtain ⟨h1, h2, h3⟩ := m.s i hi hs
    exact ⟨h1, by omega, fun c hc => rangeAt_below (h3 c hc) hb h2⟩
  · obtain ⟨h1, h2, h3⟩ := m.y i hi hs
    exact ⟨h1, by omega, fun c hc => (hb.cell (p := ⟨a.db i, _, none⟩) h2).trans (h3 c hc)⟩
def aB (A : Option Addr) : Nat := match A with | some p => p.block | none => 0
def aO (A : Option Addr) : Nat := match A with | some p => p.off | none => 0
theorem MR.of {w : World} {V : WV} {h : WH} (r : WRd w w.heap.size V h) (hc : 0 < V.cn) (ht : 0 < V.tn) (hg : 0 < V.gn) : ∃ a : WA, MR w V a ∧ h.ca = some ⟨a.ca, a.oc, none⟩ ∧ h.ta = some ⟨a.ta, a.ot, none⟩ ∧ h.ga = some ⟨a.ga, a.og, none⟩ ∧ h.gh = a.gh := by
  obtain ⟨ca, oc, e1, l1, c1⟩ := r.c hc
  obtain ⟨ta, ot, e2, l2, c2⟩ := r.t ht
  obtain ⟨ga, og, e3, l3, c3⟩ := r.g.r hg
  refine ⟨⟨ca, oc, 0, ta, ot, 0, ga, og, 0, h.gh, fun i => aB (h.gh i).sa, fun i => aO (h.gh i).sa, fun i => aB (h.gh i).da, fun i => aO (h.gh i).da⟩, ⟨l1, c1, l2, c2, l3, c3, r.g.d, fun i hi hs => ?_, fun i hi hs => ?_⟩, e1, e2, e3, rfl⟩
  · obtain ⟨b, o, e, l, c⟩ := (r.g.d i hi).s hs
    simp only [e, aB, aO]
    exact ⟨trivial, l, c⟩
  · obtain ⟨b, o, e, l, c⟩ := (r.g.d i hi).d hs
    simp only [e, aB, aO]
    exact ⟨trivial, l, c⟩
end Go.Proofs.YtndbmeedimhohaaGreat

/- Worlds as data: what a world reads as, where its rows lie; equality of worlds. -/
import Derived.Test.YtndbmeedimhohaaW1Base
import Derived.Test.YtndbmeedimhohaaG5Base
namespace Go.Proofs.Ytndbmeedimhohaa
open Go.RowKit
structure CV where
  up : Bool
  cu : Int
  ra : Int
  bu : Int
  id : Int
structure TV where
  st : Int
  gr : Int
  cp : Int
  ni : Int
  ma : Int
  vv : Int
  su : Int
  us : Int
  lo : Int
def cpC (v : CV) : List Value := [.bool v.up, .int .i64 v.cu, .int .i64 v.ra, .int .i64 v.bu, .int .i64 v.id]
def taC (v : TV) : List Value := [.int .i64 v.st, .int .i64 v.gr, .int .i64 v.cp, .int .i64 v.ni, .int .i64 v.ma, .int .i64 v.vv, .int .i64 v.su, .int .i64 v.us, .int .i64 v.lo]
theorem cpC_length (v : CV) : (cpC v).length = 5 := rfl
theorem taC_length (v : TV) : (taC v).length = 9 := rfl
/-- What a world holds. -/
structure WV where
  now : Int
  cn : Nat
  cv : Nat → CV
  tn : Nat
  tv : Nat → TV
  gn : Nat
  gv : Nat → GV
/-- Where the rows of a world lie. -/
structure WH where
  ca : Option Addr
  cc : Nat
  ta : Option Addr
  tc : Nat
  ga : Option Addr
  gc : Nat
  gh : Nat → GH
/-- The rows of a world read as it says, below block B. -/
structure WRd (w : World) (B : Nat) (v : WV) (h : WH) : Prop where
  c : Rs w B h.ca v.cn 5 (fun i => cpC (v.cv i))
  t : Rs w B h.ta v.tn 9 (fun i => taC (v.tv i))
  g : GsRd w B h.ga v.gn v.gv h.gh
theorem WRd.below {w w' : World} {B : Nat} {v : WV} {h : WH} (r : WRd w B v h) (hb : Below B w w') : WRd w' B v h := ⟨r.c.below hb, r.t.below hb, r.g.below hb⟩
theorem WRd.more {w : World} {B B' : Nat} {v : WV} {h : WH} (r : WRd w B v h) (hB : B ≤ B') : WRd w B' v h := ⟨r.c.more hB, r.t.more hB, r.g.more hB⟩
theorem WRd.at_ {W w : World} {v : WV} {h : WH} (r : WRd W W.heap.size v h) (hb : Below W.heap.size W w) : WRd w w.heap.size v h := (r.below hb).more hb.size
/-- How long the rows of a world are. -/
structure WLen (v : WV) : Prop where
  c : v.cn ≤ 1048576
  t : v.tn ≤ 1048576
  g : v.gn ≤ 1048576
  l : ∀ i, i < v.gn → GLen (v.gv i)
set_option maxHeartbeats 2000000 in
theorem eqWorld_t (v : WV) (h h2 : WH) (hl : WLen v) (w W : World) (hb : Below W.heap.size W w) (hR : WRd W W.heap.size v h) (hR2 : WRd W W.heap.size v h2) :
    Calls Try.prog 6 #[.agg #[.int .i64 v.now, .slice h.ca v.cn h.cc, .slice h.ta v.tn h.tc, .slice h.ga v.gn h.gc], .agg #[.int .i64 v.now, .slice h2.ca v.cn h2.cc, .slice h2.ta v.tn h2.tc, .slice h2.ga v.gn h2.gc]] w fun e w' => e = .returned (.bool true) ∧ Below w.heap.size w w' := by
  have HR := Lib.hid (hR.at_ hb)
  have HR2 := Lib.hid (hR2.at_ hb)
  have HL := Lib.hid hl
  clear hR hR2 hl hb
  go_enter Try.func6, Try.ntmps6
  go_wp2_with fail
  refine (eqCpuS_t h.ca h2.ca v.cn h.cc h2.cc HL.out.c (fun i => (v.cv i).up) (fun i => (v.cv i).cu) (fun i => (v.cv i).ra) (fun i => (v.cv i).bu) (fun i => (v.cv i).id) _ w (by go_grown) HR.out.c HR2.out.c).mono ?_
  rintro e w1 ⟨rfl, hb1⟩
  have hB1 : Below w.heap.size w w1 := (by go_grown : Below w.heap.size w _).trans (hb1.mono (by simp only [World.size_alloc]; omega))
  have K1 := Lib.hid (((Bk.new' w w.heap.size _ _ rfl).alloc _).below hb1 (by simp only [World.size_alloc]; omega))
  have K2 := Lib.hid ((Bk.new' _ (w.heap.size + 1) _ _ (by simp)).below hb1 (by simp only [World.size_alloc]; omega))
  clear hb1
  obtain ⟨_, _, x2, x3⟩ := K1.out.four
  obtain ⟨_, _, y2, y3⟩ := K2.out.four
  have HB1 := Lib.hid hB1
  clear hB1
  go_wp2_with fail
  refine (eqTaskS_t h.ta h2.ta v.tn h.tc h2.tc HL.out.t (fun i => (v.tv i).st) (fun i => (v.tv i).gr) (fun i => (v.tv i).cp) (fun i => (v.tv i).ni) (fun i => (v.tv i).ma) (fun i => (v.tv i).vv) (fun i => (v.tv i).su) (fun i => (v.tv i).us) (fun i => (v.tv i).lo) _ w HB1.out HR.out.t HR2.out.t).mono ?_
  rintro e w2 ⟨rfl, hb2⟩
  have HB2 := Lib.hid (HB1.out.trans (hb2.mono HB1.out.size))
  obtain ⟨_, _, _, x3⟩ := (K1.out.below hb2 K1.out.lt).four
  obtain ⟨_, _, _, y3⟩ := (K2.out.below hb2 K2.out.lt).four
  clear hb2 HB1 K1 K2
  go_wp2_with fail
  refine (eqGroupS_t h.ga h2.ga v.gn h.gc h2.gc HL.out.g v.gv h.gh h2.gh HL.out.l _ w HB2.out HR.out.g HR2.out.g).mono ?_
  rintro e w3 ⟨rfl, hb3⟩
  have HB3 := Lib.hid (HB2.out.trans (hb3.mono HB2.out.size))
  clear hb3
  go_wp2
  go_ret
  exact ⟨rfl, HB3.out⟩
end Go.Proofs.Ytndbmeedimhohaa

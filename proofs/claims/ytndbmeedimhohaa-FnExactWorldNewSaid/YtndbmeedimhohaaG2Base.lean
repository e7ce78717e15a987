/- Trees: groups as data: what a group reads as, where its rows lie. -/
import Derived.Test.YtndbmeedimhohaaG1Base
import Derived.Test.YtndbmeedimhohaaB2Base
import Derived.Test.YtndbmeedimhohaaMem4
namespace Go.Proofs.Ytndbmeedimhohaa
open Go.RowKit
theorem OwnS.same {w w' : World} {g n sz : Nat} {el : Nat → List Value} (h : OwnS w g n sz el) (hh : w'.heap[g]? = w.heap[g]?) (hz : w.heap.size ≤ w'.heap.size) : OwnS w' g n sz el :=
  ⟨Nat.lt_of_lt_of_le h.1 hz, fun i hi j v hv => (World.cell?_of_block (a := ⟨g, _, none⟩) hh).trans (h.2.1 i hi j v hv), fun j hj => by
    rw [World.cell?_of_block (a := ⟨g, _, none⟩) hh, World.frozen?_of_block (a := ⟨g, _, none⟩) hh]; exact h.2.2 j hj⟩
theorem OwnS.off {w : World} {g n sz : Nat} {el : Nat → List Value} (h : OwnS w g n sz el) {p : Addr} (hp : g ≠ p.block) (u : Value) : OwnS (w.setCell p u) g n sz el :=
  h.same (Below.heap_setCell w p u g hp) (by simp)
theorem OwnS.rowOff {w : World} {g g' n sz : Nat} {el : Nat → List Value} (h : OwnS w g n sz el) (hp : g ≠ g') (xs : Array Value) : OwnS (w.setRow g' xs) g n sz el :=
  h.same (setRow_other w g' g xs hp) (by simp)
/-- What a group holds. -/
structure GV where
  us : Bool
  pa : Int
  nm : ByteArray
  we : Int
  cp : Int
  pe : Int
  ne : Int
  su : Int
  qu : Int
  po : Int
  sp : Int
  ln : Nat
  lf : Nat → Int
  dn : Nat
  df : Nat → Bool
  sn : Nat
  s0 : Nat → Int
  s1 : Nat → Bool
  s2 : Nat → Int
  s3 : Nat → Int
  s4 : Nat → Int
/-- Where the rows of a group lie. -/
structure GH where
  la : Option Addr
  lc : Nat
  da : Option Addr
  dc : Nat
  sa : Option Addr
  sc : Nat
instance : Inhabited GV := ⟨⟨false, 0, ByteArray.empty, 0, 0, 0, 0, 0, 0, 0, 0, 0, fun _ => 0, 0, fun _ => false, 0, fun _ => 0, fun _ => false, fun _ => 0, fun _ => 0, fun _ => 0⟩⟩
instance : Inhabited GH := ⟨⟨none, 0, none, 0, none, 0⟩⟩
def shC (g : GV) (i : Nat) : List Value := [.int .i64 (g.s0 i), .bool (g.s1 i), .int .i64 (g.s2 i), .int .i64 (g.s3 i), .int .i64 (g.s4 i)]
def grC (g : GV) (h : GH) : List Value := [.bool g.us, .int .i64 g.pa, .string g.nm, .int .i64 g.we, .int .i64 g.cp, .int .i64 g.pe, .int .i64 g.ne, .int .i64 g.su, .int .i64 g.qu, .int .i64 g.po, .int .i64 g.sp, .slice h.la g.ln h.lc, .slice h.da g.dn h.dc, .slice h.sa g.sn h.sc]
def grV (g : GV) (h : GH) : Value := .agg #[.bool g.us, .int .i64 g.pa, .string g.nm, .int .i64 g.we, .int .i64 g.cp, .int .i64 g.pe, .int .i64 g.ne, .int .i64 g.su, .int .i64 g.qu, .int .i64 g.po, .int .i64 g.sp, .slice h.la g.ln h.lc, .slice h.da g.dn h.dc, .slice h.sa g.sn h.sc]
/-- The rows of a group read as it says, below block B. -/
structure GRd (w : World) (B : Nat) (g : GV) (h : GH) : Prop where
  l : Rw w B h.la g.ln (fun j => .int .i64 (g.lf j))
  d : Rw w B h.da g.dn (fun j => .bool (g.df j))
  s : Rs w B h.sa g.sn 5 (shC g)
theorem GRd.below {w w' : World} {B : Nat} {g : GV} {h : GH} (r : GRd w B g h) (hb : Below B w w') : GRd w' B g h := ⟨r.l.below hb, r.d.below hb, r.s.below hb⟩
theorem GRd.more {w : World} {B B' : Nat} {g : GV} {h : GH} (r : GRd w B g h) (hB : B ≤ B') : GRd w B' g h := ⟨r.l.more hB, r.d.more hB, r.s.more hB⟩
theorem GRd.at_ {W w : World} {g : GV} {h : GH} (r : GRd W W.heap.size g h) (hb : Below W.heap.size W w) : GRd w w.heap.size g h := (r.below hb).more hb.size
/-- The slice with head A and n groups reads as g, its rows at h, all below block B. -/
structure GsRd (w : World) (B : Nat) (A : Option Addr) (n : Nat) (g : Nat → GV) (h : Nat → GH) : Prop where
  r : Rs w B A n 14 (fun i => grC (g i) (h i))
  d : ∀ i, i < n → GRd w B (g i) (h i)
theorem GsRd.below {w w' : World} {B n : Nat} {A : Option Addr} {g : Nat → GV} {h : Nat → GH} (r : GsRd w B A n g h) (hb : Below B w w') : GsRd w' B A n g h := ⟨r.r.below hb, fun i hi => (r.d i hi).below hb⟩
theorem GsRd.more {w : World} {B B' n : Nat} {A : Option Addr} {g : Nat → GV} {h : Nat → GH} (r : GsRd w B A n g h) (hB : B ≤ B') : GsRd w B' A n g h := ⟨r.r.more hB, fun i hi => (r.d i hi).more hB⟩
theorem GsRd.at_ {W w : World} {n : Nat} {A : Option Addr} {g : Nat → GV} {h : Nat → GH} (r : GsRd W W.heap.size A n g h) (hb : Below W.heap.size W w) : GsRd w w.heap.size A n g h := (r.below hb).more hb.size
/-- How long the rows of a group are. -/
structure GLen (g : GV) : Prop where
  nm : g.nm.size ≤ 1048576
  l : g.ln ≤ 1048576
  d : g.dn ≤ 1048576
  s : g.sn ≤ 1048576
/-- No row is longer than a length. -/
structure GBig (g : GV) : Prop where
  nm : (g.nm.size : Int) ≤ 9223372036854775807
  l : (g.ln : Int) ≤ 9223372036854775807
  d : (g.dn : Int) ≤ 9223372036854775807
  s : (g.sn : Int) ≤ 9223372036854775807
/-- A group's rows of the call's own, none two alike. -/
structure GOwn (w : World) (B : Nat) (g : GV) (h : GH) : Prop where
  l : OwnR w B h.la g.ln (fun j => .int .i64 (g.lf j))
  d : OwnR w B h.da g.dn (fun j => .bool (g.df j))
  s : OwnQ w B h.sa g.sn 5 (shC g)
theorem GOwn.rd {w : World} {B : Nat} {g : GV} {h : GH} (o : GOwn w B g h) : GRd w w.heap.size g h := ⟨o.l.rw_, o.d.rw_, o.s.rs⟩
theorem GOwn.below {w w' : World} {B B' : Nat} {g : GV} {h : GH} (o : GOwn w B g h) (hb : Below w.heap.size w w') (hB : B' ≤ B) : GOwn w' B' g h := ⟨o.l.below hb hB, o.d.below hb hB, o.s.below hb hB⟩
theorem GOwn.more {w : World} {B B' : Nat} {g : GV} {h : GH} (o : GOwn w B g h) (hB : B' ≤ B) : GOwn w B' g h := ⟨o.l.more hB, o.d.more hB, o.s.more hB⟩
theorem GOwn.off {w : World} {B : Nat} {g : GV} {h : GH} (o : GOwn w B g h) {p : Addr} (hp : p.block < B) (u : Value) : GOwn (w.setCell p u) B g h := ⟨o.l.off hp u, o.d.off hp u, o.s.off hp u⟩
theorem GOwn.kept {p : Nat → Prop} {w w' : World} {B : Nat} {g : GV} {h : GH} (o : GOwn w B g h) (hk : Kept p w w') (hp : ∀ k, B ≤ k → ¬ p k) : GOwn w' B g h :=
  ⟨o.l.kept hk (fun _ k hk _ => hp k hk), o.d.kept hk (fun _ k hk _ => hp k hk), o.s.kept hk (fun _ k hk _ => hp k hk)⟩
theorem Kept.setCells {p : Nat → Prop} {a : World} (b : Nat) (hq : p b) : ∀ (vs : List Value) (o : Nat) (w : World), Kept p a w → Kept p a (w.setCells b o vs)
  | [], _, _, h => h
  | v :: r, o, w, h => by
    rw [World.setCells]
    exact Kept.setCells b hq r (o + 1) _ (h.setCell (q := ⟨b, o, none⟩) hq v)
theorem GOwn.rowsOff {w : World} {B b : Nat} {g : GV} {h : GH} (o : GOwn w B g h) (hb : b < B) (k : Nat) (vs : List Value) : GOwn (w.setCells b k vs) B g h :=
  o.kept (p := fun x => x = b) (Kept.setCells (p := fun x => x = b) b rfl vs k w (Kept.refl _ w)) (fun k hk e => by omega)
theorem OwnV.ownR {w : World} {B g n : Nat} {f : Nat → Value} (o : OwnV w g n f) (hB : B ≤ g) : OwnR w B (some ⟨g, 0, none⟩) n f := fun _ => ⟨g, rfl, hB, o⟩
theorem OwnS.ownQ {w : World} {B g n sz : Nat} {el : Nat → List Value} (o : OwnS w g n sz el) (hB : B ≤ g) : OwnQ w B (some ⟨g, 0, none⟩) n sz el := fun _ => ⟨g, rfl, hB, o⟩
theorem grC_length (g : GV) (h : GH) : (grC g h).length = 14 := rfl
theorem shC_length (g : GV) (i : Nat) : (shC g i).length = 5 := rfl
end Go.Proofs.Ytndbmeedimhohaa

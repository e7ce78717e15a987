/- Bands: marks on a band whose two rows differ in length; the copy of an operation. -/
import Derived.Test.YtbgmjcfnehnicaaB21Base
namespace Go.Proofs.Ytbgmjcfnehnicaa
open Go.RowKit
/-- The rows of a copied argument. -/
def Rows3 (w : World) (B : Nat) (A A' : Option Addr) (n m : Nat) (f f' : Nat → Value) : Prop := OwnR w B A n f ∧ OwnR w B A' m f' ∧ (∀ x, hd A x → ¬ hd A' x)
def hd3 (B : Nat) (A A' : Option Addr) (n m : Nat) (b : Nat) : Prop := (0 < n ∧ B ≤ b ∧ hd A b) ∨ (0 < m ∧ B ≤ b ∧ hd A' b)
theorem hd3.ge {B : Nat} {A A' : Option Addr} {n m b : Nat} (h : hd3 B A A' n m b) : B ≤ b := by
  rcases h with h | h
  · exact h.2.1
  · exact h.2.1
theorem hd3.hd {B : Nat} {A A' : Option Addr} {n m b : Nat} (h : hd3 B A A' n m b) : hd A b ∨ hd A' b := by
  rcases h with h | h
  · exact .inl h.2.2
  · exact .inr h.2.2
theorem Rows3.below {w w' : World} {B n m : Nat} {A A' : Option Addr} {f f' : Nat → Value} (h : Rows3 w B A A' n m f f') (hb : Below w.heap.size w w') : Rows3 w' B A A' n m f f' :=
  ⟨h.1.below hb (Nat.le_refl _), h.2.1.below hb (Nat.le_refl _), h.2.2⟩
set_option maxHeartbeats 400000 in
theorem markBand3_any (q p s : Int) (A A' : Option Addr) (n m c c' B : Nat) (k : Int) (h0 : 0 ≤ k) (hk : k ≤ 1000000) (hn : n ≤ 1048576) (hm : m ≤ 1048576) (f f' : Nat → Value) (w : World) (hA : Rows3 w B A A' n m f f') :
    Calls Try.prog 12 #[.agg #[.int .i64 q, .int .i64 p, .int .i64 s, .slice A n c, .slice A' m c'], .int .i64 k] w fun e w' => e = .returned (.int .i64 (k + n + m)) ∧ Kept (hd3 B A A' n m) w w' := by
  have HAP := Lib.hid hA.2.2
  have hlx := (Below.refl w.heap.size w).alloc (Nat.le_refl _) (.cells #[.int .i64 q, .int .i64 p, .int .i64 s, .slice A n c, .slice A' m c'] 25)
  have HA := Lib.hid (hA.1.below hlx (Nat.le_refl B))
  have HA' := Lib.hid (hA.2.1.below hlx (Nat.le_refl B))
  have HUB := Lib.hid (hA.1.ub)
  have kb := Lib.hid (Bk.new w 25 #[.int .i64 q, .int .i64 p, .int .i64 s, .slice A n c, .slice A' m c'])
  clear hA hlx
  have hk2 : k + n ≤ 1000000000 := by omega
  go_enter Try.func12, Try.ntmps12
  go_wp2_with fail
  refine (markIntS_any A n c B k h0 (by omega) hn f _ HA.out).mono ?_
  rintro e w1 ⟨rfl, hk1, ho1⟩
  have k1 := kb.out.kept hk1 (fun hh => by have := HUB.out hh.1 _ hh.2.2; omega)
  have HA1 := Lib.hid (HA'.out.kept hk1 (fun hn0 j _ h2 h3 => HAP.out j h3.2.2 h2))
  have HK1 := Lib.hid hk1
  obtain ⟨_, _, _, _, c4⟩ := k1.five
  clear hk1 ho1 k1 kb
  go_wp2_with fail
  refine (markBoolS_any A' m c' B (k + n) (by omega) hk2 hm f' _ HA1.out).mono ?_
  rintro e w2 ⟨rfl, hk2, ho2⟩
  have HK2 := Lib.hid hk2
  clear hk2 ho2
  go_wp2
  go_ret
  exact ⟨rfl, ((Kept.of ((Below.refl w.heap.size w).alloc (Nat.le_refl _) _)).trans (HK1.out.mono fun j _ h => .inl h)).trans (HK2.out.mono fun j _ h => .inr h)⟩
set_option maxHeartbeats 400000 in
theorem toBandOp_any (x0 x1 x2 : Int) (w W : World) (hb : Below W.heap.size W w) :
    Calls Try.prog 25 #[.agg #[.int .i64 x0, .int .i64 x1, .int .i64 x2]] w fun e w' => e = .returned (.agg #[.int .i64 x0, .int .i64 x1, .int .i64 x2]) ∧ Below W.heap.size W w' := by
  have hz := hb.size
  go_enter Try.func25, Try.ntmps25
  go_wp2
  go_returns
  exact ⟨rfl, by go_grown⟩
end Go.Proofs.Ytbgmjcfnehnicaa

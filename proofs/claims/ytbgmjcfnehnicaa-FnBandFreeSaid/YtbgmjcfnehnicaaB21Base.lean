/- Bands: marks on a band, and that they are held. -/
import Derived.Test.YtbgmjcfnehnicaaB20Base
namespace Go.Proofs.Ytbgmjcfnehnicaa
open Go.RowKit
/-- The rows of a band of the call's own. -/
def Rows2 (w : World) (B : Nat) (A A' : Option Addr) (n : Nat) (f f' : Nat → Value) : Prop := OwnR w B A n f ∧ OwnR w B A' n f' ∧ (0 < n → ∀ x, hd A x → ¬ hd A' x)
def hd2 (B : Nat) (A A' : Option Addr) (n : Nat) (b : Nat) : Prop := 0 < n ∧ B ≤ b ∧ (hd A b ∨ hd A' b)
theorem Rows2.below {w w' : World} {B n : Nat} {A A' : Option Addr} {f f' : Nat → Value} (h : Rows2 w B A A' n f f') (hb : Below w.heap.size w w') : Rows2 w' B A A' n f f' :=
  ⟨h.1.below hb (Nat.le_refl _), h.2.1.below hb (Nat.le_refl _), h.2.2⟩
theorem Rows2.kept {p : Nat → Prop} {w w' : World} {B n : Nat} {A A' : Option Addr} {f f' : Nat → Value} (h : Rows2 w B A A' n f f') (hk : Kept p w w') (hp : 0 < n → ∀ k, B ≤ k → hd A k ∨ hd A' k → ¬ p k) : Rows2 w' B A A' n f f' :=
  ⟨h.1.kept hk (fun hn k hB hh => hp hn k hB (.inl hh)), h.2.1.kept hk (fun hn k hB hh => hp hn k hB (.inr hh)), h.2.2⟩
theorem OwnR.ub {w : World} {B n : Nat} {A : Option Addr} {f : Nat → Value} (h : OwnR w B A n f) : 0 < n → ∀ k, hd A k → k < w.heap.size := fun hn k ⟨o, hk⟩ => by
  obtain ⟨g, ha, _, ho⟩ := h hn
  rw [ha] at hk
  simp at hk
  have := ho.1
  omega
theorem Rows2.ub {w : World} {B n : Nat} {A A' : Option Addr} {f f' : Nat → Value} (h : Rows2 w B A A' n f f') : 0 < n → ∀ k, hd A k ∨ hd A' k → k < w.heap.size := fun hn k hh => by
  rcases hh with hh | hh
  · exact h.1.ub hn k hh
  · exact h.2.1.ub hn k hh
set_option maxHeartbeats 400000 in
theorem markBand_any (q p s : Int) (A A' : Option Addr) (n c c' B : Nat) (k : Int) (h0 : 0 ≤ k) (hk : k ≤ 1000000) (hn : n ≤ 1048576) (f f' : Nat → Value) (w : World) (hA : Rows2 w B A A' n f f') :
    Calls Try.prog 12 #[.agg #[.int .i64 q, .int .i64 p, .int .i64 s, .slice A n c, .slice A' n c'], .int .i64 k] w fun e w' => e = .returned (.int .i64 (k + n + n)) ∧ Kept (hd2 B A A' n) w w' ∧ Rows2 w' B A A' n (fun i => markVIntS (k + i)) (fun i => markVBoolS (k + n + i)) := by
  have HAP := Lib.hid hA.2.2
  have hlx := (Below.refl w.heap.size w).alloc (Nat.le_refl _) (.cells #[.int .i64 q, .int .i64 p, .int .i64 s, .slice A n c, .slice A' n c'] 25)
  have HA := Lib.hid (hA.1.below hlx (Nat.le_refl B))
  have HA' := Lib.hid (hA.2.1.below hlx (Nat.le_refl B))
  have HUB := Lib.hid (hA.ub)
  have kb := Lib.hid (Bk.new w 25 #[.int .i64 q, .int .i64 p, .int .i64 s, .slice A n c, .slice A' n c'])
  clear hA hlx
  have hk2 : k + n ≤ 1000000000 := by omega
  go_enter Try.func12, Try.ntmps12
  go_wp2_with fail
  refine (markIntS_any A n c B k h0 (by omega) hn f _ HA.out).mono ?_
  rintro e w1 ⟨rfl, hk1, ho1⟩
  have k1 := kb.out.kept hk1 (fun hh => by have := HUB.out hh.1 _ (.inl hh.2.2); omega)
  have HA1 := Lib.hid (HA'.out.kept hk1 (fun hn0 j _ h2 h3 => HAP.out hn0 j h3.2.2 h2))
  have HO1 := Lib.hid ho1
  have HK1 := Lib.hid hk1
  obtain ⟨_, _, _, _, c4⟩ := k1.five
  clear hk1 ho1 k1 kb
  go_wp2_with fail
  refine (markBoolS_any A' n c' B (k + n) (by omega) hk2 hn f' _ HA1.out).mono ?_
  rintro e w2 ⟨rfl, hk2, ho2⟩
  have HO2 := Lib.hid ho2
  have HO3 := Lib.hid (HO1.out.kept hk2 (fun hn0 j _ h2 h3 => HAP.out hn0 j h2 h3.2.2))
  have HK2 := Lib.hid hk2
  clear hk2 ho2
  go_wp2
  go_ret
  refine ⟨rfl, ((Kept.of ((Below.refl w.heap.size w).alloc (Nat.le_refl _) _)).trans (HK1.out.mono fun j _ h => ⟨h.1, h.2.1, .inl h.2.2⟩)).trans (HK2.out.mono fun j _ h => ⟨h.1, h.2.1, .inr h.2.2⟩), HO3.out, HO2.out, HAP.out⟩
set_option maxHeartbeats 400000 in
theorem heldBand_any (q p s : Int) (A A' : Option Addr) (n c c' : Nat) (k : Int) (h0 : 0 ≤ k) (hk : k ≤ 1000000) (hn : n ≤ 1048576) (w W : World) (hb : Below W.heap.size W w) (hA : Rw W W.heap.size A n (fun i => markVIntS (k + i))) (hA' : Rw W W.heap.size A' n (fun i => markVBoolS (k + n + i))) :
    Calls Try.prog 13 #[.agg #[.int .i64 q, .int .i64 p, .int .i64 s, .slice A n c, .slice A' n c'], .int .i64 k] w fun e w' => e = .returned (.int .i64 (k + n + n)) ∧ Below w.heap.size w w' := by
  have HA := Lib.hid (hA.at_ hb)
  have HA' := Lib.hid (hA'.at_ hb)
  clear hA hA'
  have hp : 0 ≤ k + n := by omega
  have hp2 : 0 ≤ k + n + n := by omega
  go_enter Try.func13, Try.ntmps13
  go_wp2_with (first | (go_at_call 32; refine (heldIntS_any A n c k h0 (by omega) hn _ w ((Below.refl _ w).alloc (Nat.le_refl _) _) HA.out).mono ?_; rintro e w1 ⟨rfl, rfl⟩) | (go_at_call 33; refine (heldBoolS_any A' n c' (k + n) (by omega) (by omega) hn _ w ((Below.refl _ w).alloc (Nat.le_refl _) _) HA'.out).mono ?_; rintro e w1 ⟨rfl, rfl⟩))
  go_ret
  exact ⟨rfl, (Below.refl _ w).alloc (Nat.le_refl _) _⟩
end Go.Proofs.Ytbgmjcfnehnicaa

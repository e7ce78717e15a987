/-
  Bands: spec's BandDo whole; BandNew; marks on bands.
-/
import Derived.Test.YtfckhpkebdpkbaaPlayK1
import Derived.Test.YtfckhpkebdpkbaaPlayK2
import Derived.Test.YtfckhpkebdpkbaaPlayK3
import Derived.Test.YtfckhpkebdpkbaaPlayK4
import Derived.Test.YtfckhpkebdpkbaaPlayL3
import Derived.WalkKit
import Derived.WalkSpells
import Derived.Lib.Hide
namespace Go.Proofs.Ytfckhpkebdpkbaa
open Go.RowKit
theorem sBandDoR_any (q p s : Int) (A A' : Option Addr) (n m c c' : Nat) (hn : n ≤ 1048576) (hm : m ≤ 1048576) (f : Nat → Int) (f' : Nat → Bool) (kind cpu k : Int) (w W : World) (hb : Below W.heap.size W w)
    (hA : Rw W W.heap.size A n fun i => .int .i64 (f i)) (hA' : Rw W W.heap.size A' m fun i => .bool (f' i)) :
    Calls Try.prog 22 #[.agg #[.int .i64 q, .int .i64 p, .int .i64 s, .slice A n c, .slice A' m c'], .agg #[.int .i64 kind, .int .i64 cpu, .int .i64 k]] w (DoPostR 3 (bandOk q p s n m f f') q n (bandStep q n kind cpu k ⟨p, s, f, f'⟩) w) := by
  by_cases e4 : kind = 4
  · subst e4
    exact sBandDo_k4 q p s A A' n m c c' hn hm f f' cpu k w W hb hA hA'
  cases ec : inR cpu 0 ((n : Int) - 1)
  · exact sBandDo_out q p s A A' n m c c' hn hm f f' kind cpu k w W hb e4 ec hA hA'
  by_cases e1 : kind = 1
  · subst e1
    exact sBandDo_k1 q p s A A' n m c c' hn hm f f' cpu k w W hb ec hA hA'
  by_cases e2 : kind = 2
  · subst e2
    exact sBandDo_k2 q p s A A' n m c c' hn hm f f' cpu k w W hb ec hA hA'
  by_cases e3 : kind = 3
  · subst e3
    exact sBandDo_k3 q p s A A' n m c c' hn hm f f' cpu k w W hb ec hA hA'
  exact sBandDo_els q p s A A' n m c c' hn hm f f' kind cpu k w W hb ec e1 e2 e3 e4 hA hA'
theorem sBandDo_any (q p s : Int) (A A' : Option Addr) (n m c c' : Nat) (hn : n ≤ 1048576) (hm : m ≤ 1048576) (f : Nat → Int) (f' : Nat → Bool) (kind cpu k : Int) (w W : World) (hb : Below W.heap.size W w)
    (hA : Rw W W.heap.size A n fun i => .int .i64 (f i)) (hA' : Rw W W.heap.size A' m fun i => .bool (f' i)) :
    Calls Try.prog 22 #[.agg #[.int .i64 q, .int .i64 p, .int .i64 s, .slice A n c, .slice A' m c'], .agg #[.int .i64 kind, .int .i64 cpu, .int .i64 k]] w (DoPost (bandOk q p s n m f f') q n (bandStep q n kind cpu k ⟨p, s, f, f'⟩) w) := by
  exact (sBandDoR_any q p s A A' n m c c' hn hm f f' kind cpu k w W hb hA hA').mono fun e w' h => h.1
/-- What BandNew returns, and what of it lies in memory. -/
def NBPost (ok : Bool) (q : Int) (n : Nat) (w : World) (e : Ending) (w' : World) : Prop :=
  ∃ Al cl Ad cd, e = .returned (.tuple #[.agg #[.int .i64 (doQ ok q), .int .i64 (doQ ok q), .int .i64 0, .slice Al (doN ok n) cl, .slice Ad (doN ok n) cd], .bool ok]) ∧
    OwnR w' w.heap.size Al (doN ok n) (fun _ => .int .i64 0) ∧ OwnR w' w.heap.size Ad (doN ok n) (fun _ => .bool false) ∧ (0 < doN ok n → ∀ x, hd Al x → ¬ hd Ad x) ∧ Below w.heap.size w w'
theorem NBPost.no {q : Int} {n : Nat} {w w' : World} (hb : Below w.heap.size w w') :
    NBPost false q n w (.returned (.tuple #[.agg #[.int .i64 0, .int .i64 0, .int .i64 0, .slice none 0 0, .slice none 0 0], .bool false])) w' :=
  ⟨none, 0, none, 0, rfl, fun h => absurd h (Nat.lt_irrefl 0), fun h => absurd h (Nat.lt_irrefl 0), fun h => absurd h (Nat.lt_irrefl 0), hb⟩
theorem NBPost.yes {q : Int} {n : Nat} {w w' : World} {gl gd cl cd : Nat} (hl : OwnV w' gl n (fun _ => .int .i64 0)) (hd : OwnV w' gd n (fun _ => .bool false)) (h1 : w.heap.size ≤ gl) (h2 : w.heap.size ≤ gd) (h3 : gl ≠ gd) (hb : Below w.heap.size w w') :
    NBPost true q n w (.returned (.tuple #[.agg #[.int .i64 q, .int .i64 q, .int .i64 0, .slice (some ⟨gl, 0, none⟩) n cl, .slice (some ⟨gd, 0, none⟩) n cd], .bool true])) w' := by
  refine ⟨_, cl, _, cd, rfl, fun _ => ⟨gl, rfl, h1, hl⟩, fun _ => ⟨gd, rfl, h2, hd⟩, fun _ x hx hy => ?_, hb⟩
  obtain ⟨o1, e1⟩ := hx
  obtain ⟨o2, e2⟩ := hy
  simp at e1 e2
  omega
def NBPostR (t : TypeId) (ok : Bool) (q : Int) (n : Nat) (w : World) (e : Ending) (w' : World) : Prop :=
  NBPost ok q n w e w' ∧ (∀ a b s g o c d k, e = .returned (.tuple #[.agg #[a, b, s, .slice (some ⟨g, o, none⟩) n c, d], k]) → RoomV t w' g n c)
theorem NBPostR.no {t : TypeId} {q : Int} {n : Nat} {w w' : World} (hb : Below w.heap.size w w') :
    NBPostR t false q n w (.returned (.tuple #[.agg #[.int .i64 0, .int .i64 0, .int .i64 0, .slice none 0 0, .slice none 0 0], .bool false])) w' :=
  ⟨NBPost.no hb, fun a b s g o c d k e => by simp at e⟩
theorem NBPostR.yes {t : TypeId} {q : Int} {n : Nat} {w w' : World} {gl gd cl cd : Nat} (hr : RoomV t w' gl n cl) (hl : OwnV w' gl n (fun _ => .int .i64 0)) (hd : OwnV w' gd n (fun _ => .bool false)) (h1 : w.heap.size ≤ gl) (h2 : w.heap.size ≤ gd) (h3 : gl ≠ gd) (hb : Below w.heap.size w w') :
    NBPostR t true q n w (.returned (.tuple #[.agg #[.int .i64 q, .int .i64 q, .int .i64 0, .slice (some ⟨gl, 0, none⟩) n cl, .slice (some ⟨gd, 0, none⟩) n cd], .bool true])) w' :=
  ⟨NBPost.yes hl hd h1 h2 h3 hb, fun a b s g o c d k e => by
    simp at e
    obtain ⟨⟨_, _, _, ⟨⟨rfl, _⟩, rfl⟩, _⟩, _⟩ := e
    exact hr⟩
def newBOk (q c : Int) : Bool := inR q 1 10000 && inR c 1 4
end Go.Proofs.Ytfckhpkebdpkbaa

/- Bands: marks on a band, and that they are held. -/
namespace Go.Proofs.Ytfckhpkebdpkbaa
open Go.RowKit
/-- The rows of a band of the call's own. -/
def Rows2 (w : World) (B : Nat) (A A' : Option Addr) (n : Nat) (f f' : Nat → Value) : Prop := OwnR w B A n f ∧ OwnR w B A' n f' ∧ (0 < n → ∀ x, hd A x → ¬ hd A' x)
def hd2 (B : Nat) (A A' : Option Addr) (n : Nat) (b : Nat) : Prop := 0 < n ∧ B ≤ b ∧ (hd A b ∨ hd A' b)
theorem Rows2.below {w w' : World} {B n : Nat} {A A' : Option Addr} {f f' : Nat → Value} (h : Rows2 w B A A' n f f') (hb : Below w.heap.size w w') : Rows2 w' B A A' n f f' :=
  ⟨h.1.below hb (Nat.le_refl _), h.2.1.below hb (Nat.le_refl _), h.2.2⟩
theorem Rows2.kept {p : Nat → Prop} {w w' : World} {B n : Nat} {A A' : Option Addr} {f f' : Nat → Value} (h : Rows2 w B A A' n f f') (hk : Kept p w w') (hp : 0 < n → ∀ k, B ≤ k → hd A k ∨ hd A' k → ¬ p k) : Rows2 w' B A A' n f f' :=
  ⟨h.1.kept hk (fun hn k hB hh => hp hn k hB (.inl hh)), h.2.1.kept hk (fun hn k hB hh => hp hn k hB (.inr hh)), h.2.2⟩
theorem OwnR.ub {w : World} {B n : Nat} {A : Option Addr} {f : Nat → Value} (h : OwnR w B A n f) : 0 < n → ∀ k, hd A k → k < w.heap.size := fun hn k ⟨o, hk⟩ => by
  obtain ⟨g, ha, _, ho⟩ := h hn
  rw [ha] at hk
  simp at hk
  have := ho.1
  omega
theorem Rows2.ub {w : World} {B n : Nat} {A A' : Option Addr} {f f' : Nat → Value} (h : Rows2 w B A A' n f f') : 0 < n → ∀ k, hd A k ∨ hd A' k → k < w.heap.size := fun hn k hh => by
  rcases hh with hh | hh
  · exact h.1.ub hn k hh
  · exact h.2.1.ub hn k hh
set_option maxHeartbeats 400000 in
theorem markBand_any (q p s : Int) (A A' : Option Addr) (n c c' B : Nat) (k : Int) (h0 : 0 ≤ k) (hk : k ≤ 1000000) (hn : n ≤ 1048576) (f f' : Nat → Value) (w : World) (hA : Rows2 w B A A' n f f') :
    Calls Try.prog 13 #[.agg #[.int .i64 q, .int .i64 p, .int .i64 s, .slice A n c, .slice A' n c'], .int .i64 k] w fun e w' => e = .returned (.int .i64 (k + n + n)) ∧ Kept (hd2 B A A' n) w w' ∧ Rows2 w' B A A' n (fun i => markVIntS (k + i)) (fun i => markVBoolS (k + n + i)) := by
  have HAP := Lib.hid hA.2.2
  have hlx := (Below.refl w.heap.size w).alloc (Nat.le_refl _) (.cells #[.int .i64 q, .int .i64 p, .int .i64 s, .slice A n c, .slice A' n c'] 29)
  have HA := Lib.hid (hA.1.below hlx (Nat.le_refl B))
  have HA' := Lib.hid (hA.2.1.below hlx (Nat.le_refl B))
  have HUB := Lib.hid (hA.ub)
  have kb := Lib.hid (Bk.new w 29 #[.int .i64 q, .int .i64 p, .int .i64 s, .slice A n c, .slice A' n c'])
  clear hA hlx
  have hk2 : k + n ≤ 1000000000 := by omega
  go_enter Try.func13, Try.ntmps13
  go_wp2_with fail
  refine (markIntS_any A n c B k h0 (by omega) hn f _ HA.out).mono ?_
  rintro e w1 ⟨rfl, hk1, ho1⟩
  have k1 := kb.out.kept hk1 (fun hh => by have := HUB.out hh.1 _ (.inl hh.2.2); omega)
  have HA1 := Lib.hid (HA'.out.kept hk1 (fun hn0 j _ h2 h3 => HAP.out hn0 j h3.2.2 h2))
  have HO1 := Lib.hid ho1
  have HK1 := Lib.hid hk1
  obtain ⟨_, _, _, _, c4⟩ := k1.five
  clear hk1 ho1 k1 kb
  go_wp2_with fail
  refine (markBoolS_any A' n c' B (k + n) (by omega) hk2 hn f' _ HA1.out).mono ?_
  rintro e w2 ⟨rfl, hk2, ho2⟩
  have HO2 := Lib.hid ho2
  have HO3 := Lib.hid (HO1.out.kept hk2 (fun hn0 j _ h2 h3 => HAP.out hn0 j h2 h3.2.2))
  have HK2 := Lib.hid hk2
  clear hk2 ho2
  go_wp2
  go_ret
  refine ⟨rfl, ((Kept.of ((Below.refl w.heap.size w).alloc (Nat.le_refl _) _)).trans (HK1.out.mono fun j _ h => ⟨h.1, h.2.1, .inl h.2.2⟩)).trans (HK2.out.mono fun j _ h => ⟨h.1, h.2.1, .inr h.2.2⟩), HO3.out, HO2.out, HAP.out⟩
set_option maxHeartbeats 400000 in
theorem heldBand_any (q p s : Int) (A A' : Option Addr) (n c c' : Nat) (k : Int) (h0 : 0 ≤ k) (hk : k ≤ 1000000) (hn : n ≤ 1048576) (w W : World) (hb : Below W.heap.size W w) (hA : Rw W W.heap.size A n (fun i => markVIntS (k + i))) (hA' : Rw W W.heap.size A' n (fun i => markVBoolS (k + n + i))) :
    Calls Try.prog 16 #[.agg #[.int .i64 q, .int .i64 p, .int .i64 s, .slice A n c, .slice A' n c'], .int .i64 k] w fun e w' => e = .returned (.int .i64 (k + n + n)) ∧ Below w.heap.size w w' := by
  have HA := Lib.hid (hA.at_ hb)
  have HA' := Lib.hid (hA'.at_ hb)
  clear hA hA'
  have hp : 0 ≤ k + n := by omega
  have hp2 : 0 ≤ k + n + n := by omega
  go_enter Try.func16, Try.ntmps16
  go_wp2_with (first | (go_at_call 17; refine (heldIntS_any A n c k h0 (by omega) hn _ w ((Below.refl _ w).alloc (Nat.le_refl _) _) HA.out).mono ?_; rintro e w1 ⟨rfl, rfl⟩) | (go_at_call 36; refine (heldBoolS_any A' n c' (k + n) (by omega) (by omega) hn _ w ((Below.refl _ w).alloc (Nat.le_refl _) _) HA'.out).mono ?_; rintro e w1 ⟨rfl, rfl⟩))
  go_ret
  exact ⟨rfl, (Below.refl _ w).alloc (Nat.le_refl _) _⟩
end Go.Proofs.Ytfckhpkebdpkbaa

/- Bands: marks on a band whose two rows differ in length; the copy of an operation. -/
namespace Go.Proofs.Ytfckhpkebdpkbaa
open Go.RowKit
/-- The rows of a copied argument. -/
def Rows3 (w : World) (B : Nat) (A A' : Option Addr) (n m : Nat) (f f' : Nat → Value) : Prop := OwnR w B A n f ∧ OwnR w B A' m f' ∧ (∀ x, hd A x → ¬ hd A' x)
def hd3 (B : Nat) (A A' : Option Addr) (n m : Nat) (b : Nat) : Prop := (0 < n ∧ B ≤ b ∧ hd A b) ∨ (0 < m ∧ B ≤ b ∧ hd A' b)
theorem hd3.ge {B : Nat} {A A' : Option Addr} {n m b : Nat} (h : hd3 B A A' n m b) : B ≤ b := by
  rcases h with h | h
  · exact h.2.1
  · exact h.2.1
theorem hd3.hd {B : Nat} {A A' : Option Addr} {n m b : Nat} (h : hd3 B A A' n m b) : hd A b ∨ hd A' b := by
  rcases h with h | h
  · exact .inl h.2.2
  · exact .inr h.2.2
theorem Rows3.below {w w' : World} {B n m : Nat} {A A' : Option Addr} {f f' : Nat → Value} (h : Rows3 w B A A' n m f f') (hb : Below w.heap.size w w') : Rows3 w' B A A' n m f f' :=
  ⟨h.1.below hb (Nat.le_refl _), h.2.1.below hb (Nat.le_refl _), h.2.2⟩
set_option maxHeartbeats 400000 in
theorem markBand3_any (q p s : Int) (A A' : Option Addr) (n m c c' B : Nat) (k : Int) (h0 : 0 ≤ k) (hk : k ≤ 1000000) (hn : n ≤ 1048576) (hm : m ≤ 1048576) (f f' : Nat → Value) (w : World) (hA : Rows3 w B A A' n m f f') :
    Calls Try.prog 13 #[.agg #[.int .i64 q, .int .i64 p, .int .i64 s, .slice A n c, .slice A' m c'], .int .i64 k] w fun e w' => e = .returned (.int .i64 (k + n + m)) ∧ Kept (hd3 B A A' n m) w w' := by
  have HAP := Lib.hid hA.2.2
  have hlx := (Below.refl w.heap.size w).alloc (Nat.le_refl _) (.cells #[.int .i64 q, .int .i64 p, .int .i64 s, .slice A n c, .slice A' m c'] 29)
  have HA := Lib.hid (hA.1.below hlx (Nat.le_refl B))
  have HA' := Lib.hid (hA.2.1.below hlx (Nat.le_refl B))
  have HUB := Lib.hid (hA.1.ub)
  have kb := Lib.hid (Bk.new w 29 #[.int .i64 q, .int .i64 p, .int .i64 s, .slice A n c, .slice A' m c'])
  clear hA hlx
  have hk2 : k + n ≤ 1000000000 := by omega
  go_enter Try.func13, Try.ntmps13
  go_wp2_with fail
  refine (markIntS_any A n c B k h0 (by omega) hn f _ HA.out).mono ?_
  rintro e w1 ⟨rfl, hk1, ho1⟩
  have k1 := kb.out.kept hk1 (fun hh => by have := HUB.out hh.1 _ hh.2.2; omega)
  have HA1 := Lib.hid (HA'.out.kept hk1 (fun hn0 j _ h2 h3 => HAP.out j h3.2.2 h2))
  have HK1 := Lib.hid hk1
  obtain ⟨_, _, _, _, c4⟩ := k1.five
  clear hk1 ho1 k1 kb
  go_wp2_with fail
  refine (markBoolS_any A' m c' B (k + n) (by omega) hk2 hm f' _ HA1.out).mono ?_
  rintro e w2 ⟨rfl, hk2, ho2⟩
  have HK2 := Lib.hid hk2
  clear hk2 ho2
  go_wp2
  go_ret
  exact ⟨rfl, ((Kept.of ((Below.refl w.heap.size w).alloc (Nat.le_refl _) _)).trans (HK1.out.mono fun j _ h => .inl h)).trans (HK2.out.mono fun j _ h => .inr h)⟩
set_option maxHeartbeats 400000 in
theorem toBandOp_any (x0 x1 x2 : Int) (w W : World) (hb : Below W.heap.size W w) :
    Calls Try.prog 25 #[.agg #[.int .i64 x0, .int .i64 x1, .int .i64 x2]] w fun e w' => e = .returned (.agg #[.int .i64 x0, .int .i64 x1, .int .i64 x2]) ∧ Below W.heap.size W w' := by
  have hz := hb.size
  go_enter Try.func25, Try.ntmps25
  go_wp2
  go_returns
  exact ⟨rfl, by go_grown⟩
end Go.Proofs.Ytfckhpkebdpkbaa

/- Marks: operations on bands. -/
namespace Go.Proofs.Ytfckhpkebdpkbaa
open Go.RowKit

def markEBandOp (kk : Int) : List Value := [.int .i64 (kk), .int .i64 (kk + 1), .int .i64 (kk + 1 + 1)]
theorem len3 {l : List Value} (h : l.length = 3) : ∃ u0 u1 u2, l = [u0, u1, u2] := by
  match l, h with
  | [a, b, c], _ => exact ⟨a, b, c, rfl⟩
set_option maxHeartbeats 1000000 in
theorem markBandOpS_any (A : Option Addr) (n c B : Nat) (k : Int) (h0 : 0 ≤ k) (hk : k ≤ 1000000000) (hn : n ≤ 1048576) (el : Nat → List Value) (hel : ∀ i, (el i).length = 3) (w : World) (hA : OwnQ w B A n 3 el) :
    Calls Try.prog 14 #[.slice A n c, .int .i64 k] w fun e w' => e = .returned (.int .i64 (k + 3 * n)) ∧ Kept (fun b => 0 < n ∧ B ≤ b ∧ hd A b) w w' ∧ OwnQ w' B A n 3 (fun i => markEBandOp (k + 3 * i)) := by
  rcases Nat.eq_zero_or_pos n with h1 | h1
  · subst h1
    go_enter Try.func14, Try.ntmps14
    go_wp2
    refine wp_loop_rounds 1 ?_
    rw [rounds_succ]
    go_wp2
    go_ret
    exact ⟨ret_intM (by omega), Kept.refl _ _, fun h => absurd h (by omega)⟩
  · obtain ⟨g, rfl, hB, ho⟩ := hA h1
    have HO := Lib.hid ho
    clear hA ho
    go_enter Try.func14, Try.ntmps14
    go_wp2
    go_loopw [1, 5] (fun t i wr => ∃ j : Nat, j ≤ n ∧ i = .int .i64 j ∧ t = .int .i64 (k + 3 * j) ∧ Hid (OwnS wr g n 3 (fun i => if i < j then markEBandOp (k + 3 * i) else el i)) ∧ Hid (Kept (fun b => 0 < n ∧ B ≤ b ∧ hd (some ⟨g, 0, none⟩) b) w wr)) (fun _ i _ => n - (intOf i).toNat)
    case atStart => exact ⟨0, Nat.zero_le _, rfl, by go_num, HO.out.congr (fun i _ => by simp), Kept.refl _ _⟩
    case round =>
      obtain ⟨j, hj, rfl, rfl, HV, HK⟩ := hrel
      by_cases hlt : j < n
      · have hlj : (el j).length = 3 := hel j
        obtain ⟨u0, u1, u2, huj⟩ : ∃ u0 u1 u2, el j = [u0, u1, u2] := len3 hlj
        have c0 := HV.out.cell j hlt 0 u0 (by simp [huj])
        have c1 := HV.out.cell j hlt 1 u1 (by simp [huj])
        have c2 := HV.out.cell j hlt 2 u2 (by simp [huj])
        have f0 := HV.out.free j hlt 0 (by omega)
        have f1 := HV.out.free j hlt 1 (by omega)
        have f2 := HV.out.free j hlt 2 (by omega)
        simp only [Nat.add_zero] at c0 f0
        obtain ⟨kk, hkk⟩ : ∃ kk : Int, kk = k + 3 * j := ⟨_, rfl⟩
        have hk0 : 0 ≤ kk := by omega
        have hk1 : kk ≤ 2000000000 := by omega
        have HN : Hid (OwnS (wr.setCells g (j * 3) (markEBandOp kk)) g n 3 (fun i => if i < j + 1 then markEBandOp (k + 3 * i) else el i)) := (HV.out.put hlt _ rfl (fun i => by split; rfl; exact hel i)).congr (fun i _ => markStep (F := fun i => markEBandOp (k + 3 * i)) (by rw [hkk]))
        have HK2 : Hid (Kept (fun b => 0 < n ∧ B ≤ b ∧ hd (some ⟨g, 0, none⟩) b) w (wr.setCells g (j * 3) (markEBandOp kk))) := Kept.setCells (show 0 < n ∧ B ≤ g ∧ hd (some ⟨g, 0, none⟩) g from ⟨h1, hB, 0, rfl⟩) _ _ HK.out
        have HE := Lib.hid hkk
        rw [← hkk]
        clear hkk HV HK HO huj hlj
        go_wp2
        go_roundw
        case rel => exact ⟨j + 1, by omega, by go_num, by rw [HE.out]; go_num, HN, HK2⟩
        case measure => simp [intOf]; omega
      · obtain rfl : j = n := by omega
        go_wp2
        go_ret
        exact ⟨rfl, HK.out, fun _ => ⟨g, rfl, hB, HV.out.congr (fun i hi => by simp [hi])⟩⟩
end Go.Proofs.Ytfckhpkebdpkbaa

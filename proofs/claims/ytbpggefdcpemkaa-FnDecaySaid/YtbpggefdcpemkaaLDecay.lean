/-
  Whatever the code, the law FnDecay returns true: a load never passes what steady use comes to, and falls when nothing is used; no condition.
-/
import Derived.Test.YtbpggefdcpemkaaD3Base
import Derived.Test.YtbpggefdcpemkaaD2Base
import Derived.Test.YtbpggefdcpemkaaS3Base
import Derived.ProofKit
import Derived.OpenShut
import Derived.ShutString
import Derived.ChangeOld
import Derived.Below
import Derived.Deep.Slices
import Derived.Lib.SmallJoins
import Derived.Deep.RegionWith
namespace Go.Proofs.Ytbpggefdcpemkaa.fnDecay
open Go.ChangeShapes Go.WideShapes Go.ChangeAt Go.RowKit
open Go.ChangeMaps (open_string shut_string)

theorem beats_top (u : Int) (h0 : 0 ≤ u) (h1 : u ≤ 1000000) : ∀ (k : Nat) (l : Int), 0 ≤ l → l ≤ 8 * u → 0 ≤ beats u k l ∧ beats u k l ≤ 8 * u
  | 0, l, h2, h3 => ⟨h2, h3⟩
  | k + 1, l, h2, h3 => by
    obtain ⟨i1, i2⟩ := beats_top u h0 h1 k l h2 h3
    show 0 ≤ decayBeat (beats u k l) u ∧ decayBeat (beats u k l) u ≤ 8 * u
    unfold decayBeat
    split <;> omega
theorem beats_fall : ∀ (k : Nat) (l : Int), 0 ≤ l → 0 ≤ beats 0 k l ∧ beats 0 k l ≤ l
  | 0, l, h2 => ⟨h2, Int.le_refl _⟩
  | k + 1, l, h2 => by
    obtain ⟨i1, i2⟩ := beats_fall k l h2
    show 0 ≤ decayBeat (beats 0 k l) 0 ∧ decayBeat (beats 0 k l) 0 ≤ l
    unfold decayBeat
    split <;> omega
theorem beats_le (a b c : Int) (h0 : 0 ≤ b) (h1 : b ≤ 1000000) (h2 : 0 ≤ a) (h3 : a ≤ 8 * b) : decayBeats a b c ≤ 8 * b := by
  unfold decayBeats
  split
  · exact (beats_top b h0 h1 _ a h2 h3).2
  · omega
theorem beats_zero (a c : Int) (h2 : 0 ≤ a) : decayBeats a 0 c ≤ a := by
  unfold decayBeats
  split
  · exact (beats_fall _ a h2).2
  · omega
theorem beats_one (a b : Int) (h2 : 0 ≤ a) (h3 : a ≤ 8000000) : decayBeats a b 1 = decayBeat a b := by
  unfold decayBeats
  rw [if_pos]
  · rfl
  · rw [inR_iff.2 ⟨h2, h3⟩]
    rfl
theorem top_is (b : Int) (h0 : 0 ≤ b) (h1 : b ≤ 1000000) : decayTop b = 8 * b := by
  unfold decayTop
  rw [if_pos (inR_iff.2 ⟨h0, h1⟩)]
set_option maxRecDepth 100000 in
set_option maxHeartbeats 4000000 in
theorem walk (A : Option Addr) (n c : Nat) (z : Nat → Int) (w : World) (hc : n ≤ c) (hc2 : (c : Int) ≤ 9223372036854775807) (hA : Rw w w.heap.size A n (fun i => .int .u8 (z i))) (hz : ∀ i, i < n → 0 ≤ z i ∧ z i ≤ 255) :
    Calls Try.prog 3 #[.slice A n c] w fun e w' => e = .returned (.bool true) ∧ Below w.heap.size w w' := by
  by_cases h1 : (n : Int) > 1048576
  · go_enter Try.func3, Try.ntmps3
    go_wp2
    go_ret
    exact ⟨rfl, Below.refl _ _⟩
  have HA := Lib.hid hA
  have HZ := Lib.hid hz
  clear hA hz
  go_enter Try.func3, Try.ntmps3
  go_wp2_with fail
  refine (drawDecayBeats_any A n c (by omega) hc hc2 z w w (Below.refl _ _) HA.out HZ.out).mono ?_
  rintro e w1 ⟨a, b, k, rfl, a0, a1, b0, b1, k0, k1, hb1⟩
  have HB1 := Lib.hid hb1
  have HI : Hid (∀ (x : World), Calls Try.prog 5 #[.int .i64 a, .int .i64 b, .int .i64 k] x fun e w' => e = .returned (.int .i64 (decayBeats a b k)) ∧ x = w') := fun x => iDecayBeats_any a b k x
  have HS : Hid (∀ (x : World), Calls Try.prog 6 #[.int .i64 a, .int .i64 b, .int .i64 k] x fun e w' => e = .returned (.int .i64 (decayBeats a b k)) ∧ x = w') := fun x => sDecayBeats_any a b k x
  have HX : Hid (∀ (x : World), Calls Try.prog 8 #[.int .i64 a, .int .i64 b] x fun e w' => e = .returned (.int .i64 (decayBeat a b)) ∧ x = w') := fun x => iDecayBeat_any a b x
  have HY : Hid (∀ (x : World), Calls Try.prog 9 #[.int .i64 a, .int .i64 b] x fun e w' => e = .returned (.int .i64 (decayBeat a b)) ∧ x = w') := fun x => sDecayBeat_any a b x
  have HT : Hid (∀ (x : World), Calls Try.prog 7 #[.int .i64 b] x fun e w' => e = .returned (.int .i64 (8 * b)) ∧ x = w') := fun x => by rw [← top_is b b0 b1]; exact iDecayTop_any b x
  have f1 := beats_le a b k b0 b1 a0
  have f2 : b = 0 → decayBeats a b k ≤ a := fun e => by subst e; exact beats_zero a k a0
  have f3 : k = 1 → a ≤ 8000000 → decayBeats a b k = decayBeat a b := fun e h => by subst e; exact beats_one a b a0 h
  generalize decayBeats a b k = x at *
  generalize decayBeat a b = y at *
  clear HA HZ hc hc2 h1
  go_upto_region 8 with (first
        | (go_at_call 5; refine (HI.out _).mono ?_; rintro e w' ⟨rfl, rfl⟩)
        | (go_at_call 6; refine (HS.out _).mono ?_; rintro e w' ⟨rfl, rfl⟩)
        | (go_at_call 7; refine (HT.out _).mono ?_; rintro e w' ⟨rfl, rfl⟩))
  have c1 : (a ≤ 8 * b ∧ 0 ≤ k ∧ k ≤ 20 ∧ x ≤ 8 * b) ∨ (8 * b < a) ∨ (a ≤ 8 * b ∧ k < 0) ∨ (a ≤ 8 * b ∧ 0 ≤ k ∧ 20 < k) := by omega
  have c2 : (b = 0 ∧ x ≤ a) ∨ b ≠ 0 := by omega
  have c3 : (k = 1 ∧ a ≤ 8000000 ∧ x = y) ∨ (k = 1 ∧ 8000000 < a) ∨ k ≠ 1 := by omega
  clear f1 f2 f3 HI HS HT
  have z1 : decide (0 ≤ a) = true := by simp; omega
  have z2 : decide (b ≤ 1000000) = true := by simp; omega
  rcases c1 with ⟨u1, u2, u3, u4⟩ | u1 | ⟨u1, u2⟩ | ⟨u1, u2, u3⟩ <;> rcases c2 with ⟨rfl, v2⟩ | v1 <;> rcases c3 with ⟨rfl, s2, rfl⟩ | ⟨rfl, s2⟩ | s1
  · first
    | (exfalso; omega)
    | (have h0 : decide (a ≤ 8 * 0) = true := by simp <;> omega
       have h1 : decide (0 ≤ 1) = true := by simp <;> omega
       have h2 : decide (1 ≤ 20) = true := by simp <;> omega
       have h3 : decide (8 * 0 < x) = false := by simp <;> omega
       have h5 : decide (a < x) = false := by simp <;> omega
       have h7 : decide (8000000 < a) = false := by simp <;> omega
       go_wp2_with (first
         | (go_at_call 8; refine (HX.out _).mono ?_; rintro e w' ⟨rfl, rfl⟩)
         | (go_at_call 9; refine (HY.out _).mono ?_; rintro e w' ⟨rfl, rfl⟩))
       go_ret
       exact ⟨rfl, HB1.out⟩)
  · first
    | (exfalso; omega)
    | (have h0 : decide (a ≤ 8 * 0) = true := by simp <;> omega
       have h1 : decide (0 ≤ 1) = true := by simp <;> omega
       have h2 : decide (1 ≤ 20) = true := by simp <;> omega
       have h3 : decide (8 * 0 < x) = false := by simp <;> omega
       have h5 : decide (a < x) = false := by simp <;> omega
       have h7 : decide (8000000 < a) = true := by simp <;> omega
       go_wp2_with (first
         | (go_at_call 8; refine (HX.out _).mono ?_; rintro e w' ⟨rfl, rfl⟩)
         | (go_at_call 9; refine (HY.out _).mono ?_; rintro e w' ⟨rfl, rfl⟩))
       go_ret
       exact ⟨rfl, HB1.out⟩)
  · first
    | (exfalso; omega)
    | (have h0 : decide (a ≤ 8 * 0) = true := by simp <;> omega
       have h1 : decide (0 ≤ k) = true := by simp <;> omega
       have h2 : decide (k ≤ 20) = true := by simp <;> omega
       have h3 : decide (8 * 0 < x) = false := by simp <;> omega
       have h5 : decide (a < x) = false := by simp <;> omega
       have h6 : (k == 1) = false := by simp <;> omega
       go_wp2_with (first
         | (go_at_call 8; refine (HX.out _).mono ?_; rintro e w' ⟨rfl, rfl⟩)
         | (go_at_call 9; refine (HY.out _).mono ?_; rintro e w' ⟨rfl, rfl⟩))
       go_ret
       exact ⟨rfl, HB1.out⟩)
  · first
    | (exfalso; omega)
    | (have h0 : decide (a ≤ 8 * b) = true := by simp <;> omega
       have h1 : decide (0 ≤ 1) = true := by simp <;> omega
       have h2 : decide (1 ≤ 20) = true := by simp <;> omega
       have h3 : decide (8 * b < x) = false := by simp <;> omega
       have h4 : (b == 0) = false := by simp <;> omega
       have h6 : decide (8000000 < a) = false := by simp <;> omega
       go_wp2_with (first
         | (go_at_call 8; refine (HX.out _).mono ?_; rintro e w' ⟨rfl, rfl⟩)
         | (go_at_call 9; refine (HY.out _).mono ?_; rintro e w' ⟨rfl, rfl⟩))
       go_ret
       exact ⟨rfl, HB1.out⟩)
  · first
    | (exfalso; omega)
    | (have h0 : decide (a ≤ 8 * b) = true := by simp <;> omega
       have h1 : decide (0 ≤ 1) = true := by simp <;> omega
       have h2 : decide (1 ≤ 20) = true := by simp <;> omega
       have h3 : decide (8 * b < x) = false := by simp <;> omega
       have h4 : (b == 0) = false := by simp <;> omega
       have h6 : decide (8000000 < a) = true := by simp <;> omega
       go_wp2_with (first
         | (go_at_call 8; refine (HX.out _).mono ?_; rintro e w' ⟨rfl, rfl⟩)
         | (go_at_call 9; refine (HY.out _).mono ?_; rintro e w' ⟨rfl, rfl⟩))
       go_ret
       exact ⟨rfl, HB1.out⟩)
  · first
    | (exfalso; omega)
    | (have h0 : decide (a ≤ 8 * b) = true := by simp <;> omega
       have h1 : decide (0 ≤ k) = true := by simp <;> omega
       have h2 : decide (k ≤ 20) = true := by simp <;> omega
       have h3 : decide (8 * b < x) = false := by simp <;> omega
       have h4 : (b == 0) = false := by simp <;> omega
       have h5 : (k == 1) = false := by simp <;> omega
       go_wp2_with (first
         | (go_at_call 8; refine (HX.out _).mono ?_; rintro e w' ⟨rfl, rfl⟩)
         | (go_at_call 9; refine (HY.out _).mono ?_; rintro e w' ⟨rfl, rfl⟩))
       go_ret
       exact ⟨rfl, HB1.out⟩)
  · first
    | (exfalso; omega)
    | (have h0 : decide (a ≤ 8 * 0) = false := by simp <;> omega
       have h2 : decide (a < x) = false := by simp <;> omega
       have h4 : decide (8000000 < a) = false := by simp <;> omega
       go_wp2_with (first
         | (go_at_call 8; refine (HX.out _).mono ?_; rintro e w' ⟨rfl, rfl⟩)
         | (go_at_call 9; refine (HY.out _).mono ?_; rintro e w' ⟨rfl, rfl⟩))
       go_ret
       exact ⟨rfl, HB1.out⟩)
  · first
    | (exfalso; omega)
    | (have h0 : decide (a ≤ 8 * 0) = false := by simp <;> omega
       have h2 : decide (a < x) = false := by simp <;> omega
       have h4 : decide (8000000 < a) = true := by simp <;> omega
       go_wp2_with (first
         | (go_at_call 8; refine (HX.out _).mono ?_; rintro e w' ⟨rfl, rfl⟩)
         | (go_at_call 9; refine (HY.out _).mono ?_; rintro e w' ⟨rfl, rfl⟩))
       go_ret
       exact ⟨rfl, HB1.out⟩)
  · first
    | (exfalso; omega)
    | (have h0 : decide (a ≤ 8 * 0) = false := by simp <;> omega
       have h2 : decide (a < x) = false := by simp <;> omega
       have h3 : (k == 1) = false := by simp <;> omega
       go_wp2_with (first
         | (go_at_call 8; refine (HX.out _).mono ?_; rintro e w' ⟨rfl, rfl⟩)
         | (go_at_call 9; refine (HY.out _).mono ?_; rintro e w' ⟨rfl, rfl⟩))
       go_ret
       exact ⟨rfl, HB1.out⟩)
  · first
    | (exfalso; omega)
    | (have h0 : decide (a ≤ 8 * b) = false := by simp <;> omega
       have h1 : (b == 0) = false := by simp <;> omega
       have h3 : decide (8000000 < a) = false := by simp <;> omega
       go_wp2_with (first
         | (go_at_call 8; refine (HX.out _).mono ?_; rintro e w' ⟨rfl, rfl⟩)
         | (go_at_call 9; refine (HY.out _).mono ?_; rintro e w' ⟨rfl, rfl⟩))
       go_ret
       exact ⟨rfl, HB1.out⟩)
  · first
    | (exfalso; omega)
    | (have h0 : decide (a ≤ 8 * b) = false := by simp <;> omega
       have h1 : (b == 0) = false := by simp <;> omega
       have h3 : decide (8000000 < a) = true := by simp <;> omega
       go_wp2_with (first
         | (go_at_call 8; refine (HX.out _).mono ?_; rintro e w' ⟨rfl, rfl⟩)
         | (go_at_call 9; refine (HY.out _).mono ?_; rintro e w' ⟨rfl, rfl⟩))
       go_ret
       exact ⟨rfl, HB1.out⟩)
  · first
    | (exfalso; omega)
    | (have h0 : decide (a ≤ 8 * b) = false := by simp <;> omega
       have h1 : (b == 0) = false := by simp <;> omega
       have h2 : (k == 1) = false := by simp <;> omega
       go_wp2_with (first
         | (go_at_call 8; refine (HX.out _).mono ?_; rintro e w' ⟨rfl, rfl⟩)
         | (go_at_call 9; refine (HY.out _).mono ?_; rintro e w' ⟨rfl, rfl⟩))
       go_ret
       exact ⟨rfl, HB1.out⟩)
  · first
    | (exfalso; omega)
    | (have h0 : decide (a ≤ 8 * 0) = true := by simp <;> omega
       have h1 : decide (0 ≤ 1) = false := by simp <;> omega
       have h3 : decide (a < x) = false := by simp <;> omega
       have h5 : decide (8000000 < a) = false := by simp <;> omega
       go_wp2_with (first
         | (go_at_call 8; refine (HX.out _).mono ?_; rintro e w' ⟨rfl, rfl⟩)
         | (go_at_call 9; refine (HY.out _).mono ?_; rintro e w' ⟨rfl, rfl⟩))
       go_ret
       exact ⟨rfl, HB1.out⟩)
  · first
    | (exfalso; omega)
    | (have h0 : decide (a ≤ 8 * 0) = true := by simp <;> omega
       have h1 : decide (0 ≤ 1) = false := by simp <;> omega
       have h3 : decide (a < x) = false := by simp <;> omega
       have h5 : decide (8000000 < a) = true := by simp <;> omega
       go_wp2_with (first
         | (go_at_call 8; refine (HX.out _).mono ?_; rintro e w' ⟨rfl, rfl⟩)
         | (go_at_call 9; refine (HY.out _).mono ?_; rintro e w' ⟨rfl, rfl⟩))
       go_ret
       exact ⟨rfl, HB1.out⟩)
  · first
    | (exfalso; omega)
    | (have h0 : decide (a ≤ 8 * 0) = true := by simp <;> omega
       have h1 : decide (0 ≤ k) = false := by simp <;> omega
       have h3 : decide (a < x) = false := by simp <;> omega
       have h4 : (k == 1) = false := by simp <;> omega
       go_wp2_with (first
         | (go_at_call 8; refine (HX.out _).mono ?_; rintro e w' ⟨rfl, rfl⟩)
         | (go_at_call 9; refine (HY.out _).mono ?_; rintro e w' ⟨rfl, rfl⟩))
       go_ret
       exact ⟨rfl, HB1.out⟩)
  · first
    | (exfalso; omega)
    | (have h0 : decide (a ≤ 8 * b) = true := by simp <;> omega
       have h1 : decide (0 ≤ 1) = false := by simp <;> omega
       have h2 : (b == 0) = false := by simp <;> omega
       have h4 : decide (8000000 < a) = false := by simp <;> omega
       go_wp2_with (first
         | (go_at_call 8; refine (HX.out _).mono ?_; rintro e w' ⟨rfl, rfl⟩)
         | (go_at_call 9; refine (HY.out _).mono ?_; rintro e w' ⟨rfl, rfl⟩))
       go_ret
       exact ⟨rfl, HB1.out⟩)
  · first
    | (exfalso; omega)
    | (have h0 : decide (a ≤ 8 * b) = true := by simp <;> omega
       have h1 : decide (0 ≤ 1) = false := by simp <;> omega
       have h2 : (b == 0) = false := by simp <;> omega
       have h4 : decide (8000000 < a) = true := by simp <;> omega
       go_wp2_with (first
         | (go_at_call 8; refine (HX.out _).mono ?_; rintro e w' ⟨rfl, rfl⟩)
         | (go_at_call 9; refine (HY.out _).mono ?_; rintro e w' ⟨rfl, rfl⟩))
       go_ret
       exact ⟨rfl, HB1.out⟩)
  · first
    | (exfalso; omega)
    | (have h0 : decide (a ≤ 8 * b) = true := by simp <;> omega
       have h1 : decide (0 ≤ k) = false := by simp <;> omega
       have h2 : (b == 0) = false := by simp <;> omega
       have h3 : (k == 1) = false := by simp <;> omega
       go_wp2_with (first
         | (go_at_call 8; refine (HX.out _).mono ?_; rintro e w' ⟨rfl, rfl⟩)
         | (go_at_call 9; refine (HY.out _).mono ?_; rintro e w' ⟨rfl, rfl⟩))
       go_ret
       exact ⟨rfl, HB1.out⟩)
  · first
    | (exfalso; omega)
    | (have h0 : decide (a ≤ 8 * 0) = true := by simp <;> omega
       have h1 : decide (0 ≤ 1) = true := by simp <;> omega
       have h2 : decide (1 ≤ 20) = false := by simp <;> omega
       have h4 : decide (a < x) = false := by simp <;> omega
       have h6 : decide (8000000 < a) = false := by simp <;> omega
       go_wp2_with (first
         | (go_at_call 8; refine (HX.out _).mono ?_; rintro e w' ⟨rfl, rfl⟩)
         | (go_at_call 9; refine (HY.out _).mono ?_; rintro e w' ⟨rfl, rfl⟩))
       go_ret
       exact ⟨rfl, HB1.out⟩)
  · first
    | (exfalso; omega)
    | (have h0 : decide (a ≤ 8 * 0) = true := by simp <;> omega
       have h1 : decide (0 ≤ 1) = true := by simp <;> omega
       have h2 : decide (1 ≤ 20) = false := by simp <;> omega
       have h4 : decide (a < x) = false := by simp <;> omega
       have h6 : decide (8000000 < a) = true := by simp <;> omega
       go_wp2_with (first
         | (go_at_call 8; refine (HX.out _).mono ?_; rintro e w' ⟨rfl, rfl⟩)
         | (go_at_call 9; refine (HY.out _).mono ?_; rintro e w' ⟨rfl, rfl⟩))
       go_ret
       exact ⟨rfl, HB1.out⟩)
  · first
    | (exfalso; omega)
    | (have h0 : decide (a ≤ 8 * 0) = true := by simp <;> omega
       have h1 : decide (0 ≤ k) = true := by simp <;> omega
       have h2 : decide (k ≤ 20) = false := by simp <;> omega
       have h4 : decide (a < x) = false := by simp <;> omega
       have h5 : (k == 1) = false := by simp <;> omega
       go_wp2_with (first
         | (go_at_call 8; refine (HX.out _).mono ?_; rintro e w' ⟨rfl, rfl⟩)
         | (go_at_call 9; refine (HY.out _).mono ?_; rintro e w' ⟨rfl, rfl⟩))
       go_ret
       exact ⟨rfl, HB1.out⟩)
  · first
    | (exfalso; omega)
    | (have h0 : decide (a ≤ 8 * b) = true := by simp <;> omega
       have h1 : decide (0 ≤ 1) = true := by simp <;> omega
       have h2 : decide (1 ≤ 20) = false := by simp <;> omega
       have h3 : (b == 0) = false := by simp <;> omega
       have h5 : decide (8000000 < a) = false := by simp <;> omega
       go_wp2_with (first
         | (go_at_call 8; refine (HX.out _).mono ?_; rintro e w' ⟨rfl, rfl⟩)
         | (go_at_call 9; refine (HY.out _).mono ?_; rintro e w' ⟨rfl, rfl⟩))
       go_ret
       exact ⟨rfl, HB1.out⟩)
  · first
    | (exfalso; omega)
    | (have h0 : decide (a ≤ 8 * b) = true := by simp <;> omega
       have h1 : decide (0 ≤ 1) = true := by simp <;> omega
       have h2 : decide (1 ≤ 20) = false := by simp <;> omega
       have h3 : (b == 0) = false := by simp <;> omega
       have h5 : decide (8000000 < a) = true := by simp <;> omega
       go_wp2_with (first
         | (go_at_call 8; refine (HX.out _).mono ?_; rintro e w' ⟨rfl, rfl⟩)
         | (go_at_call 9; refine (HY.out _).mono ?_; rintro e w' ⟨rfl, rfl⟩))
       go_ret
       exact ⟨rfl, HB1.out⟩)
  · first
    | (exfalso; omega)
    | (have h0 : decide (a ≤ 8 * b) = true := by simp <;> omega
       have h1 : decide (0 ≤ k) = true := by simp <;> omega
       have h2 : decide (k ≤ 20) = false := by simp <;> omega
       have h3 : (b == 0) = false := by simp <;> omega
       have h4 : (k == 1) = false := by simp <;> omega
       go_wp2_with (first
         | (go_at_call 8; refine (HX.out _).mono ?_; rintro e w' ⟨rfl, rfl⟩)
         | (go_at_call 9; refine (HY.out _).mono ?_; rintro e w' ⟨rfl, rfl⟩))
       go_ret
       exact ⟨rfl, HB1.out⟩)
theorem own : ownKnob Try.prog.godebug = none := by kernel_rfl
theorem laidOut : laidOutB Try.prog = true := by kernel_rfl
set_option maxRecDepth 100000 in
theorem lifted (os : Os) (started : os.Started) (H : Type) (enc : TypeId × Value → H) :
    ReturnsInHanded {} Try.checked os 3 .any (Rows.fnDecaySpec.pre6 enc Try.prog Try.f3 Rows.fnDecayRow.domain false) (Rows.fnDecaySpec.post enc Try.prog Try.f3 false true false false) := by
  refine returnsInHanded_of_change (C := Try.checked) own started (by kernel_rfl) Try.func3
    (ChangeSpec.witness6 (enc := enc) (C := Try.checked) false ⟨#[], #[.slice none 0 0], []⟩ 8 (by kernel_rfl) (by kernel_rfl) (by kernel_rfl) (by kernel_rfl)) ?_
  intro W base args ds gs before hval0 hW hcnd _
  have hval : ∀ (j : Nat) t v, Try.f3.params[j]? = some t → args[j]? = some v → Value.okWide Try.prog W .any base t v := hval0
  have hW' := hW
  obtain ⟨p, q, hA0, hV, rfl, hfz, hnd⟩ := hW
  have hA : DataW.TrodAll enc Try.prog W 0 (fun _ => true) true Try.f3.params.toList args.toList ds p := hA0
  rw [Try.params3] at hA hval
  obtain ⟨v0, vs0, d0, ds0, p0, q0, hargs, rfl, rfl, h0, r0⟩ := trodAll_cons hA
  obtain ⟨rfl, rfl, rfl⟩ := trodAll_nil r0
  obtain rfl : args = #[v0] := by cases args; simp_all
  obtain ⟨rfl, rfl⟩ := trodVars_none hV
  have k0 := h0
  have lt0 : ∀ x ∈ p0, x.block < W.heap.size := by obtain ⟨m, hm⟩ := k0; exact DataW.trod_lt m _ _ _ hm
  obtain ⟨Ax0, nx0, cx0, zx0, rfl, hcx0, hc2x0, hAx0, hzx0⟩ := open_lawsBytes (hval 0 22 v0 rfl rfl) h0
  clear hA0 hval0
  refine (walk Ax0 nx0 cx0 zx0 W hcx0 hc2x0 hAx0 hzx0).mono fun e W' ⟨he, bel⟩ => ?_
  subst he
  exact ⟨_, rfl, _, _, _, [], _, [], hW', trodAll_mk1 (shut_bool Try.underlying4 _), (trodAll_cons_mk (Below.trod laidOut (by kernel_rfl) (of_decide_eq_true (by kernel_rfl)) k0 bel lt0) trodAll_mk0), rfl, bel.frame _, fun h => by cases h⟩
theorem over : Rows.fnDecayRow.holds Try.pinned (OpenSpec.ofChange Rows.fnDecaySpec) :=
  OpenClaim.holds_of_wide 3 Try.f3 rfl rfl rfl rfl rfl rfl rfl ⟨rfl, rfl, rfl, rfl, rfl⟩ rfl rfl rfl rfl rfl (by kernel_rfl) Try.func3 (by kernel_rfl)
    (of_decide_eq_true (by kernel_rfl)) (by unfold Func.isWrapper; first | (rw [if_pos (by decide +kernel)]; kernel_rfl) | (rw [if_neg (by decide +kernel)]; exact ⟨rfl, rfl⟩))
    (fun os started H enc _ => lifted os started H enc)
theorem proved : Rows.FnDecaySaid := over
end Go.Proofs.Ytbpggefdcpemkaa.fnDecay

/-
  Whatever the code, the law FnDomain returns true: neighbours are neighbours of one another; no condition.
-/
import Derived.Test.YtipopjkikahjpabD2Base
import Derived.Test.YtipopjkikahjpabDPPlain
import Derived.Test.YtipopjkikahjpabS4Base
import Derived.ProofKit
import Derived.OpenShut
import Derived.ShutString
import Derived.ChangeOld
import Derived.Below
import Derived.Deep.Slices
import Derived.Lib.SmallJoins
import Derived.Deep.RegionWith
namespace Go.Proofs.Ytipopjkikahjpab.fnDomain
open Go.ChangeShapes Go.WideShapes Go.ChangeAt Go.RowKit
open Go.ChangeMaps (open_string shut_string)

set_option maxRecDepth 100000 in
set_option maxHeartbeats 4000000 in
theorem walk (A : Option Addr) (n c : Nat) (z : Nat → Int) (w : World) (hc : n ≤ c) (hc2 : (c : Int) ≤ 9223372036854775807) (hA : Rw w w.heap.size A n (fun i => .int .u8 (z i))) (hz : ∀ i, i < n → 0 ≤ z i ∧ z i ≤ 255) :
    Calls Try.prog 6 #[.slice A n c] w fun e w' => e = .returned (.bool true) ∧ Below w.heap.size w w' := by
  by_cases h1 : (n : Int) > 1048576
  · go_enter Try.func6, Try.ntmps6
    go_wp2
    go_ret
    exact ⟨rfl, Below.refl _ _⟩
  have HA := Lib.hid hA
  have HZ := Lib.hid hz
  clear hA hz
  go_enter Try.func6, Try.ntmps6
  go_wp2_with fail
  refine (drawDomainNear_any A n c (by omega) hc hc2 z w w (Below.refl _ _) HA.out HZ.out).mono ?_
  rintro e w1 ⟨d, a, b, rfl, d0, d1, a0, a1, b0, b1, hb1⟩
  have HB1 := Lib.hid hb1
  have HSYM : Hid (domainNear d b a = domainNear d a b) := dom_sym d0 d1 b0 b1 a0 a1
  have HF : Hid (∀ i : Int, 0 ≤ i → i ≤ 1 → i < levels d → domFact d a b i = true) := fun i i0 i1 hi => dom_at d0 d1 a0 a1 b0 b1 i0 i1 hi
  obtain ⟨l0, l1⟩ := levels_b d
  have HIN : Hid (∀ (x : World), Below w.heap.size w x → Calls Try.prog 10 #[.int .i64 d, .int .i64 a, .int .i64 b] x fun e w' => e = .returned (.int .i64 (domainNear d a b)) ∧ Below w.heap.size w w') := fun x hx => iDomainNear_any d a b x w hx
  have HIM : Hid (∀ (x : World), Below w.heap.size w x → Calls Try.prog 10 #[.int .i64 d, .int .i64 b, .int .i64 a] x fun e w' => e = .returned (.int .i64 (domainNear d a b)) ∧ Below w.heap.size w w') := fun x hx => by rw [← HSYM.out]; exact iDomainNear_any d b a x w hx
  have HSN : Hid (∀ (x : World), Calls Try.prog 9 #[.int .i64 d, .int .i64 a, .int .i64 b] x fun e w' => e = .returned (.int .i64 (domainNear d a b)) ∧ x = w') := fun x => sDomainNear_any d a b x
  have HFA : Hid (∀ i : Int, 0 ≤ i → i < levels d → (0 ≤ domainNear d a b → (decide (domainNear d a b ≤ i) = (domainSpan d a i == domainSpan d b i))) ∧ (0 ≤ domainNear d a b → i < domainNear d a b → maskAnd (domainSpan d a i) (domainSpan d b i) = 0) ∧
    (0 ≤ a → a < d → maskHas (domainSpan d a i) a = true ∧ (i + 1 < levels d → maskAnd (domainSpan d a i) (domainSpan d a (i + 1)) = domainSpan d a i) ∧ (i + 1 = levels d → maskCount (domainSpan d a i) = d))) := fun i i0 i1 => dom_facts (dom_at d0 d1 a0 a1 b0 b1 i0 (by omega) i1)
  have HL1 : Hid (∀ (x : World), Calls Try.prog 18 #[.int .i64 d] x fun e w' => e = .returned (.int .i64 (levels d)) ∧ x = w') := fun x => iDomainLevels_any d x
  have HL2 : Hid (∀ (x : World), Calls Try.prog 19 #[.int .i64 d] x fun e w' => e = .returned (.int .i64 (levels d)) ∧ x = w') := fun x => sDomainLevels_any d x
  generalize levels d = L at *
  generalize domainNear d a b = k at *
  clear HA HZ hc hc2 h1 HF HSYM HB1
  go_wp2_with (first
    | (go_at_call 10; (first | (with_reducible refine (HIN.out _ (by assumption)).mono ?_) | (with_reducible refine (HIM.out _ (by assumption)).mono ?_)); rintro e w' ⟨rfl, hb⟩)
    | (go_at_call 9; refine (HSN.out _).mono ?_; rintro e w' ⟨rfl, rfl⟩)
    | (go_at_call 18; refine (HL1.out _).mono ?_; rintro e w' ⟨rfl, rfl⟩)
    | (go_at_call 19; refine (HL2.out _).mono ?_; rintro e w' ⟨rfl, rfl⟩))
  go_loopw [8] (fun i wr => ∃ j : Int, 0 ≤ j ∧ j ≤ L ∧ i = .int .i64 j ∧ Below w.heap.size w wr) (fun i _ => (L - intOf i).toNat)
  case atStart => exact ⟨0, Int.le_refl _, l0, rfl, by assumption⟩
  case round =>
    obtain ⟨j, j0, j1, rfl, hbr⟩ := hrel
    by_cases hlt : j < L
    · obtain ⟨F1, F2, F3⟩ := HFA.out j j0 hlt
      have HSA : Hid (∀ (x : World), Below w.heap.size w x → Calls Try.prog 8 #[.int .i64 d, .int .i64 a, .int .i64 j] x fun e w' => e = .returned (.int .i64 (domainSpan d a j)) ∧ Below w.heap.size w w') := fun x hx => iDomainSpan_any d a j x w hx
      have HSB : Hid (∀ (x : World), Below w.heap.size w x → Calls Try.prog 8 #[.int .i64 d, .int .i64 b, .int .i64 j] x fun e w' => e = .returned (.int .i64 (domainSpan d b j)) ∧ Below w.heap.size w w') := fun x hx => iDomainSpan_any d b j x w hx
      have HSR : Hid (∀ (x : World), Below w.heap.size w x → Calls Try.prog 8 #[.int .i64 d, .int .i64 a, .int .i64 (j + 1)] x fun e w' => e = .returned (.int .i64 (domainSpan d a (j + 1))) ∧ Below w.heap.size w w') := fun x hx => iDomainSpan_any d a (j + 1) x w hx
      generalize domainSpan d a j = s at *
      generalize domainSpan d b j = t at *
      generalize domainSpan d a (j + 1) = r at *
      have HG2 := Lib.hid F2
      have HG3 := Lib.hid F3
      have HG1 := Lib.hid F1
      clear F1 F2 F3
      have HMA : 0 ≤ k → j < k → Hid (∀ (x : World), Calls Try.prog 20 #[.int .i64 s, .int .i64 t] x fun e w' => e = .returned (.int .i64 0) ∧ x = w') := fun h1 h2 x => by
        have := iMaskAnd_any s t x
        rw [HG2.out h1 h2] at this
        exact this
      have HMH : 0 ≤ a → a < d → Hid (∀ (x : World), Calls Try.prog 21 #[.int .i64 s, .int .i64 a] x fun e w' => e = .returned (.bool true) ∧ x = w') := fun h1 h2 x => by
        have := iMaskHas_any s a x
        rw [(HG3.out h1 h2).1] at this
        exact this
      have HMR : 0 ≤ a → a < d → j + 1 < L → Hid (∀ (x : World), Calls Try.prog 20 #[.int .i64 s, .int .i64 r] x fun e w' => e = .returned (.int .i64 s) ∧ x = w') := fun h1 h2 h3 x => by
        have := iMaskAnd_any s r x
        rw [(HG3.out h1 h2).2.1 h3] at this
        exact this
      have HMC : 0 ≤ a → a < d → j + 1 = L → Hid (∀ (x : World), Below w.heap.size w x → Calls Try.prog 22 #[.int .i64 s] x fun e w' => e = .returned (.int .i64 d) ∧ Below w.heap.size w w') := fun h1 h2 h3 x hx => by
        have := iMaskCount_any s x w hx
        rw [(HG3.out h1 h2).2.2 h3] at this
        exact this
      have hst : (0 ≤ k → (decide (k ≤ j) = (s == t))) := HG1.out
      have hcase : (k < 0) ∨ (0 ≤ k ∧ k ≤ j ∧ (s == t) = true) ∨ (0 ≤ k ∧ j < k ∧ (s == t) = false) := by
        by_cases g1 : 0 ≤ k
        · have g2 := hst g1
          by_cases g3 : k ≤ j
          · exact .inr (.inl ⟨g1, g3, by rw [← g2]; simpa using g3⟩)
          · exact .inr (.inr ⟨g1, by omega, by rw [← g2]; simpa using g3⟩)
        · exact .inl (by omega)
      have hcase2 : (a < 0) ∨ (0 ≤ a ∧ d ≤ a) ∨ (0 ≤ a ∧ a < d ∧ j + 1 < L) ∨ (0 ≤ a ∧ a < d ∧ j + 1 = L) := by omega
      clear hst HG1 HG2 HG3 HFA HIN HIM HSN HL1 HL2
      rcases hcase with g1 | ⟨g1, g2, g3⟩ | ⟨g1, g2, g3⟩
      · rcases hcase2 with u1 | ⟨u1, u2⟩ | ⟨u1, u2, u3⟩ | ⟨u1, u2, u3⟩
        · have k1 : decide (0 ≤ k) = false := by simp; omega
          have k4 : decide (0 ≤ a) = false := by simp; omega
          clear HMA HMH HMR HMC
          go_wp2_with (first | (go_at_call 8; (first | (with_reducible refine (HSA.out _ (by assumption)).mono ?_) | (with_reducible refine (HSB.out _ (by assumption)).mono ?_) | (with_reducible refine (HSR.out _ (by assumption)).mono ?_)); rintro e w' ⟨rfl, hb⟩))
          go_roundw
          case rel => exact ⟨j + 1, by omega, by omega, rfl, by assumption⟩
          case measure => simp [intOf]; omega
        · have k1 : decide (0 ≤ k) = false := by simp; omega
          have k4 : decide (0 ≤ a) = true := by simp; omega
          have k5 : decide (a < d) = false := by simp; omega
          clear HMA HMH HMR HMC
          go_wp2_with (first | (go_at_call 8; (first | (with_reducible refine (HSA.out _ (by assumption)).mono ?_) | (with_reducible refine (HSB.out _ (by assumption)).mono ?_) | (with_reducible refine (HSR.out _ (by assumption)).mono ?_)); rintro e w' ⟨rfl, hb⟩))
          go_roundw
          case rel => exact ⟨j + 1, by omega, by omega, rfl, by assumption⟩
          case measure => simp [intOf]; omega
        · have k1 : decide (0 ≤ k) = false := by simp; omega
          have k4 : decide (0 ≤ a) = true := by simp; omega
          have k5 : decide (a < d) = true := by simp; omega
          have MH := HMH u1 u2
          have k6 : decide (j + 1 < L) = true := by simp; omega
          have k7 : (j + 1 == L) = false := by simp; omega
          have MR := HMR u1 u2 u3
          clear HMA HMH HMR HMC
          go_wp2_with (first | (go_at_call 8; (first | (with_reducible refine (HSA.out _ (by assumption)).mono ?_) | (with_reducible refine (HSB.out _ (by assumption)).mono ?_) | (with_reducible refine (HSR.out _ (by assumption)).mono ?_)); rintro e w' ⟨rfl, hb⟩) | (go_at_call 20; (first | (with_reducible refine (MR.out _).mono ?_)); rintro e w' ⟨rfl, rfl⟩) | (go_at_call 21; refine (MH.out _).mono ?_; rintro e w' ⟨rfl, rfl⟩))
          go_roundw
          case rel => exact ⟨j + 1, by omega, by omega, rfl, by assumption⟩
          case measure => simp [intOf]; omega
        · have k1 : decide (0 ≤ k) = false := by simp; omega
          have k4 : decide (0 ≤ a) = true := by simp; omega
          have k5 : decide (a < d) = true := by simp; omega
          have MH := HMH u1 u2
          have k6 : decide (j + 1 < L) = false := by simp; omega
          have k7 : (j + 1 == L) = true := by simp; omega
          have MC := HMC u1 u2 u3
          clear u3
          clear HMA HMH HMR HMC
          go_wp2_with (first | (go_at_call 8; (first | (with_reducible refine (HSA.out _ (by assumption)).mono ?_) | (with_reducible refine (HSB.out _ (by assumption)).mono ?_) | (with_reducible refine (HSR.out _ (by assumption)).mono ?_)); rintro e w' ⟨rfl, hb⟩) | (go_at_call 21; refine (MH.out _).mono ?_; rintro e w' ⟨rfl, rfl⟩) | (go_at_call 22; refine (MC.out _ (by assumption)).mono ?_; rintro e w' ⟨rfl, hb⟩))
          go_roundw
          case rel => exact ⟨j + 1, by omega, by omega, rfl, by assumption⟩
          case measure => simp [intOf]; omega
      · rcases hcase2 with u1 | ⟨u1, u2⟩ | ⟨u1, u2, u3⟩ | ⟨u1, u2, u3⟩
        · have k1 : decide (0 ≤ k) = true := by simp; omega
          have k2 : decide (k ≤ j) = true := by simp; omega
          have k3 : decide (j < k) = false := by simp; omega
          have k4 : decide (0 ≤ a) = false := by simp; omega
          clear HMA HMH HMR HMC
          go_wp2_with (first | (go_at_call 8; (first | (with_reducible refine (HSA.out _ (by assumption)).mono ?_) | (with_reducible refine (HSB.out _ (by assumption)).mono ?_) | (with_reducible refine (HSR.out _ (by assumption)).mono ?_)); rintro e w' ⟨rfl, hb⟩))
          go_roundw
          case rel => exact ⟨j + 1, by omega, by omega, rfl, by assumption⟩
          case measure => simp [intOf]; omega
        · have k1 : decide (0 ≤ k) = true := by simp; omega
          have k2 : decide (k ≤ j) = true := by simp; omega
          have k3 : decide (j < k) = false := by simp; omega
          have k4 : decide (0 ≤ a) = true := by simp; omega
          have k5 : decide (a < d) = false := by simp; omega
          clear HMA HMH HMR HMC
          go_wp2_with (first | (go_at_call 8; (first | (with_reducible refine (HSA.out _ (by assumption)).mono ?_) | (with_reducible refine (HSB.out _ (by assumption)).mono ?_) | (with_reducible refine (HSR.out _ (by assumption)).mono ?_)); rintro e w' ⟨rfl, hb⟩))
          go_roundw
          case rel => exact ⟨j + 1, by omega, by omega, rfl, by assumption⟩
          case measure => simp [intOf]; omega
        · have k1 : decide (0 ≤ k) = true := by simp; omega
          have k2 : decide (k ≤ j) = true := by simp; omega
          have k3 : decide (j < k) = false := by simp; omega
          have k4 : decide (0 ≤ a) = true := by simp; omega
          have k5 : decide (a < d) = true := by simp; omega
          have MH := HMH u1 u2
          have k6 : decide (j + 1 < L) = true := by simp; omega
          have k7 : (j + 1 == L) = false := by simp; omega
          have MR := HMR u1 u2 u3
          clear HMA HMH HMR HMC
          go_wp2_with (first | (go_at_call 8; (first | (with_reducible refine (HSA.out _ (by assumption)).mono ?_) | (with_reducible refine (HSB.out _ (by assumption)).mono ?_) | (with_reducible refine (HSR.out _ (by assumption)).mono ?_)); rintro e w' ⟨rfl, hb⟩) | (go_at_call 20; (first | (with_reducible refine (MR.out _).mono ?_)); rintro e w' ⟨rfl, rfl⟩) | (go_at_call 21; refine (MH.out _).mono ?_; rintro e w' ⟨rfl, rfl⟩))
          go_roundw
          case rel => exact ⟨j + 1, by omega, by omega, rfl, by assumption⟩
          case measure => simp [intOf]; omega
        · have k1 : decide (0 ≤ k) = true := by simp; omega
          have k2 : decide (k ≤ j) = true := by simp; omega
          have k3 : decide (j < k) = false := by simp; omega
          have k4 : decide (0 ≤ a) = true := by simp; omega
          have k5 : decide (a < d) = true := by simp; omega
          have MH := HMH u1 u2
          have k6 : decide (j + 1 < L) = false := by simp; omega
          have k7 : (j + 1 == L) = true := by simp; omega
          have MC := HMC u1 u2 u3
          clear u3
          clear HMA HMH HMR HMC
          go_wp2_with (first | (go_at_call 8; (first | (with_reducible refine (HSA.out _ (by assumption)).mono ?_) | (with_reducible refine (HSB.out _ (by assumption)).mono ?_) | (with_reducible refine (HSR.out _ (by assumption)).mono ?_)); rintro e w' ⟨rfl, hb⟩) | (go_at_call 21; refine (MH.out _).mono ?_; rintro e w' ⟨rfl, rfl⟩) | (go_at_call 22; refine (MC.out _ (by assumption)).mono ?_; rintro e w' ⟨rfl, hb⟩))
          go_roundw
          case rel => exact ⟨j + 1, by omega, by omega, rfl, by assumption⟩
          case measure => simp [intOf]; omega
      · rcases hcase2 with u1 | ⟨u1, u2⟩ | ⟨u1, u2, u3⟩ | ⟨u1, u2, u3⟩
        · have k1 : decide (0 ≤ k) = true := by simp; omega
          have k2 : decide (k ≤ j) = false := by simp; omega
          have k3 : decide (j < k) = true := by simp; omega
          have MA := HMA g1 g2
          have k4 : decide (0 ≤ a) = false := by simp; omega
          clear HMA HMH HMR HMC
          go_wp2_with (first | (go_at_call 8; (first | (with_reducible refine (HSA.out _ (by assumption)).mono ?_) | (with_reducible refine (HSB.out _ (by assumption)).mono ?_) | (with_reducible refine (HSR.out _ (by assumption)).mono ?_)); rintro e w' ⟨rfl, hb⟩) | (go_at_call 20; (first | (with_reducible refine (MA.out _).mono ?_)); rintro e w' ⟨rfl, rfl⟩))
          go_roundw
          case rel => exact ⟨j + 1, by omega, by omega, rfl, by assumption⟩
          case measure => simp [intOf]; omega
        · have k1 : decide (0 ≤ k) = true := by simp; omega
          have k2 : decide (k ≤ j) = false := by simp; omega
          have k3 : decide (j < k) = true := by simp; omega
          have MA := HMA g1 g2
          have k4 : decide (0 ≤ a) = true := by simp; omega
          have k5 : decide (a < d) = false := by simp; omega
          clear HMA HMH HMR HMC
          go_wp2_with (first | (go_at_call 8; (first | (with_reducible refine (HSA.out _ (by assumption)).mono ?_) | (with_reducible refine (HSB.out _ (by assumption)).mono ?_) | (with_reducible refine (HSR.out _ (by assumption)).mono ?_)); rintro e w' ⟨rfl, hb⟩) | (go_at_call 20; (first | (with_reducible refine (MA.out _).mono ?_)); rintro e w' ⟨rfl, rfl⟩))
          go_roundw
          case rel => exact ⟨j + 1, by omega, by omega, rfl, by assumption⟩
          case measure => simp [intOf]; omega
        · have k1 : decide (0 ≤ k) = true := by simp; omega
          have k2 : decide (k ≤ j) = false := by simp; omega
          have k3 : decide (j < k) = true := by simp; omega
          have MA := HMA g1 g2
          have k4 : decide (0 ≤ a) = true := by simp; omega
          have k5 : decide (a < d) = true := by simp; omega
          have MH := HMH u1 u2
          have k6 : decide (j + 1 < L) = true := by simp; omega
          have k7 : (j + 1 == L) = false := by simp; omega
          have MR := HMR u1 u2 u3
          clear HMA HMH HMR HMC
          go_wp2_with (first | (go_at_call 8; (first | (with_reducible refine (HSA.out _ (by assumption)).mono ?_) | (with_reducible refine (HSB.out _ (by assumption)).mono ?_) | (with_reducible refine (HSR.out _ (by assumption)).mono ?_)); rintro e w' ⟨rfl, hb⟩) | (go_at_call 20; (first | (with_reducible refine (MA.out _).mono ?_) | (with_reducible refine (MR.out _).mono ?_)); rintro e w' ⟨rfl, rfl⟩) | (go_at_call 21; refine (MH.out _).mono ?_; rintro e w' ⟨rfl, rfl⟩))
          go_roundw
          case rel => exact ⟨j + 1, by omega, by omega, rfl, by assumption⟩
          case measure => simp [intOf]; omega
        · have k1 : decide (0 ≤ k) = true := by simp; omega
          have k2 : decide (k ≤ j) = false := by simp; omega
          have k3 : decide (j < k) = true := by simp; omega
          have MA := HMA g1 g2
          have k4 : decide (0 ≤ a) = true := by simp; omega
          have k5 : decide (a < d) = true := by simp; omega
          have MH := HMH u1 u2
          have k6 : decide (j + 1 < L) = false := by simp; omega
          have k7 : (j + 1 == L) = true := by simp; omega
          have MC := HMC u1 u2 u3
          clear u3
          clear HMA HMH HMR HMC
          go_wp2_with (first | (go_at_call 8; (first | (with_reducible refine (HSA.out _ (by assumption)).mono ?_) | (with_reducible refine (HSB.out _ (by assumption)).mono ?_) | (with_reducible refine (HSR.out _ (by assumption)).mono ?_)); rintro e w' ⟨rfl, hb⟩) | (go_at_call 20; (first | (with_reducible refine (MA.out _).mono ?_)); rintro e w' ⟨rfl, rfl⟩) | (go_at_call 21; refine (MH.out _).mono ?_; rintro e w' ⟨rfl, rfl⟩) | (go_at_call 22; refine (MC.out _ (by assumption)).mono ?_; rintro e w' ⟨rfl, hb⟩))
          go_roundw
          case rel => exact ⟨j + 1, by omega, by omega, rfl, by assumption⟩
          case measure => simp [intOf]; omega
    · obtain rfl : j = L := by omega
      go_wp2
      go_ret
      exact ⟨rfl, hbr⟩
theorem own : ownKnob Try.prog.godebug = none := by kernel_rfl
theorem laidOut : laidOutB Try.prog = true := by kernel_rfl
set_option maxRecDepth 100000 in
theorem lifted (os : Os) (started : os.Started) (H : Type) (enc : TypeId × Value → H) :
    ReturnsInHanded {} Try.checked os 6 .any (Rows.fnDomainSpec.pre6 enc Try.prog Try.f6 Rows.fnDomainRow.domain false) (Rows.fnDomainSpec.post enc Try.prog Try.f6 false true false false) := by
  refine returnsInHanded_of_change (C := Try.checked) own started (by kernel_rfl) Try.func6
    (ChangeSpec.witness6 (enc := enc) (C := Try.checked) false ⟨#[], #[.slice none 0 0], []⟩ 8 (by kernel_rfl) (by kernel_rfl) (by kernel_rfl) (by kernel_rfl)) ?_
  intro W base args ds gs before hval0 hW hcnd _
  have hval : ∀ (j : Nat) t v, Try.f6.params[j]? = some t → args[j]? = some v → Value.okWide Try.prog W .any base t v := hval0
  have hW' := hW
  obtain ⟨p, q, hA0, hV, rfl, hfz, hnd⟩ := hW
  have hA : DataW.TrodAll enc Try.prog W 0 (fun _ => true) true Try.f6.params.toList args.toList ds p := hA0
  rw [Try.params6] at hA hval
  obtain ⟨v0, vs0, d0, ds0, p0, q0, hargs, rfl, rfl, h0, r0⟩ := trodAll_cons hA
  obtain ⟨rfl, rfl, rfl⟩ := trodAll_nil r0
  obtain rfl : args = #[v0] := by cases args; simp_all
  obtain ⟨rfl, rfl⟩ := trodVars_none hV
  have k0 := h0
  have lt0 : ∀ x ∈ p0, x.block < W.heap.size := by obtain ⟨m, hm⟩ := k0; exact DataW.trod_lt m _ _ _ hm
  obtain ⟨Ax0, nx0, cx0, zx0, rfl, hcx0, hc2x0, hAx0, hzx0⟩ := open_lawsBytes (hval 0 24 v0 rfl rfl) h0
  clear hA0 hval0
  refine (walk Ax0 nx0 cx0 zx0 W hcx0 hc2x0 hAx0 hzx0).mono fun e W' ⟨he, bel⟩ => ?_
  subst he
  exact ⟨_, rfl, _, _, _, [], _, [], hW', trodAll_mk1 (shut_bool Try.underlying4 _), (trodAll_cons_mk (Below.trod laidOut (by kernel_rfl) (of_decide_eq_true (by kernel_rfl)) k0 bel lt0) trodAll_mk0), rfl, bel.frame _, fun h => by cases h⟩
theorem over : Rows.fnDomainRow.holds Try.pinned (OpenSpec.ofChange Rows.fnDomainSpec) :=
  OpenClaim.holds_of_wide 6 Try.f6 rfl rfl rfl rfl rfl rfl rfl ⟨rfl, rfl, rfl, rfl, rfl⟩ rfl rfl rfl rfl rfl (by kernel_rfl) Try.func6 (by kernel_rfl)
    (of_decide_eq_true (by kernel_rfl)) (by unfold Func.isWrapper; first | (rw [if_pos (by decide +kernel)]; kernel_rfl) | (rw [if_neg (by decide +kernel)]; exact ⟨rfl, rfl⟩))
    (fun os started H enc _ => lifted os started H enc)
theorem proved : Rows.FnDomainSaid := over
end Go.Proofs.Ytipopjkikahjpab.fnDomain

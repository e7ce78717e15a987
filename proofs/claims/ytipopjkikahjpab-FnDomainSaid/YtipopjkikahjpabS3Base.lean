/- Sets of processors and domains: contracts of impl and spec, each by one plain function; the world stays. -/
import Derived.Test.YtipopjkikahjpabS1Base
namespace Go.Proofs.Ytipopjkikahjpab
open Go.RowKit
theorem ret_bool {a b : Bool} (h : a = b) : Ending.returned (.bool a) = .returned (.bool b) := by rw [h]
theorem ret_int3 {k : IntKind} {a b : Int} (h : a = b) : Ending.returned (.int k a) = .returned (.int k b) := by rw [h]
theorem maskHas_and (m c : Int) (h1 : inR m 0 15 = true) (h2 : inR c 0 3 = true) : (bits .and .i64 (m / 2 ^ c.toNat) 1 == 1) = maskHas m c := by
  rw [maskHas_eq m c h1 h2]
  obtain ⟨g1, g2⟩ := inR_iff.1 h1
  obtain ⟨g3, g4⟩ := inR_iff.1 h2
  rcases upto15 g1 g2 with h | h | h | h | h | h | h | h | h | h | h | h | h | h | h | h <;> subst h <;> rcases upto3 g3 g4 with h | h | h | h <;> subst h <;> rfl
theorem cpuSetHas_any (a b : Int) (w : World) :
    Calls Try.prog 33 #[.int .i64 a, .int .i64 b] w fun e w' => e = .returned (.bool (maskHas a b)) ∧ w = w' := by
  cases h1 : inR a 0 15 <;> cases h2 : inR b 0 3
  case true.true =>
    have hm := Lib.hid (maskHas_and a b h1 h2)
    obtain ⟨g1, g2⟩ := inR_iff.1 h1
    obtain ⟨g3, g4⟩ := inR_iff.1 h2
    go_enter Try.func33, Try.ntmps33
    go_wp2_with (first | (go_at_call 36; refine (cpuSetOk_any _ _).mono ?_; rintro e w' ⟨rfl, rfl⟩) | (go_at_call 24; refine (inRange_any _ _ _ _).mono ?_; rintro e w' ⟨rfl, rfl⟩))
    go_ret
    exact ⟨ret_bool hm.out, rfl⟩
  all_goals
    first | rw [maskHas_no _ _ h1] | rw [maskHas_no2 _ _ h2]
    go_enter Try.func33, Try.ntmps33
    go_wp2_with (first | (go_at_call 36; refine (cpuSetOk_any _ _).mono ?_; rintro e w' ⟨rfl, rfl⟩) | (go_at_call 24; refine (inRange_any _ _ _ _).mono ?_; rintro e w' ⟨rfl, rfl⟩))
    go_ret
    exact ⟨rfl, rfl⟩
theorem iMaskHas_any (a b : Int) (w : World) :
    Calls Try.prog 21 #[.int .i64 a, .int .i64 b] w fun e w' => e = .returned (.bool (maskHas a b)) ∧ w = w' := by
  go_enter Try.func21, Try.ntmps21
  go_wp2_with (go_at_call 33; refine (cpuSetHas_any _ _ _).mono ?_; rintro e w' ⟨rfl, rfl⟩)
  go_ret
  exact ⟨rfl, rfl⟩
theorem sMaskHas_any (a b : Int) (w : World) :
    Calls Try.prog 26 #[.int .i64 a, .int .i64 b] w fun e w' => e = .returned (.bool (maskHas a b)) ∧ w = w' := by
  cases h1 : inR a 0 15 <;> cases h2 : inR b 0 3
  case true.true =>
    have hm := Lib.hid (maskHas_tmod a b h1 h2)
    obtain ⟨g1, g2⟩ := inR_iff.1 h1
    obtain ⟨g3, g4⟩ := inR_iff.1 h2
    go_enter Try.func26, Try.ntmps26
    go_wp2_with (first | (go_at_call 35; refine (sMaskOk_any _ _).mono ?_; rintro e w' ⟨rfl, rfl⟩) | (go_at_call 23; refine (l1In_any _ _ _ _).mono ?_; rintro e w' ⟨rfl, rfl⟩))
    go_ret
    exact ⟨ret_bool hm.out, rfl⟩
  all_goals
    first | rw [maskHas_no _ _ h1] | rw [maskHas_no2 _ _ h2]
    go_enter Try.func26, Try.ntmps26
    go_wp2_with (first | (go_at_call 35; refine (sMaskOk_any _ _).mono ?_; rintro e w' ⟨rfl, rfl⟩) | (go_at_call 23; refine (l1In_any _ _ _ _).mono ?_; rintro e w' ⟨rfl, rfl⟩))
    go_ret
    exact ⟨rfl, rfl⟩
theorem maskAnd_bits (a b : Int) (h1 : inR a 0 15 = true) (h2 : inR b 0 15 = true) : bits .and .i64 a b = maskAnd a b := by
  have : maskAnd a b = andUp a b 4 := by simp [maskAnd, h1, h2]
  rw [this]
  obtain ⟨g1, g2⟩ := inR_iff.1 h1
  obtain ⟨g3, g4⟩ := inR_iff.1 h2
  rcases upto15 g1 g2 with h | h | h | h | h | h | h | h | h | h | h | h | h | h | h | h <;> subst h <;> rcases upto15 g3 g4 with h | h | h | h | h | h | h | h | h | h | h | h | h | h | h | h <;> subst h <;> rfl
theorem maskAnd_no (a b : Int) (h : (inR a 0 15 && inR b 0 15) = false) : maskAnd a b = 0 := by simp [maskAnd, h]
theorem iMaskAnd_any (a b : Int) (w : World) :
    Calls Try.prog 20 #[.int .i64 a, .int .i64 b] w fun e w' => e = .returned (.int .i64 (maskAnd a b)) ∧ w = w' := by
  cases h1 : inR a 0 15 <;> cases h2 : inR b 0 15
  case true.true =>
    have hm := Lib.hid (maskAnd_bits a b h1 h2)
    go_enter Try.func20, Try.ntmps20
    go_wp2_with (go_at_call 32; refine (iMaskOk_any _ _).mono ?_; rintro e w' ⟨rfl, rfl⟩)
    go_ret
    exact ⟨ret_int3 hm.out, rfl⟩
  all_goals
    rw [maskAnd_no a b (by simp [h1, h2])]
    go_enter Try.func20, Try.ntmps20
    go_wp2_with (go_at_call 32; refine (iMaskOk_any _ _).mono ?_; rintro e w' ⟨rfl, rfl⟩)
    go_ret
    exact ⟨rfl, rfl⟩
theorem iDomainLevels_any (a : Int) (w : World) :
    Calls Try.prog 18 #[.int .i64 a] w fun e w' => e = .returned (.int .i64 (levels a)) ∧ w = w' := by
  cases h1 : inR a 1 4
  · rw [levels_no a h1]
    go_enter Try.func18, Try.ntmps18
    go_wp2_with (go_at_call 24; refine (inRange_any _ _ _ _).mono ?_; rintro e w' ⟨rfl, rfl⟩)
    go_ret
    exact ⟨rfl, rfl⟩
  · obtain ⟨g1, g2⟩ := inR_iff.1 h1
    have : a = 1 ∨ a = 2 ∨ a = 3 ∨ a = 4 := by omega
    rcases this with h | h | h | h <;> subst h
    all_goals
      go_enter Try.func18, Try.ntmps18
      go_wp2_with (go_at_call 24; refine (inRange_any _ _ _ _).mono ?_; rintro e w' ⟨rfl, rfl⟩)
      go_rounds 4
      go_ret
      exact ⟨rfl, rfl⟩
theorem sDomainLevels_any (a : Int) (w : World) :
    Calls Try.prog 19 #[.int .i64 a] w fun e w' => e = .returned (.int .i64 (levels a)) ∧ w = w' := by
  cases h1 : inR a 1 4
  · rw [levels_no a h1]
    go_enter Try.func19, Try.ntmps19
    go_wp2_with (go_at_call 23; refine (l1In_any _ _ _ _).mono ?_; rintro e w' ⟨rfl, rfl⟩)
    go_ret
    exact ⟨rfl, rfl⟩
  · obtain ⟨g1, g2⟩ := inR_iff.1 h1
    have : a = 1 ∨ a = 2 ∨ a = 3 ∨ a = 4 := by omega
    rcases this with h | h | h | h <;> subst h
    all_goals
      go_enter Try.func19, Try.ntmps19
      go_wp2_with (go_at_call 23; refine (l1In_any _ _ _ _).mono ?_; rintro e w' ⟨rfl, rfl⟩)
      go_rounds 4
      go_ret
      exact ⟨rfl, rfl⟩
theorem iDecayBeats_any (a b c : Int) (w : World) :
    Calls Try.prog 12 #[.int .i64 a, .int .i64 b, .int .i64 c] w fun e w' => e = .returned (.int .i64 (decayBeats a b c)) ∧ w = w' := by
  unfold decayBeats
  cases h1 : inR c 0 20 <;> cases h2 : inR a 0 8000000
  case true.true =>
    obtain ⟨g1, g2⟩ := inR_iff.1 h1
    go_enter Try.func12, Try.ntmps12
    go_wp2_with (first | (go_at_call 24; refine (inRange_any _ _ _ _).mono ?_; rintro e w' ⟨rfl, rfl⟩) | (go_at_call 30; refine (loadOk_any _ _).mono ?_; rintro e w' ⟨rfl, rfl⟩))
    go_loop [0, 16] (fun l i => ∃ k : Int, 0 ≤ k ∧ k ≤ c ∧ i = .int .i64 k ∧ l = .int .i64 (beatsI b k a)) (fun _ i => (c - intOf i).toNat)
    case atStart => exact ⟨0, by omega, by omega, rfl, rfl⟩
    case round =>
      obtain ⟨k, hk0, hk, rfl, rfl⟩ := hrel
      by_cases hlt : k < c
      · have HS := Lib.hid (beatsI_succ b a k hk0)
        go_wp2_with (go_at_call 15; refine (iDecayBeat_any _ _ _).mono ?_; rintro e w' ⟨rfl, rfl⟩)
        go_round
        case rel => exact ⟨k + 1, by omega, by omega, rfl, by rw [HS.out]⟩
        case measure => simp [intOf]; omega
      · obtain rfl : k = c := by omega
        go_wp2
        go_ret
        exact ⟨rfl, rfl⟩
  all_goals
    go_enter Try.func12, Try.ntmps12
    go_wp2_with (first | (go_at_call 24; refine (inRange_any _ _ _ _).mono ?_; rintro e w' ⟨rfl, rfl⟩) | (go_at_call 30; refine (loadOk_any _ _).mono ?_; rintro e w' ⟨rfl, rfl⟩))
    go_ret
    exact ⟨rfl, rfl⟩
theorem sDecayBeats_any (a b c : Int) (w : World) :
    Calls Try.prog 13 #[.int .i64 a, .int .i64 b, .int .i64 c] w fun e w' => e = .returned (.int .i64 (decayBeats a b c)) ∧ w = w' := by
  unfold decayBeats
  cases h1 : inR c 0 20 <;> cases h2 : inR a 0 8000000
  case true.true =>
    obtain ⟨g1, g2⟩ := inR_iff.1 h1
    go_enter Try.func13, Try.ntmps13
    go_wp2_with (first | (go_at_call 23; refine (l1In_any _ _ _ _).mono ?_; rintro e w' ⟨rfl, rfl⟩))
    go_loop [0, 7] (fun l i => ∃ k : Int, 0 ≤ k ∧ k ≤ c ∧ i = .int .i64 k ∧ l = .int .i64 (beatsI b k a)) (fun _ i => (c - intOf i).toNat)
    case atStart => exact ⟨0, by omega, by omega, rfl, rfl⟩
    case round =>
      obtain ⟨k, hk0, hk, rfl, rfl⟩ := hrel
      by_cases hlt : k < c
      · have HS := Lib.hid (beatsI_succ b a k hk0)
        go_wp2_with (go_at_call 16; refine (sDecayBeat_any _ _ _).mono ?_; rintro e w' ⟨rfl, rfl⟩)
        go_round
        case rel => exact ⟨k + 1, by omega, by omega, rfl, by rw [HS.out]⟩
        case measure => simp [intOf]; omega
      · obtain rfl : k = c := by omega
        go_wp2
        go_ret
        exact ⟨rfl, rfl⟩
  all_goals
    go_enter Try.func13, Try.ntmps13
    go_wp2_with (first | (go_at_call 23; refine (l1In_any _ _ _ _).mono ?_; rintro e w' ⟨rfl, rfl⟩))
    go_ret
    exact ⟨rfl, rfl⟩
end Go.Proofs.Ytipopjkikahjpab

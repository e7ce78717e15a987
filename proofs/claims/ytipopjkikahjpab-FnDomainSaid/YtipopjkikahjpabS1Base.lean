/- Contracts of the scalar functions of stint (impl and spec): what each call returns, said by one plain function for both; the world stays. -/
import Derived.Test.YtipopjkikahjpabRows
import Derived.Test.YtipopjkikahjpabS1Plain
import Derived.WalkKit
import Derived.WalkSpells
import Derived.WalkLawsBesides
import Derived.Lib.Hide
import Derived.Handy
namespace Go.Proofs.Ytipopjkikahjpab
open Go.RowKit

theorem inRange_any (a b c : Int) (w : World) :
    Calls Try.prog 24 #[.int .i64 a, .int .i64 b, .int .i64 c] w fun e w' => e = .returned (.bool (inR a b c)) ∧ w = w' := by
  by_cases h1 : b ≤ a
  · by_cases h2 : a ≤ c
    · rw [inR_t h1 h2]
      go_enter Try.func24, Try.ntmps24
      go_wp2
      go_ret
      exact ⟨rfl, rfl⟩
    · rw [inR_f (by omega)]
      go_enter Try.func24, Try.ntmps24
      go_wp2
      go_ret
      exact ⟨rfl, rfl⟩
  · rw [inR_f (by omega)]
    go_enter Try.func24, Try.ntmps24
    go_wp2
    go_ret
    exact ⟨rfl, rfl⟩
theorem l1In_any (a b c : Int) (w : World) :
    Calls Try.prog 23 #[.int .i64 a, .int .i64 b, .int .i64 c] w fun e w' => e = .returned (.bool (inR a b c)) ∧ w = w' := by
  by_cases h1 : b ≤ a
  · by_cases h2 : a ≤ c
    · rw [inR_t h1 h2]
      go_enter Try.func23, Try.ntmps23
      go_wp2
      go_ret
      exact ⟨rfl, rfl⟩
    · rw [inR_f (by omega)]
      go_enter Try.func23, Try.ntmps23
      go_wp2
      go_ret
      exact ⟨rfl, rfl⟩
  · rw [inR_f (by omega)]
    go_enter Try.func23, Try.ntmps23
    go_wp2
    go_ret
    exact ⟨rfl, rfl⟩
theorem loadOk_any (a : Int) (w : World) :
    Calls Try.prog 30 #[.int .i64 a] w fun e w' => e = .returned (.bool (inR a 0 8000000)) ∧ w = w' := by
  go_enter Try.func30, Try.ntmps30
  go_wp2_with (go_at_call 24; refine (inRange_any _ _ _ _).mono ?_; rintro e w' ⟨rfl, rfl⟩)
  go_ret
  exact ⟨rfl, rfl⟩
theorem usedOk_any (a : Int) (w : World) :
    Calls Try.prog 31 #[.int .i64 a] w fun e w' => e = .returned (.bool (inR a 0 1000000)) ∧ w = w' := by
  go_enter Try.func31, Try.ntmps31
  go_wp2_with (go_at_call 24; refine (inRange_any _ _ _ _).mono ?_; rintro e w' ⟨rfl, rfl⟩)
  go_ret
  exact ⟨rfl, rfl⟩
theorem iDecayBeat_any (a b : Int) (w : World) :
    Calls Try.prog 15 #[.int .i64 a, .int .i64 b] w fun e w' => e = .returned (.int .i64 (decayBeat a b)) ∧ w = w' := by
  unfold decayBeat
  cases h1 : inR a 0 8000000 <;> cases h2 : inR b 0 1000000
  case true.true =>
    have g1 := inR_iff.1 h1
    have g2 := inR_iff.1 h2
    obtain ⟨g3, g4⟩ := g1
    obtain ⟨g5, g6⟩ := g2
    go_enter Try.func15, Try.ntmps15
    go_wp2_with (first | (go_at_call 30; refine (loadOk_any _ _).mono ?_; rintro e w' ⟨rfl, rfl⟩) | (go_at_call 31; refine (usedOk_any _ _).mono ?_; rintro e w' ⟨rfl, rfl⟩))
    go_ret
    exact ⟨rfl, rfl⟩
  all_goals
    go_enter Try.func15, Try.ntmps15
    go_wp2_with (first | (go_at_call 30; refine (loadOk_any _ _).mono ?_; rintro e w' ⟨rfl, rfl⟩) | (go_at_call 31; refine (usedOk_any _ _).mono ?_; rintro e w' ⟨rfl, rfl⟩))
    go_ret
    exact ⟨rfl, rfl⟩
theorem sDecayBeat_any (a b : Int) (w : World) :
    Calls Try.prog 16 #[.int .i64 a, .int .i64 b] w fun e w' => e = .returned (.int .i64 (decayBeat a b)) ∧ w = w' := by
  unfold decayBeat
  cases h1 : inR a 0 8000000 <;> cases h2 : inR b 0 1000000
  case true.true =>
    have g1 := inR_iff.1 h1
    have g2 := inR_iff.1 h2
    obtain ⟨g3, g4⟩ := g1
    obtain ⟨g5, g6⟩ := g2
    go_enter Try.func16, Try.ntmps16
    go_wp2_with (go_at_call 23; refine (l1In_any _ _ _ _).mono ?_; rintro e w' ⟨rfl, rfl⟩)
    go_ret
    exact ⟨rfl, rfl⟩
  all_goals
    go_enter Try.func16, Try.ntmps16
    go_wp2_with (go_at_call 23; refine (l1In_any _ _ _ _).mono ?_; rintro e w' ⟨rfl, rfl⟩)
    go_ret
    exact ⟨rfl, rfl⟩
theorem iDecayTop_any (a : Int) (w : World) :
    Calls Try.prog 14 #[.int .i64 a] w fun e w' => e = .returned (.int .i64 (decayTop a)) ∧ w = w' := by
  unfold decayTop
  cases h1 : inR a 0 1000000
  case true =>
    obtain ⟨g1, g2⟩ := inR_iff.1 h1
    go_enter Try.func14, Try.ntmps14
    go_wp2_with (go_at_call 31; refine (usedOk_any _ _).mono ?_; rintro e w' ⟨rfl, rfl⟩)
    go_ret
    exact ⟨rfl, rfl⟩
  all_goals
    go_enter Try.func14, Try.ntmps14
    go_wp2_with (go_at_call 31; refine (usedOk_any _ _).mono ?_; rintro e w' ⟨rfl, rfl⟩)
    go_ret
    exact ⟨rfl, rfl⟩
theorem cpuSetOk_any (a : Int) (w : World) :
    Calls Try.prog 36 #[.int .i64 a] w fun e w' => e = .returned (.bool (inR a 0 15)) ∧ w = w' := by
  by_cases h1 : 0 ≤ a
  · by_cases h2 : a ≤ 15
    · rw [inR_t h1 h2]
      go_enter Try.func36, Try.ntmps36
      go_wp2
      go_ret
      exact ⟨rfl, rfl⟩
    · rw [inR_f (by omega)]
      go_enter Try.func36, Try.ntmps36
      go_wp2
      go_ret
      exact ⟨rfl, rfl⟩
  · rw [inR_f (by omega)]
    go_enter Try.func36, Try.ntmps36
    go_wp2
    go_ret
    exact ⟨rfl, rfl⟩
theorem iMaskOk_any (a : Int) (w : World) :
    Calls Try.prog 32 #[.int .i64 a] w fun e w' => e = .returned (.bool (inR a 0 15)) ∧ w = w' := by
  go_enter Try.func32, Try.ntmps32
  go_wp2_with (go_at_call 36; refine (cpuSetOk_any _ _).mono ?_; rintro e w' ⟨rfl, rfl⟩)
  go_ret
  exact ⟨rfl, rfl⟩
theorem sMaskOk_any (a : Int) (w : World) :
    Calls Try.prog 35 #[.int .i64 a] w fun e w' => e = .returned (.bool (inR a 0 15)) ∧ w = w' := by
  go_enter Try.func35, Try.ntmps35
  go_wp2_with (go_at_call 23; refine (l1In_any _ _ _ _).mono ?_; rintro e w' ⟨rfl, rfl⟩)
  go_ret
  exact ⟨rfl, rfl⟩
end Go.Proofs.Ytipopjkikahjpab

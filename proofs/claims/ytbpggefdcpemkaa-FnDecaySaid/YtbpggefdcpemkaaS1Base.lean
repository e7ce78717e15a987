/- Contracts of the scalar functions of stint (impl and spec): what each call returns, said by one plain function for both; the world stays. -/
import Derived.Test.YtbpggefdcpemkaaRows
import Derived.Test.YtbpggefdcpemkaaS1Plain
import Derived.WalkKit
import Derived.WalkSpells
import Derived.WalkLawsBesides
import Derived.Lib.Hide
import Derived.Handy
namespace Go.Proofs.Ytbpggefdcpemkaa
open Go.RowKit

theorem inRange_any (a b c : Int) (w : World) :
    Calls Try.prog 13 #[.int .i64 a, .int .i64 b, .int .i64 c] w fun e w' => e = .returned (.bool (inR a b c)) ∧ w = w' := by
  by_cases h1 : b ≤ a
  · by_cases h2 : a ≤ c
    · rw [inR_t h1 h2]
      go_enter Try.func13, Try.ntmps13
      go_wp2
      go_ret
      exact ⟨rfl, rfl⟩
    · rw [inR_f (by omega)]
      go_enter Try.func13, Try.ntmps13
      go_wp2
      go_ret
      exact ⟨rfl, rfl⟩
  · rw [inR_f (by omega)]
    go_enter Try.func13, Try.ntmps13
    go_wp2
    go_ret
    exact ⟨rfl, rfl⟩
theorem l1In_any (a b c : Int) (w : World) :
    Calls Try.prog 15 #[.int .i64 a, .int .i64 b, .int .i64 c] w fun e w' => e = .returned (.bool (inR a b c)) ∧ w = w' := by
  by_cases h1 : b ≤ a
  · by_cases h2 : a ≤ c
    · rw [inR_t h1 h2]
      go_enter Try.func15, Try.ntmps15
      go_wp2
      go_ret
      exact ⟨rfl, rfl⟩
    · rw [inR_f (by omega)]
      go_enter Try.func15, Try.ntmps15
      go_wp2
      go_ret
      exact ⟨rfl, rfl⟩
  · rw [inR_f (by omega)]
    go_enter Try.func15, Try.ntmps15
    go_wp2
    go_ret
    exact ⟨rfl, rfl⟩
theorem loadOk_any (a : Int) (w : World) :
    Calls Try.prog 14 #[.int .i64 a] w fun e w' => e = .returned (.bool (inR a 0 8000000)) ∧ w = w' := by
  go_enter Try.func14, Try.ntmps14
  go_wp2_with (go_at_call 13; refine (inRange_any _ _ _ _).mono ?_; rintro e w' ⟨rfl, rfl⟩)
  go_ret
  exact ⟨rfl, rfl⟩
theorem usedOk_any (a : Int) (w : World) :
    Calls Try.prog 16 #[.int .i64 a] w fun e w' => e = .returned (.bool (inR a 0 1000000)) ∧ w = w' := by
  go_enter Try.func16, Try.ntmps16
  go_wp2_with (go_at_call 13; refine (inRange_any _ _ _ _).mono ?_; rintro e w' ⟨rfl, rfl⟩)
  go_ret
  exact ⟨rfl, rfl⟩
theorem iDecayBeat_any (a b : Int) (w : World) :
    Calls Try.prog 8 #[.int .i64 a, .int .i64 b] w fun e w' => e = .returned (.int .i64 (decayBeat a b)) ∧ w = w' := by
  unfold decayBeat
  cases h1 : inR a 0 8000000 <;> cases h2 : inR b 0 1000000
  case true.true =>
    have g1 := inR_iff.1 h1
    have g2 := inR_iff.1 h2
    obtain ⟨g3, g4⟩ := g1
    obtain ⟨g5, g6⟩ := g2
    go_enter Try.func8, Try.ntmps8
    go_wp2_with (first | (go_at_call 14; refine (loadOk_any _ _).mono ?_; rintro e w' ⟨rfl, rfl⟩) | (go_at_call 16; refine (usedOk_any _ _).mono ?_; rintro e w' ⟨rfl, rfl⟩))
    go_ret
    exact ⟨rfl, rfl⟩
  all_goals
    go_enter Try.func8, Try.ntmps8
    go_wp2_with (first | (go_at_call 14; refine (loadOk_any _ _).mono ?_; rintro e w' ⟨rfl, rfl⟩) | (go_at_call 16; refine (usedOk_any _ _).mono ?_; rintro e w' ⟨rfl, rfl⟩))
    go_ret
    exact ⟨rfl, rfl⟩
theorem sDecayBeat_any (a b : Int) (w : World) :
    Calls Try.prog 9 #[.int .i64 a, .int .i64 b] w fun e w' => e = .returned (.int .i64 (decayBeat a b)) ∧ w = w' := by
  unfold decayBeat
  cases h1 : inR a 0 8000000 <;> cases h2 : inR b 0 1000000
  case true.true =>
    have g1 := inR_iff.1 h1
    have g2 := inR_iff.1 h2
    obtain ⟨g3, g4⟩ := g1
    obtain ⟨g5, g6⟩ := g2
    go_enter Try.func9, Try.ntmps9
    go_wp2_with (go_at_call 15; refine (l1In_any _ _ _ _).mono ?_; rintro e w' ⟨rfl, rfl⟩)
    go_ret
    exact ⟨rfl, rfl⟩
  all_goals
    go_enter Try.func9, Try.ntmps9
    go_wp2_with (go_at_call 15; refine (l1In_any _ _ _ _).mono ?_; rintro e w' ⟨rfl, rfl⟩)
    go_ret
    exact ⟨rfl, rfl⟩
theorem iDecayTop_any (a : Int) (w : World) :
    Calls Try.prog 7 #[.int .i64 a] w fun e w' => e = .returned (.int .i64 (decayTop a)) ∧ w = w' := by
  unfold decayTop
  cases h1 : inR a 0 1000000
  case true =>
    obtain ⟨g1, g2⟩ := inR_iff.1 h1
    go_enter Try.func7, Try.ntmps7
    go_wp2_with (go_at_call 16; refine (usedOk_any _ _).mono ?_; rintro e w' ⟨rfl, rfl⟩)
    go_ret
    exact ⟨rfl, rfl⟩
  all_goals
    go_enter Try.func7, Try.ntmps7
    go_wp2_with (go_at_call 16; refine (usedOk_any _ _).mono ?_; rintro e w' ⟨rfl, rfl⟩)
    go_ret
    exact ⟨rfl, rfl⟩
end Go.Proofs.Ytbpggefdcpemkaa

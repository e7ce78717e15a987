/- Contracts of the scalar functions of stint (impl and spec): what each call returns, said by one plain function for both; the world stays. -/
import Derived.Test.YthanmhcmhmjekabRows
import Derived.Test.YthanmhcmhmjekabS1Plain
import Derived.WalkKit
import Derived.WalkSpells
import Derived.WalkLawsBesides
import Derived.Lib.Hide
import Derived.Handy
namespace Go.Proofs.Ythanmhcmhmjekab
open Go.RowKit

theorem inRange_any (a b c : Int) (w : World) :
    Calls Try.prog 24 #[.int .i64 a, .int .i64 b, .int .i64 c] w fun e w' => e = .returned (.bool (inR a b c)) ∧ w = w' := by
  by_cases h1 : b ≤ a
  · by_cases h2 : a ≤ c
    · rw [inR_t h1 h2]
      go_enter Try.func24, Try.ntmps24
      go_wp2
      go_ret
      exact ⟨rfl, rfl⟩
    · rw [inR_f (by omega)]
      go_enter Try.func24, Try.ntmps24
      go_wp2
      go_ret
      exact ⟨rfl, rfl⟩
  · rw [inR_f (by omega)]
    go_enter Try.func24, Try.ntmps24
    go_wp2
    go_ret
    exact ⟨rfl, rfl⟩
theorem l1In_any (a b c : Int) (w : World) :
    Calls Try.prog 23 #[.int .i64 a, .int .i64 b, .int .i64 c] w fun e w' => e = .returned (.bool (inR a b c)) ∧ w = w' := by
  by_cases h1 : b ≤ a
  · by_cases h2 : a ≤ c
    · rw [inR_t h1 h2]
      go_enter Try.func23, Try.ntmps23
      go_wp2
      go_ret
      exact ⟨rfl, rfl⟩
    · rw [inR_f (by omega)]
      go_enter Try.func23, Try.ntmps23
      go_wp2
      go_ret
      exact ⟨rfl, rfl⟩
  · rw [inR_f (by omega)]
    go_enter Try.func23, Try.ntmps23
    go_wp2
    go_ret
    exact ⟨rfl, rfl⟩
theorem weightOk_any (a : Int) (w : World) :
    Calls Try.prog 22 #[.int .i64 a] w fun e w' => e = .returned (.bool (inR a 1 20)) ∧ w = w' := by
  go_enter Try.func22, Try.ntmps22
  go_wp2_with (go_at_call 24; refine (inRange_any _ _ _ _).mono ?_; rintro e w' ⟨rfl, rfl⟩)
  go_ret
  exact ⟨rfl, rfl⟩
theorem l1Weight_any (a : Int) (w : World) :
    Calls Try.prog 21 #[.int .i64 a] w fun e w' => e = .returned (.bool (inR a 1 20)) ∧ w = w' := by
  go_enter Try.func21, Try.ntmps21
  go_wp2_with (go_at_call 23; refine (l1In_any _ _ _ _).mono ?_; rintro e w' ⟨rfl, rfl⟩)
  go_ret
  exact ⟨rfl, rfl⟩
theorem iNiceOf_any (a : Int) (w : World) :
    Calls Try.prog 10 #[.int .i64 a] w fun e w' => e = .returned (.tuple #[.int .i64 (niceOf a), .bool (inR a 1 20)]) ∧ w = w' := by
  unfold niceOf
  cases h1 : inR a 1 20
  case true =>
    obtain ⟨g1, g2⟩ := inR_iff.1 h1
    go_enter Try.func10, Try.ntmps10
    go_wp2_with (go_at_call 22; refine (weightOk_any _ _).mono ?_; rintro e w' ⟨rfl, rfl⟩)
    go_ret2
    exact ⟨rfl, rfl⟩
  all_goals
    go_enter Try.func10, Try.ntmps10
    go_wp2_with (go_at_call 22; refine (weightOk_any _ _).mono ?_; rintro e w' ⟨rfl, rfl⟩)
    go_ret2
    exact ⟨rfl, rfl⟩
theorem sNiceOf_any (a : Int) (w : World) :
    Calls Try.prog 9 #[.int .i64 a] w fun e w' => e = .returned (.tuple #[.int .i64 (niceOf a), .bool (inR a 1 20)]) ∧ w = w' := by
  unfold niceOf
  cases h1 : inR a 1 20
  case true =>
    obtain ⟨g1, g2⟩ := inR_iff.1 h1
    go_enter Try.func9, Try.ntmps9
    go_wp2_with (go_at_call 21; refine (l1Weight_any _ _).mono ?_; rintro e w' ⟨rfl, rfl⟩)
    go_ret2
    exact ⟨rfl, rfl⟩
  all_goals
    go_enter Try.func9, Try.ntmps9
    go_wp2_with (go_at_call 21; refine (l1Weight_any _ _).mono ?_; rintro e w' ⟨rfl, rfl⟩)
    go_ret2
    exact ⟨rfl, rfl⟩
theorem iQueueApart_any (a b : Int) (w : World) :
    Calls Try.prog 12 #[.int .i64 a, .int .i64 b] w fun e w' => e = .returned (.int .i64 (queueApart a b)) ∧ w = w' := by
  unfold queueApart
  cases h1 : inR a 1 20 <;> cases h2 : inR b 1 20
  case true.true =>
    obtain ⟨g1, g2⟩ := inR_iff.1 h1
    obtain ⟨g3, g4⟩ := inR_iff.1 h2
    go_enter Try.func12, Try.ntmps12
    go_wp2_with (go_at_call 22; refine (weightOk_any _ _).mono ?_; rintro e w' ⟨rfl, rfl⟩)
    go_ret
    exact ⟨rfl, rfl⟩
  all_goals
    go_enter Try.func12, Try.ntmps12
    go_wp2_with (go_at_call 22; refine (weightOk_any _ _).mono ?_; rintro e w' ⟨rfl, rfl⟩)
    go_ret
    exact ⟨rfl, rfl⟩
theorem sQueueApart_any (a b : Int) (w : World) :
    Calls Try.prog 11 #[.int .i64 a, .int .i64 b] w fun e w' => e = .returned (.int .i64 (queueApart a b)) ∧ w = w' := by
  unfold queueApart
  cases h1 : inR a 1 20 <;> cases h2 : inR b 1 20
  case true.true =>
    obtain ⟨g1, g2⟩ := inR_iff.1 h1
    obtain ⟨g3, g4⟩ := inR_iff.1 h2
    go_enter Try.func11, Try.ntmps11
    go_wp2_with (go_at_call 21; refine (l1Weight_any _ _).mono ?_; rintro e w' ⟨rfl, rfl⟩)
    go_ret
    exact ⟨rfl, rfl⟩
  all_goals
    go_enter Try.func11, Try.ntmps11
    go_wp2_with (go_at_call 21; refine (l1Weight_any _ _).mono ?_; rintro e w' ⟨rfl, rfl⟩)
    go_ret
    exact ⟨rfl, rfl⟩
theorem cpuSetOk_any (a : Int) (w : World) :
    Calls Try.prog 29 #[.int .i64 a] w fun e w' => e = .returned (.bool (inR a 0 15)) ∧ w = w' := by
  by_cases h1 : 0 ≤ a
  · by_cases h2 : a ≤ 15
    · rw [inR_t h1 h2]
      go_enter Try.func29, Try.ntmps29
      go_wp2
      go_ret
      exact ⟨rfl, rfl⟩
    · rw [inR_f (by omega)]
      go_enter Try.func29, Try.ntmps29
      go_wp2
      go_ret
      exact ⟨rfl, rfl⟩
  · rw [inR_f (by omega)]
    go_enter Try.func29, Try.ntmps29
    go_wp2
    go_ret
    exact ⟨rfl, rfl⟩
theorem iMaskOk_any (a : Int) (w : World) :
    Calls Try.prog 28 #[.int .i64 a] w fun e w' => e = .returned (.bool (inR a 0 15)) ∧ w = w' := by
  go_enter Try.func28, Try.ntmps28
  go_wp2_with (go_at_call 29; refine (cpuSetOk_any _ _).mono ?_; rintro e w' ⟨rfl, rfl⟩)
  go_ret
  exact ⟨rfl, rfl⟩
theorem sMaskOk_any (a : Int) (w : World) :
    Calls Try.prog 26 #[.int .i64 a] w fun e w' => e = .returned (.bool (inR a 0 15)) ∧ w = w' := by
  go_enter Try.func26, Try.ntmps26
  go_wp2_with (go_at_call 23; refine (l1In_any _ _ _ _).mono ?_; rintro e w' ⟨rfl, rfl⟩)
  go_ret
  exact ⟨rfl, rfl⟩
end Go.Proofs.Ythanmhcmhmjekab

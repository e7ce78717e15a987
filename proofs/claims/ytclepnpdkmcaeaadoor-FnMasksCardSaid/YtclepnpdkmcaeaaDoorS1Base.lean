/- Contracts of the scalar functions of stint (impl and spec): what each call returns, said by one plain function for both; the world stays. -/
import Derived.Test.YtclepnpdkmcaeaaDoorRows
import Derived.Test.YtclepnpdkmcaeaaDoorS1Plain
import Derived.WalkKit
import Derived.WalkSpells
import Derived.WalkLawsBesides
import Derived.Lib.Hide
import Derived.Handy
namespace Go.Proofs.YtclepnpdkmcaeaaDoor
open Go.RowKit

theorem inRange_any (a b c : Int) (w : World) :
    Calls Tryd.prog 30 #[.int .i64 a, .int .i64 b, .int .i64 c] w fun e w' => e = .returned (.bool (inR a b c)) ∧ w = w' := by
  by_cases h1 : b ≤ a
  · by_cases h2 : a ≤ c
    · rw [inR_t h1 h2]
      go_enter Tryd.func30, Tryd.ntmps30
      go_wp2
      go_ret
      exact ⟨rfl, rfl⟩
    · rw [inR_f (by omega)]
      go_enter Tryd.func30, Tryd.ntmps30
      go_wp2
      go_ret
      exact ⟨rfl, rfl⟩
  · rw [inR_f (by omega)]
    go_enter Tryd.func30, Tryd.ntmps30
    go_wp2
    go_ret
    exact ⟨rfl, rfl⟩
theorem l1In_any (a b c : Int) (w : World) :
    Calls Tryd.prog 27 #[.int .i64 a, .int .i64 b, .int .i64 c] w fun e w' => e = .returned (.bool (inR a b c)) ∧ w = w' := by
  by_cases h1 : b ≤ a
  · by_cases h2 : a ≤ c
    · rw [inR_t h1 h2]
      go_enter Tryd.func27, Tryd.ntmps27
      go_wp2
      go_ret
      exact ⟨rfl, rfl⟩
    · rw [inR_f (by omega)]
      go_enter Tryd.func27, Tryd.ntmps27
      go_wp2
      go_ret
      exact ⟨rfl, rfl⟩
  · rw [inR_f (by omega)]
    go_enter Tryd.func27, Tryd.ntmps27
    go_wp2
    go_ret
    exact ⟨rfl, rfl⟩
theorem cpuSetOk_any (a : Int) (w : World) :
    Calls Tryd.prog 29 #[.int .i64 a] w fun e w' => e = .returned (.bool (inR a 0 15)) ∧ w = w' := by
  by_cases h1 : 0 ≤ a
  · by_cases h2 : a ≤ 15
    · rw [inR_t h1 h2]
      go_enter Tryd.func29, Tryd.ntmps29
      go_wp2
      go_ret
      exact ⟨rfl, rfl⟩
    · rw [inR_f (by omega)]
      go_enter Tryd.func29, Tryd.ntmps29
      go_wp2
      go_ret
      exact ⟨rfl, rfl⟩
  · rw [inR_f (by omega)]
    go_enter Tryd.func29, Tryd.ntmps29
    go_wp2
    go_ret
    exact ⟨rfl, rfl⟩
theorem iMaskOk_any (a : Int) (w : World) :
    Calls Tryd.prog 26 #[.int .i64 a] w fun e w' => e = .returned (.bool (inR a 0 15)) ∧ w = w' := by
  go_enter Tryd.func26, Tryd.ntmps26
  go_wp2_with (go_at_call 29; refine (cpuSetOk_any _ _).mono ?_; rintro e w' ⟨rfl, rfl⟩)
  go_ret
  exact ⟨rfl, rfl⟩
theorem sMaskOk_any (a : Int) (w : World) :
    Calls Tryd.prog 14 #[.int .i64 a] w fun e w' => e = .returned (.bool (inR a 0 15)) ∧ w = w' := by
  go_enter Tryd.func14, Tryd.ntmps14
  go_wp2_with (go_at_call 27; refine (l1In_any _ _ _ _).mono ?_; rintro e w' ⟨rfl, rfl⟩)
  go_ret
  exact ⟨rfl, rfl⟩
end Go.Proofs.YtclepnpdkmcaeaaDoor

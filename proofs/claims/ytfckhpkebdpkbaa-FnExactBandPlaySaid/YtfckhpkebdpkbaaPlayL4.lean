/-
  Sizes: what is left of a size.
-/
import Derived.WalkKit
import Derived.Test.YtfckhpkebdpkbaaRows
import Derived.Test.YtfckhpkebdpkbaaPlayL1
import Derived.WalkSpells
import Derived.WalkLawsBesides
import Derived.Lib.Hide
import Derived.Handy
namespace Go.Proofs.Ytfckhpkebdpkbaa
/-- What is left of a size. -/
def szN (l : Int) (n : Nat) : Int := if l - n < 0 then -1 else l - n
theorem szN_neg (l : Int) (n : Nat) (h : l - n < 0) : szN l n = -1 := if_pos h
theorem szN_pos (l : Int) (n : Nat) (h : ¬ l - n < 0) : szN l n = l - n := if_neg h
end Go.Proofs.Ytfckhpkebdpkbaa

/- Contracts of the scalar functions of stint (impl and spec): what each call returns, said by one plain function for both; the world stays. -/
namespace Go.Proofs.Ytfckhpkebdpkbaa
open Go.RowKit

theorem inRange_any (a b c : Int) (w : World) :
    Calls Try.prog 40 #[.int .i64 a, .int .i64 b, .int .i64 c] w fun e w' => e = .returned (.bool (inR a b c)) ∧ w = w' := by
  by_cases h1 : b ≤ a
  · by_cases h2 : a ≤ c
    · rw [inR_t h1 h2]
      go_enter Try.func40, Try.ntmps40
      go_wp2
      go_ret
      exact ⟨rfl, rfl⟩
    · rw [inR_f (by omega)]
      go_enter Try.func40, Try.ntmps40
      go_wp2
      go_ret
      exact ⟨rfl, rfl⟩
  · rw [inR_f (by omega)]
    go_enter Try.func40, Try.ntmps40
    go_wp2
    go_ret
    exact ⟨rfl, rfl⟩
theorem l1In_any (a b c : Int) (w : World) :
    Calls Try.prog 37 #[.int .i64 a, .int .i64 b, .int .i64 c] w fun e w' => e = .returned (.bool (inR a b c)) ∧ w = w' := by
  by_cases h1 : b ≤ a
  · by_cases h2 : a ≤ c
    · rw [inR_t h1 h2]
      go_enter Try.func37, Try.ntmps37
      go_wp2
      go_ret
      exact ⟨rfl, rfl⟩
    · rw [inR_f (by omega)]
      go_enter Try.func37, Try.ntmps37
      go_wp2
      go_ret
      exact ⟨rfl, rfl⟩
  · rw [inR_f (by omega)]
    go_enter Try.func37, Try.ntmps37
    go_wp2
    go_ret
    exact ⟨rfl, rfl⟩
end Go.Proofs.Ytfckhpkebdpkbaa

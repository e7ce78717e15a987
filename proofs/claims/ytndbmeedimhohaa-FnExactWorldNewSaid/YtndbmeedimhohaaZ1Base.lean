/- Sizes: what is left of a size. -/
import Derived.WalkKit
namespace Go.Proofs.Ytndbmeedimhohaa
/-- What is left of a size. -/
def szN (l : Int) (n : Nat) : Int := if l - n < 0 then -1 else l - n
theorem szN_neg (l : Int) (n : Nat) (h : l - n < 0) : szN l n = -1 := if_pos h
theorem szN_pos (l : Int) (n : Nat) (h : ¬ l - n < 0) : szN l n = l - n := if_neg h
end Go.Proofs.Ytndbmeedimhohaa

/- Trees: toGroup. -/
import Derived.Test.YtndbmeedimhohaaG2Base
namespace Go.Proofs.Ytndbmeedimhohaa
open Go.RowKit
theorem OwnV.off {w : World} {g n : Nat} {f : Nat → Value} (h : OwnV w g n f) {p : Addr} (hp : g ≠ p.block) (u : Value) : OwnV (w.setCell p u) g n f :=
  h.same (Below.heap_setCell w p u g hp) (by simp)
theorem OwnV.rowOff {w : World} {g g' n : Nat} {f : Nat → Value} (h : OwnV w g n f) (hp : g ≠ g') (xs : Array Value) : OwnV (w.setRow g' xs) g n f :=
  h.same (setRow_other w g' g xs hp) (by simp [World.setRow])
end Go.Proofs.Ytndbmeedimhohaa

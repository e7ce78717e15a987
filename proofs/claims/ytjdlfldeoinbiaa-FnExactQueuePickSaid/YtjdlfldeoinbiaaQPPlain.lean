/- Queues: who is ready with the least virtual time; plain functions. -/
import Derived.Test.YtjdlfldeoinbiaaQ3Plain
namespace Go.Proofs.Ytjdlfldeoinbiaa
def leastTo (on : Nat → Bool) (v : Nat → Int) : Nat → Int
  | 0 => -1
  | k + 1 => if on k = true ∧ (leastTo on v k < 0 ∨ v k < v (leastTo on v k).toNat) then k else leastTo on v k
theorem leastTo_b (on : Nat → Bool) (v : Nat → Int) (k : Nat) : -1 ≤ leastTo on v k ∧ leastTo on v k < k := by
  induction k with
  | zero => simp [leastTo]
  | succ k ih =>
    simp only [leastTo]
    split <;> omega
theorem leastTo_no (on : Nat → Bool) (v : Nat → Int) (k : Nat) (h : on k = false) : leastTo on v (k + 1) = leastTo on v k := by simp [leastTo, h]
theorem leastTo_first (on : Nat → Bool) (v : Nat → Int) (k : Nat) (h : on k = true) (h2 : leastTo on v k < 0) : leastTo on v (k + 1) = k := by simp [leastTo, h, h2]
theorem leastTo_less (on : Nat → Bool) (v : Nat → Int) (k : Nat) (h : on k = true) (h2 : v k < v (leastTo on v k).toNat) : leastTo on v (k + 1) = k := by simp [leastTo, h, h2]
theorem leastTo_stay (on : Nat → Bool) (v : Nat → Int) (k : Nat) (h1 : ¬ leastTo on v k < 0) (h2 : ¬ v k < v (leastTo on v k).toNat) : leastTo on v (k + 1) = leastTo on v k := by simp [leastTo, h1, h2]
def queuePick (fl cu ra : Int) (n : Nat) (on : Nat → Bool) (v x s : Nat → Int) : Int :=
  if queueOk fl cu ra n on v x s then (if cu ≠ -1 ∧ ra < 50 then cu else leastTo on v n) else -1
/-- The order of the pile: by virtual time, then by index. -/
def lt2 (v : Nat → Int) (a b : Int) : Bool := decide (v a.toNat < v b.toNat) || (decide (v a.toNat = v b.toNat) && decide (a < b))
theorem lt2_iff (v : Nat → Int) (a b : Int) : lt2 v a b = true ↔ (v a.toNat < v b.toNat ∨ (v a.toNat = v b.toNat ∧ a < b)) := by simp [lt2]
theorem lt2_not (v : Nat → Int) (a b : Int) : lt2 v a b = false ↔ ¬ (v a.toNat < v b.toNat ∨ (v a.toNat = v b.toNat ∧ a < b)) := by
  rw [← lt2_iff]
  cases lt2 v a b <;> simp
theorem lt2_le_trans (v : Nat → Int) {r p y : Int} (h1 : lt2 v p r = false) (h2 : lt2 v y p = false) : lt2 v y r = false := by
  rw [lt2_not] at *
  omega
theorem lt2_lt_le (v : Nat → Int) {r y z : Int} (h1 : lt2 v y r = true) (h2 : lt2 v z r = false) : lt2 v z y = false := by
  rw [lt2_iff] at h1
  rw [lt2_not] at *
  omega
theorem lt2_self (v : Nat → Int) (a : Int) : lt2 v a a = false := by rw [lt2_not]; omega
end Go.Proofs.Ytjdlfldeoinbiaa

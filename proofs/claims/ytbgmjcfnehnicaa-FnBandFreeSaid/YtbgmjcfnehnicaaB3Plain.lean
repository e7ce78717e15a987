/- Bands: plain functions. -/
import Derived.Test.YtbgmjcfnehnicaaS1Plain
namespace Go.Proofs.Ytbgmjcfnehnicaa
def allTo (f : Nat → Bool) : Nat → Bool
  | 0 => true
  | k + 1 => allTo f k && f k
def sumTo (f : Nat → Int) : Nat → Int
  | 0 => 0
  | k + 1 => sumTo f k + f k
theorem allTo_false (f : Nat → Bool) (k n : Nat) (h : k < n) (hf : f k = false) : allTo f n = false := by
  induction n with
  | zero => omega
  | succ n ih =>
    simp only [allTo]
    by_cases e : k = n
    · subst e; simp [hf]
    · rw [ih (by omega)]; rfl
theorem allTo_at (f : Nat → Bool) (k n : Nat) (h : k < n) (hf : allTo f n = true) : f k = true := by
  cases e : f k
  · rw [allTo_false f k n h e] at hf; exact hf
  · rfl
theorem sumTo_b (f : Nat → Int) (q : Int) (k : Nat) (h : ∀ i, i < k → 0 ≤ f i ∧ f i ≤ q) : 0 ≤ sumTo f k ∧ sumTo f k ≤ k * q := by
  induction k with
  | zero => simp [sumTo]
  | succ k ih =>
    have h1 := ih (fun i hi => h i (by omega))
    have h2 := h k (by omega)
    simp only [sumTo]
    have : ((k + 1 : Nat) : Int) * q = k * q + q := by rw [Int.natCast_add, Int.add_mul]; simp
    omega
def locOk (q p : Int) (f : Nat → Int) (f' : Nat → Bool) (i : Nat) : Bool := inR (f i) 0 q && !(f' i && (decide (f i ≠ 0) || decide (p ≠ 0)))
def bandOk (q p s : Int) (n m : Nat) (f : Nat → Int) (f' : Nat → Bool) : Bool :=
  inR q 1 10000 && inR n 1 4 && decide (m = n) && inR p 0 q && inR s 0 q && allTo (locOk q p f f') n && (p + s + sumTo f n == q)
theorem bandOk_head (q p s : Int) (n m : Nat) (f : Nat → Int) (f' : Nat → Bool) (h : (inR q 1 10000 && inR n 1 4 && decide (m = n) && inR p 0 q && inR s 0 q) = false) : bandOk q p s n m f f' = false := by
  simp only [bandOk, h, Bool.false_and]
theorem bandOk_loc (q p s : Int) (n m : Nat) (f : Nat → Int) (f' : Nat → Bool) (k : Nat) (hk : k < n) (h : locOk q p f f' k = false) : bandOk q p s n m f f' = false := by
  simp only [bandOk, allTo_false _ k n hk h, Bool.and_false, Bool.false_and]
theorem bandOk_end (q p s : Int) (n m : Nat) (f : Nat → Int) (f' : Nat → Bool) (h : (inR q 1 10000 && inR n 1 4 && decide (m = n) && inR p 0 q && inR s 0 q) = true) (ha : allTo (locOk q p f f') n = true) : bandOk q p s n m f f' = (p + s + sumTo f n == q) := by
  simp only [bandOk, h, ha, Bool.true_and]
theorem locOk_f1 (q p : Int) (f : Nat → Int) (f' : Nat → Bool) (k : Nat) (h : inR (f k) 0 q = false) : locOk q p f f' k = false := by simp [locOk, h]
theorem locOk_f2 (q p : Int) (f : Nat → Int) (f' : Nat → Bool) (k : Nat) (h : f' k = true) (h2 : f k ≠ 0 ∨ p ≠ 0) : locOk q p f f' k = false := by
  have : (decide (f k ≠ 0) || decide (p ≠ 0)) = true := by simpa using h2
  simp only [locOk, h, this, Bool.true_and, Bool.not_true, Bool.and_false]
theorem locOk_t1 (q p : Int) (f : Nat → Int) (f' : Nat → Bool) (k : Nat) (h : inR (f k) 0 q = true) (h2 : f' k = false) : locOk q p f f' k = true := by simp [locOk, h, h2]
theorem locOk_t2 (q p : Int) (f : Nat → Int) (f' : Nat → Bool) (k : Nat) (h : inR (f k) 0 q = true) (h2 : f k = 0) (h3 : p = 0) : locOk q p f f' k = true := by
  unfold locOk
  rw [h]
  simp [h2, h3]
theorem locOk_in (q p : Int) (f : Nat → Int) (f' : Nat → Bool) (k : Nat) (h : locOk q p f f' k = true) : 0 ≤ f k ∧ f k ≤ q := by
  apply inR_iff.1
  cases e : inR (f k) 0 q
  · rw [locOk_f1 q p f f' k e] at h; exact absurd h (by decide)
  · rfl
theorem sum_ok (q p : Int) (f : Nat → Int) (f' : Nat → Bool) (k : Nat) (h : allTo (locOk q p f f') k = true) (hk : k ≤ 4) (hq0 : 0 ≤ q) (hq : q ≤ 10000) : 0 ≤ sumTo f k ∧ sumTo f k ≤ 40000 := by
  have := sumTo_b f q k (fun i hi => locOk_in q p f f' i (allTo_at _ i k hi h))
  have h2 : (k : Int) * q ≤ 4 * 10000 := Int.mul_le_mul (by omega) hq hq0 (by omega)
  omega
theorem allTo_next (f : Nat → Bool) (k : Nat) (h : allTo f k = true) (h2 : f k = true) : allTo f (k + 1) = true := by simp [allTo, h, h2]
theorem bandOk_facts (q p s : Int) (n m : Nat) (f : Nat → Int) (f' : Nat → Bool) (h : bandOk q p s n m f f' = true) :
    1 ≤ q ∧ q ≤ 10000 ∧ 1 ≤ (n : Int) ∧ (n : Int) ≤ 4 ∧ m = n ∧ 0 ≤ p ∧ p ≤ q ∧ 0 ≤ s ∧ s ≤ q ∧ (∀ i, i < n → 0 ≤ f i ∧ f i ≤ q ∧ (f' i = true → f i = 0 ∧ p = 0)) ∧ p + s + sumTo f n = q := by
  simp only [bandOk, Bool.and_eq_true, decide_eq_true_eq, beq_iff_eq] at h
  obtain ⟨⟨⟨⟨⟨⟨h1, h2⟩, h3⟩, h4⟩, h5⟩, h6⟩, h7⟩ := h
  obtain ⟨a1, a2⟩ := inR_iff.1 h1
  obtain ⟨a3, a4⟩ := inR_iff.1 h2
  obtain ⟨a5, a6⟩ := inR_iff.1 h4
  obtain ⟨a7, a8⟩ := inR_iff.1 h5
  refine ⟨a1, a2, a3, a4, h3, a5, a6, a7, a8, fun i hi => ?_, h7⟩
  have hl := allTo_at _ i n hi h6
  obtain ⟨b1, b2⟩ := locOk_in q p f f' i hl
  refine ⟨b1, b2, fun ht => ?_⟩
  by_cases e : f i = 0 ∧ p = 0
  · exact e
  · rw [locOk_f2 q p f f' i ht (by omega)] at hl
    exact absurd hl (by decide)
def bandFree (q p s : Int) (n m : Nat) (f : Nat → Int) (f' : Nat → Bool) (cpu : Int) : Int := if bandOk q p s n m f f' && inR cpu 0 ((n : Int) - 1) then p + f cpu.toNat else 0
end Go.Proofs.Ytbgmjcfnehnicaa

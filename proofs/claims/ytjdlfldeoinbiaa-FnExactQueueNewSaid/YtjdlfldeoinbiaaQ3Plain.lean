/- Queues: plain functions. -/
import Derived.Test.YtjdlfldeoinbiaaB3Plain
namespace Go.Proofs.Ytjdlfldeoinbiaa
def timeB (a : Int) : Bool := inR a 0 100000000000000000
theorem timeB_t {a : Int} (h : timeB a = true) : 0 ≤ a ∧ a ≤ 100000000000000000 := inR_iff.1 h
def time2 (a b : Int) : Bool := timeB a && timeB b
theorem time2_t {a b : Int} (h : time2 a b = true) : 0 ≤ a ∧ a ≤ 100000000000000000 ∧ 0 ≤ b ∧ b ≤ 100000000000000000 := by
  unfold time2 at h
  rw [Bool.and_eq_true] at h
  have h1 := timeB_t h.1
  have h2 := timeB_t h.2
  omega
def placedB (v fl x : Int) : Bool := decide (fl ≤ v) && decide (v - fl ≤ lagMost x)
theorem placedB_f1 {v fl x : Int} (h : ¬ fl ≤ v) : placedB v fl x = false := by simp [placedB, h]
theorem placedB_f2 {v fl x : Int} (h : ¬ v - fl ≤ lagMost x) : placedB v fl x = false := by simp [placedB, h]
theorem placedB_t {v fl x : Int} (h1 : fl ≤ v) (h : v - fl ≤ lagMost x) : placedB v fl x = true := by simp [placedB, h, h1]
theorem placedB_e {v fl x : Int} (h1 : fl ≤ v) : placedB v fl x = decide (v - fl ≤ lagMost x) := by simp [placedB, h1]
def entB (fl : Int) (b : Bool) (v x s : Int) : Bool := inR x 1 20 && time2 v s && (!b || placedB v fl x)
def entOk (fl : Int) (on : Nat → Bool) (v x s : Nat → Int) (i : Nat) : Bool := entB fl (on i) (v i) (x i) (s i)
theorem entB_f1 {fl : Int} {b : Bool} {v x s : Int} (h : inR x 1 20 = false) : entB fl b v x s = false := by simp [entB, h]
theorem entB_f2 {fl : Int} {b : Bool} {v x s : Int} (h : time2 v s = false) : entB fl b v x s = false := by simp [entB, h]
theorem entB_f3 {fl : Int} {b : Bool} {v x s : Int} (h : b = true) (h2 : placedB v fl x = false) : entB fl b v x s = false := by simp [entB, h, h2]
theorem entB_t1 {fl : Int} {b : Bool} {v x s : Int} (h1 : inR x 1 20 = true) (h2 : time2 v s = true) (h : b = false) : entB fl b v x s = true := by simp [entB, h1, h2, h]
theorem entB_t2 {fl : Int} {b : Bool} {v x s : Int} (h1 : inR x 1 20 = true) (h2 : time2 v s = true) (h : placedB v fl x = true) : entB fl b v x s = true := by simp [entB, h1, h2, h]
def curB (fl cu ra : Int) (on : Nat → Bool) (v x : Nat → Int) : Bool := on cu.toNat && inR ra 1 149 && decide (v cu.toNat - fl ≤ virtualStep ra (x cu.toNat))
def curOk (fl cu ra : Int) (on : Nat → Bool) (v x : Nat → Int) : Bool := if cu = -1 then ra == 0 else curB fl cu ra on v x
def queueOk (fl cu ra : Int) (n : Nat) (on : Nat → Bool) (v x s : Nat → Int) : Bool :=
  inR n 1 20 && timeB fl && inR cu (-1) ((n : Int) - 1) && allTo (entOk fl on v x s) n && curOk fl cu ra on v x
theorem queueOk_head {fl cu ra : Int} {n : Nat} {on : Nat → Bool} {v x s : Nat → Int} (h : (inR n 1 20 && timeB fl && inR cu (-1) ((n : Int) - 1)) = false) : queueOk fl cu ra n on v x s = false := by
  simp only [queueOk, h, Bool.false_and]
theorem queueOk_ent {fl cu ra : Int} {n : Nat} {on : Nat → Bool} {v x s : Nat → Int} (k : Nat) (hk : k < n) (h : entOk fl on v x s k = false) : queueOk fl cu ra n on v x s = false := by
  simp only [queueOk, allTo_false _ k n hk h, Bool.and_false, Bool.false_and]
theorem queueOk_cu {fl cu ra : Int} {n : Nat} {on : Nat → Bool} {v x s : Nat → Int} (h : inR cu (-1) ((n : Int) - 1) = false) : queueOk fl cu ra n on v x s = false := by
  simp only [queueOk, h, Bool.and_false, Bool.false_and]
theorem queueOk_end {fl cu ra : Int} {n : Nat} {on : Nat → Bool} {v x s : Nat → Int} (h1 : inR n 1 20 = true) (h2 : timeB fl = true) (h3 : inR cu (-1) ((n : Int) - 1) = true) (ha : allTo (entOk fl on v x s) n = true) : queueOk fl cu ra n on v x s = curOk fl cu ra on v x := by
  simp only [queueOk, h1, h2, h3, ha, Bool.true_and]
theorem curOk_no {fl ra : Int} {on : Nat → Bool} {v x : Nat → Int} {cu : Int} (h : cu = -1) : curOk fl cu ra on v x = (ra == 0) := if_pos h
theorem curOk_some {fl ra : Int} {on : Nat → Bool} {v x : Nat → Int} {cu : Int} (h : cu ≠ -1) : curOk fl cu ra on v x = curB fl cu ra on v x := if_neg h
theorem curB_f1 {fl cu ra : Int} {on : Nat → Bool} {v x : Nat → Int} (h : on cu.toNat = false) : curB fl cu ra on v x = false := by simp [curB, h]
theorem curB_f2 {fl cu ra : Int} {on : Nat → Bool} {v x : Nat → Int} (h : inR ra 1 149 = false) : curB fl cu ra on v x = false := by simp [curB, h]
theorem curB_e {fl cu ra : Int} {on : Nat → Bool} {v x : Nat → Int} (h : on cu.toNat = true) (h2 : inR ra 1 149 = true) : curB fl cu ra on v x = decide (v cu.toNat - fl ≤ virtualStep ra (x cu.toNat)) := by simp [curB, h, h2]
theorem entB_facts {fl : Int} {b : Bool} {v x s : Int} (h : entB fl b v x s = true) : 1 ≤ x ∧ x ≤ 20 ∧ 0 ≤ v ∧ v ≤ 100000000000000000 ∧ 0 ≤ s ∧ s ≤ 100000000000000000 ∧ (b = true → fl ≤ v ∧ v - fl ≤ lagMost x) := by
  cases h1 : inR x 1 20
  · rw [entB_f1 h1] at h; exact absurd h (by decide)
  cases h2 : time2 v s
  · rw [entB_f2 h2] at h; exact absurd h (by decide)
  obtain ⟨a1, a2⟩ := inR_iff.1 h1
  obtain ⟨a3, a4, a5, a6⟩ := time2_t h2
  refine ⟨a1, a2, a3, a4, a5, a6, fun hb => ?_⟩
  cases h3 : placedB v fl x
  · rw [entB_f3 hb h3] at h; exact absurd h (by decide)
  · simpa [placedB] using h3
theorem queueOk_facts {fl cu ra : Int} {n : Nat} {on : Nat → Bool} {v x s : Nat → Int} (h : queueOk fl cu ra n on v x s = true) :
    1 ≤ (n : Int) ∧ (n : Int) ≤ 20 ∧ 0 ≤ fl ∧ fl ≤ 100000000000000000 ∧ -1 ≤ cu ∧ cu ≤ (n : Int) - 1 ∧
      (∀ i, i < n → 1 ≤ x i ∧ x i ≤ 20 ∧ 0 ≤ v i ∧ v i ≤ 100000000000000000 ∧ 0 ≤ s i ∧ s i ≤ 100000000000000000 ∧ (on i = true → fl ≤ v i ∧ v i - fl ≤ lagMost (x i))) := by
  simp only [queueOk, Bool.and_eq_true] at h
  obtain ⟨⟨⟨⟨h1, h2⟩, h3⟩, h4⟩, h5⟩ := h
  obtain ⟨a1, a2⟩ := inR_iff.1 h1
  obtain ⟨a3, a4⟩ := timeB_t h2
  obtain ⟨a5, a6⟩ := inR_iff.1 h3
  exact ⟨a1, a2, a3, a4, a5, a6, fun i hi => entB_facts (allTo_at _ i n hi h4)⟩
end Go.Proofs.Ytjdlfldeoinbiaa

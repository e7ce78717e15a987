/- Plain functions for the scalar chapters of stint: no program in sight. -/
import Derived.IntWalk
import Derived.RowKit
namespace Go.Proofs.Ytndbmeedimhohaa

def inR (a b c : Int) : Bool := decide (b ≤ a ∧ a ≤ c)
theorem inR_t {a b c : Int} (h1 : b ≤ a) (h2 : a ≤ c) : inR a b c = true := by simp [inR, h1, h2]
theorem inR_f {a b c : Int} (h : ¬ (b ≤ a ∧ a ≤ c)) : inR a b c = false := by simp [inR]; omega
theorem inR_iff {a b c : Int} : inR a b c = true ↔ (b ≤ a ∧ a ≤ c) := by simp [inR]

def decayBeat (load used : Int) : Int := if inR load 0 8000000 && inR used 0 1000000 then load - load / 8 + used else 0
def decayTop (used : Int) : Int := if inR used 0 1000000 then 8 * used else 0
def weightOf (nice : Int) : Int := if inR nice (-10) 9 then 10 - nice else 0
def niceOf (w : Int) : Int := if inR w 1 20 then 10 - w else 0
def queueApart (a b : Int) : Int := if inR a 1 20 && inR b 1 20 then 149 * (a + b) else 0
def stepOf (w : Int) : Int := 232792560 / w
def virtualStep (u w : Int) : Int := if inR w 1 20 && inR u 0 100000000 then u * stepOf w else 0
def virtualUnits (v w : Int) : Int := if inR w 1 20 && inR v 1 300000000000000000 then (v + stepOf w - 1) / stepOf w else 0
def lagMost (w : Int) : Int := virtualStep 149 w
def lagCut (l w : Int) : Int := if inR w 1 20 then min (max l 0) (lagMost w) else 0
def maskHas (m c : Int) : Bool := inR m 0 15 && inR c 0 3 && (m / 2 ^ c.toNat % 2 == 1)
def bitIf (b : Bool) (v : Int) : Int := if b then v else 0
def andUp (a b : Int) : Nat → Int
  | 0 => 0
  | k + 1 => andUp a b k + bitIf (maskHas a k && maskHas b k) (2 ^ k)
def maskAnd (a b : Int) : Int := if inR a 0 15 && inR b 0 15 then andUp a b 4 else 0
def cntUp (m : Int) : Nat → Int
  | 0 => 0
  | k + 1 => cntUp m k + bitIf (maskHas m k) 1
def maskCount (m : Int) : Int := cntUp m 4
def maskFirst (m : Int) : Int := if maskHas m 0 then 0 else if maskHas m 1 then 1 else if maskHas m 2 then 2 else if maskHas m 3 then 3 else -1
theorem upto15 {x : Int} (h1 : 0 ≤ x) (h2 : x ≤ 15) : x = 0 ∨ x = 1 ∨ x = 2 ∨ x = 3 ∨ x = 4 ∨ x = 5 ∨ x = 6 ∨ x = 7 ∨ x = 8 ∨ x = 9 ∨ x = 10 ∨ x = 11 ∨ x = 12 ∨ x = 13 ∨ x = 14 ∨ x = 15 := by omega
theorem upto3 {x : Int} (h1 : 0 ≤ x) (h2 : x ≤ 3) : x = 0 ∨ x = 1 ∨ x = 2 ∨ x = 3 := by omega
theorem inR_false {a b c : Int} (h : inR a b c = false) : ¬ (b ≤ a ∧ a ≤ c) := by simp [inR] at h; omega
theorem maskHas_no (m c : Int) (h : inR m 0 15 = false) : maskHas m c = false := by simp [maskHas, h]
theorem maskHas_no2 (m c : Int) (h : inR c 0 3 = false) : maskHas m c = false := by simp [maskHas, h]
theorem maskHas_eq (m c : Int) (h1 : inR m 0 15 = true) (h2 : inR c 0 3 = true) : maskHas m c = (m / 2 ^ c.toNat % 2 == 1) := by simp [maskHas, h1, h2]
theorem maskHas_tmod (m c : Int) (h1 : inR m 0 15 = true) (h2 : inR c 0 3 = true) : ((m / 2 ^ c.toNat).tmod 2 == 1) = maskHas m c := by
  rw [maskHas_eq m c h1 h2]
  obtain ⟨g1, g2⟩ := inR_iff.1 h1
  obtain ⟨g3, g4⟩ := inR_iff.1 h2
  rcases upto15 g1 g2 with h | h | h | h | h | h | h | h | h | h | h | h | h | h | h | h <;> subst h <;> rcases upto3 g3 g4 with h | h | h | h <;> subst h <;> rfl
theorem bitIf_cases (b : Bool) (v : Int) (hv : 0 ≤ v) : 0 ≤ bitIf b v ∧ bitIf b v ≤ v := by cases b <;> simp [bitIf, hv]
theorem andUp_b (a b : Int) (k : Nat) (hk : k ≤ 4) : 0 ≤ andUp a b k ∧ andUp a b k ≤ 15 := by
  have h0 := bitIf_cases (maskHas a 0 && maskHas b 0) 1 (by omega)
  have h1 := bitIf_cases (maskHas a 1 && maskHas b 1) 2 (by omega)
  have h2 := bitIf_cases (maskHas a 2 && maskHas b 2) 4 (by omega)
  have h3 := bitIf_cases (maskHas a 3 && maskHas b 3) 8 (by omega)
  have : k = 0 ∨ k = 1 ∨ k = 2 ∨ k = 3 ∨ k = 4 := by omega
  rcases this with h | h | h | h | h <;> subst h <;> simp [andUp] <;> omega
def andI (a b c : Int) : Int := andUp a b c.toNat
theorem andI_succ (a b c : Int) (h : 0 ≤ c) : andI a b (c + 1) = andI a b c + bitIf (maskHas a c && maskHas b c) (2 ^ c.toNat) := by
  unfold andI
  rw [show (c + 1).toNat = c.toNat + 1 by omega]
  simp only [andUp]
  rw [show ((c.toNat : Nat) : Int) = c by omega]
theorem andI_b (a b c : Int) (h : 0 ≤ c) (h4 : c ≤ 4) : 0 ≤ andI a b c ∧ andI a b c ≤ 15 := andUp_b a b c.toNat (by omega)
theorem cntUp_b (m : Int) (k : Nat) : 0 ≤ cntUp m k ∧ cntUp m k ≤ k := by
  induction k with
  | zero => simp [cntUp]
  | succ k ih =>
    have := bitIf_cases (maskHas m k) 1 (by omega)
    simp only [cntUp]; omega
theorem maskFirst_b (m : Int) : -1 ≤ maskFirst m ∧ maskFirst m ≤ 3 := by
  unfold maskFirst; repeat' split
  all_goals omega
theorem maskAnd_b (a b : Int) : 0 ≤ maskAnd a b ∧ maskAnd a b ≤ 15 := by
  unfold maskAnd; split
  · exact andUp_b a b 4 (by omega)
  · omega
def levels (n : Int) : Int := if n = 2 then 1 else if n = 3 then 2 else if n = 4 then 2 else 0
theorem levels_no (n : Int) (h : inR n 1 4 = false) : levels n = 0 := by
  have := inR_false h
  unfold levels
  rw [if_neg (by omega), if_neg (by omega), if_neg (by omega)]
def beats (u : Int) : Nat → Int → Int
  | 0, l => l
  | k + 1, l => decayBeat (beats u k l) u
def beatsI (u n l : Int) : Int := beats u n.toNat l
theorem beatsI_succ (u l n : Int) (h : 0 ≤ n) : beatsI u (n + 1) l = decayBeat (beatsI u n l) u := by
  unfold beatsI
  rw [show (n + 1).toNat = n.toNat + 1 by omega]
  rfl
def decayBeats (l u n : Int) : Int := if inR n 0 20 && inR l 0 8000000 then beats u n.toNat l else 0
end Go.Proofs.Ytndbmeedimhohaa

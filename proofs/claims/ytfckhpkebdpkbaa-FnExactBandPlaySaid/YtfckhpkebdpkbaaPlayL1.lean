/-
  Plain functions for the scalar chapters of stint: no program in sight.
-/
import Derived.IntWalk
import Derived.RowKit
namespace Go.Proofs.Ytfckhpkebdpkbaa

def inR (a b c : Int) : Bool := decide (b ≤ a ∧ a ≤ c)
theorem inR_t {a b c : Int} (h1 : b ≤ a) (h2 : a ≤ c) : inR a b c = true := by simp [inR, h1, h2]
theorem inR_f {a b c : Int} (h : ¬ (b ≤ a ∧ a ≤ c)) : inR a b c = false := by simp [inR]; omega
theorem inR_iff {a b c : Int} : inR a b c = true ↔ (b ≤ a ∧ a ≤ c) := by simp [inR]

def decayBeat (load used : Int) : Int := if inR load 0 8000000 && inR used 0 1000000 then load - load / 8 + used else 0
def decayTop (used : Int) : Int := if inR used 0 1000000 then 8 * used else 0
def weightOf (nice : Int) : Int := if inR nice (-10) 9 then 10 - nice else 0
def niceOf (w : Int) : Int := if inR w 1 20 then 10 - w else 0
def queueApart (a b : Int) : Int := if inR a 1 20 && inR b 1 20 then 149 * (a + b) else 0
def stepOf (w : Int) : Int := 232792560 / w
def virtualStep (u w : Int) : Int := if inR w 1 20 && inR u 0 100000000 then u * stepOf w else 0
def virtualUnits (v w : Int) : Int := if inR w 1 20 && inR v 1 300000000000000000 then (v + stepOf w - 1) / stepOf w else 0
def lagMost (w : Int) : Int := virtualStep 149 w
def lagCut (l w : Int) : Int := if inR w 1 20 then min (max l 0) (lagMost w) else 0
def maskHas (m c : Int) : Bool := inR m 0 15 && inR c 0 3 && (m / 2 ^ c.toNat % 2 == 1)
def bitIf (b : Bool) (v : Int) : Int := if b then v else 0
def andUp (a b : Int) : Nat → Int
  | 0 => 0
  | k + 1 => andUp a b k + bitIf (maskHas a k && maskHas b k) (2 ^ k)
def maskAnd (a b : Int) : Int := if inR a 0 15 && inR b 0 15 then andUp a b 4 else 0
def cntUp (m : Int) : Nat → Int
  | 0 => 0
  | k + 1 => cntUp m k + bitIf (maskHas m k) 1
def maskCount (m : Int) : Int := cntUp m 4
def maskFirst (m : Int) : Int := if maskHas m 0 then 0 else if maskHas m 1 then 1 else if maskHas m 2 then 2 else if maskHas m 3 then 3 else -1
theorem upto15 {x : Int} (h1 : 0 ≤ x) (h2 : x ≤ 15) : x = 0 ∨ x = 1 ∨ x = 2 ∨ x = 3 ∨ x = 4 ∨ x = 5 ∨ x = 6 ∨ x = 7 ∨ x = 8 ∨ x = 9 ∨ x = 10 ∨ x = 11 ∨ x = 12 ∨ x = 13 ∨ x = 14 ∨ x = 15 := by omega
theorem upto3 {x : Int} (h1 : 0 ≤ x) (h2 : x ≤ 3) : x = 0 ∨ x = 1 ∨ x = 2 ∨ x = 3 := by omega
theorem inR_false {a b c : Int} (h : inR a b c = false) : ¬ (b ≤ a ∧ a ≤ c) := by simp [inR] at h; omega
theorem maskHas_no (m c : Int) (h : inR m 0 15 = false) : maskHas m c = false := by simp [maskHas, h]
theorem maskHas_no2 (m c : Int) (h : inR c 0 3 = false) : maskHas m c = false := by simp [maskHas, h]
theorem maskHas_eq (m c : Int) (h1 : inR m 0 15 = true) (h2 : inR c 0 3 = true) : maskHas m c = (m / 2 ^ c.toNat % 2 == 1) := by simp [maskHas, h1, h2]
theorem maskHas_tmod (m c : Int) (h1 : inR m 0 15 = true) (h2 : inR c 0 3 = true) : ((m / 2 ^ c.toNat).tmod 2 == 1) = maskHas m c := by
  rw [maskHas_eq m c h1 h2]
  obtain ⟨g1, g2⟩ := inR_iff.1 h1
  obtain ⟨g3, g4⟩ := inR_iff.1 h2
  rcases upto15 g1 g2 with h | h | h | h | h | h | h | h | h | h | h | h | h | h | h | h <;> subst h <;> rcases upto3 g3 g4 with h | h | h | h <;> subst h <;> rfl
theorem bitIf_cases (b : Bool) (v : Int) (hv : 0 ≤ v) : 0 ≤ bitIf b v ∧ bitIf b v ≤ v := by cases b <;> simp [bitIf, hv]
theorem andUp_b (a b : Int) (k : Nat) (hk : k ≤ 4) : 0 ≤ andUp a b k ∧ andUp a b k ≤ 15 := by
  have h0 := bitIf_cases (maskHas a 0 && maskHas b 0) 1 (by omega)
  have h1 := bitIf_cases (maskHas a 1 && maskHas b 1) 2 (by omega)
  have h2 := bitIf_cases (maskHas a 2 && maskHas b 2) 4 (by omega)
  have h3 := bitIf_cases (maskHas a 3 && maskHas b 3) 8 (by omega)
  have : k = 0 ∨ k = 1 ∨ k = 2 ∨ k = 3 ∨ k = 4 := by omega
  rcases this with h | h | h | h | h <;> subst h <;> simp [andUp] <;> omega
def andI (a b c : Int) : Int := andUp a b c.toNat
theorem andI_succ (a b c : Int) (h : 0 ≤ c) : andI a b (c + 1) = andI a b c + bitIf (maskHas a c && maskHas b c) (2 ^ c.toNat) := by
  unfold andI
  rw [show (c + 1).toNat = c.toNat + 1 by omega]
  simp only [andUp]
  rw [show ((c.toNat : Nat) : Int) = c by omega]
theorem andI_b (a b c : Int) (h : 0 ≤ c) (h4 : c ≤ 4) : 0 ≤ andI a b c ∧ andI a b c ≤ 15 := andUp_b a b c.toNat (by omega)
theorem cntUp_b (m : Int) (k : Nat) : 0 ≤ cntUp m k ∧ cntUp m k ≤ k := by
  induction k with
  | zero => simp [cntUp]
  | succ k ih =>
    have := bitIf_cases (maskHas m k) 1 (by omega)
    simp only [cntUp]; omega
theorem maskFirst_b (m : Int) : -1 ≤ maskFirst m ∧ maskFirst m ≤ 3 := by
  unfold maskFirst; repeat' split
  all_goals omega
theorem maskAnd_b (a b : Int) : 0 ≤ maskAnd a b ∧ maskAnd a b ≤ 15 := by
  unfold maskAnd; split
  · exact andUp_b a b 4 (by omega)
  · omega
def levels (n : Int) : Int := if n = 2 then 1 else if n = 3 then 2 else if n = 4 then 2 else 0
theorem levels_no (n : Int) (h : inR n 1 4 = false) : levels n = 0 := by
  have := inR_false h
  unfold levels
  rw [if_neg (by omega), if_neg (by omega), if_neg (by omega)]
def beats (u : Int) : Nat → Int → Int
  | 0, l => l
  | k + 1, l => decayBeat (beats u k l) u
def beatsI (u n l : Int) : Int := beats u n.toNat l
theorem beatsI_succ (u l n : Int) (h : 0 ≤ n) : beatsI u (n + 1) l = decayBeat (beatsI u n l) u := by
  unfold beatsI
  rw [show (n + 1).toNat = n.toNat + 1 by omega]
  rfl
def decayBeats (l u n : Int) : Int := if inR n 0 20 && inR l 0 8000000 then beats u n.toNat l else 0
end Go.Proofs.Ytfckhpkebdpkbaa

/- Bands: plain functions. -/
namespace Go.Proofs.Ytfckhpkebdpkbaa
def allTo (f : Nat → Bool) : Nat → Bool
  | 0 => true
  | k + 1 => allTo f k && f k
def sumTo (f : Nat → Int) : Nat → Int
  | 0 => 0
  | k + 1 => sumTo f k + f k
theorem allTo_false (f : Nat → Bool) (k n : Nat) (h : k < n) (hf : f k = false) : allTo f n = false := by
  induction n with
  | zero => omega
  | succ n ih =>
    simp only [allTo]
    by_cases e : k = n
    · subst e; simp [hf]
    · rw [ih (by omega)]; rfl
theorem allTo_at (f : Nat → Bool) (k n : Nat) (h : k < n) (hf : allTo f n = true) : f k = true := by
  cases e : f k
  · rw [allTo_false f k n h e] at hf; exact hf
  · rfl
theorem sumTo_b (f : Nat → Int) (q : Int) (k : Nat) (h : ∀ i, i < k → 0 ≤ f i ∧ f i ≤ q) : 0 ≤ sumTo f k ∧ sumTo f k ≤ k * q := by
  induction k with
  | zero => simp [sumTo]
  | succ k ih =>
    have h1 := ih (fun i hi => h i (by omega))
    have h2 := h k (by omega)
    simp only [sumTo]
    have : ((k + 1 : Nat) : Int) * q = k * q + q := by rw [Int.natCast_add, Int.add_mul]; simp
    omega
def locOk (q p : Int) (f : Nat → Int) (f' : Nat → Bool) (i : Nat) : Bool := inR (f i) 0 q && !(f' i && (decide (f i ≠ 0) || decide (p ≠ 0)))
def bandOk (q p s : Int) (n m : Nat) (f : Nat → Int) (f' : Nat → Bool) : Bool :=
  inR q 1 10000 && inR n 1 4 && decide (m = n) && inR p 0 q && inR s 0 q && allTo (locOk q p f f') n && (p + s + sumTo f n == q)
theorem bandOk_head (q p s : Int) (n m : Nat) (f : Nat → Int) (f' : Nat → Bool) (h : (inR q 1 10000 && inR n 1 4 && decide (m = n) && inR p 0 q && inR s 0 q) = false) : bandOk q p s n m f f' = false := by
  simp only [bandOk, h, Bool.false_and]
theorem bandOk_loc (q p s : Int) (n m : Nat) (f : Nat → Int) (f' : Nat → Bool) (k : Nat) (hk : k < n) (h : locOk q p f f' k = false) : bandOk q p s n m f f' = false := by
  simp only [bandOk, allTo_false _ k n hk h, Bool.and_false, Bool.false_and]
theorem bandOk_end (q p s : Int) (n m : Nat) (f : Nat → Int) (f' : Nat → Bool) (h : (inR q 1 10000 && inR n 1 4 && decide (m = n) && inR p 0 q && inR s 0 q) = true) (ha : allTo (locOk q p f f') n = true) : bandOk q p s n m f f' = (p + s + sumTo f n == q) := by
  simp only [bandOk, h, ha, Bool.true_and]
theorem locOk_f1 (q p : Int) (f : Nat → Int) (f' : Nat → Bool) (k : Nat) (h : inR (f k) 0 q = false) : locOk q p f f' k = false := by simp [locOk, h]
theorem locOk_f2 (q p : Int) (f : Nat → Int) (f' : Nat → Bool) (k : Nat) (h : f' k = true) (h2 : f k ≠ 0 ∨ p ≠ 0) : locOk q p f f' k = false := by
  have : (decide (f k ≠ 0) || decide (p ≠ 0)) = true := by simpa using h2
  simp only [locOk, h, this, Bool.true_and, Bool.not_true, Bool.and_false]
theorem locOk_t1 (q p : Int) (f : Nat → Int) (f' : Nat → Bool) (k : Nat) (h : inR (f k) 0 q = true) (h2 : f' k = false) : locOk q p f f' k = true := by simp [locOk, h, h2]
theorem locOk_t2 (q p : Int) (f : Nat → Int) (f' : Nat → Bool) (k : Nat) (h : inR (f k) 0 q = true) (h2 : f k = 0) (h3 : p = 0) : locOk q p f f' k = true := by
  unfold locOk
  rw [h]
  simp [h2, h3]
theorem locOk_in (q p : Int) (f : Nat → Int) (f' : Nat → Bool) (k : Nat) (h : locOk q p f f' k = true) : 0 ≤ f k ∧ f k ≤ q := by
  apply inR_iff.1
  cases e : inR (f k) 0 q
  · rw [locOk_f1 q p f f' k e] at h; exact absurd h (by decide)
  · rfl
theorem sum_ok (q p : Int) (f : Nat → Int) (f' : Nat → Bool) (k : Nat) (h : allTo (locOk q p f f') k = true) (hk : k ≤ 4) (hq0 : 0 ≤ q) (hq : q ≤ 10000) : 0 ≤ sumTo f k ∧ sumTo f k ≤ 40000 := by
  have := sumTo_b f q k (fun i hi => locOk_in q p f f' i (allTo_at _ i k hi h))
  have h2 : (k : Int) * q ≤ 4 * 10000 := Int.mul_le_mul (by omega) hq hq0 (by omega)
  omega
theorem allTo_next (f : Nat → Bool) (k : Nat) (h : allTo f k = true) (h2 : f k = true) : allTo f (k + 1) = true := by simp [allTo, h, h2]
theorem bandOk_facts (q p s : Int) (n m : Nat) (f : Nat → Int) (f' : Nat → Bool) (h : bandOk q p s n m f f' = true) :
    1 ≤ q ∧ q ≤ 10000 ∧ 1 ≤ (n : Int) ∧ (n : Int) ≤ 4 ∧ m = n ∧ 0 ≤ p ∧ p ≤ q ∧ 0 ≤ s ∧ s ≤ q ∧ (∀ i, i < n → 0 ≤ f i ∧ f i ≤ q ∧ (f' i = true → f i = 0 ∧ p = 0)) ∧ p + s + sumTo f n = q := by
  simp only [bandOk, Bool.and_eq_true, decide_eq_true_eq, beq_iff_eq] at h
  obtain ⟨⟨⟨⟨⟨⟨h1, h2⟩, h3⟩, h4⟩, h5⟩, h6⟩, h7⟩ := h
  obtain ⟨a1, a2⟩ := inR_iff.1 h1
  obtain ⟨a3, a4⟩ := inR_iff.1 h2
  obtain ⟨a5, a6⟩ := inR_iff.1 h4
  obtain ⟨a7, a8⟩ := inR_iff.1 h5
  refine ⟨a1, a2, a3, a4, h3, a5, a6, a7, a8, fun i hi => ?_, h7⟩
  have hl := allTo_at _ i n hi h6
  obtain ⟨b1, b2⟩ := locOk_in q p f f' i hl
  refine ⟨b1, b2, fun ht => ?_⟩
  by_cases e : f i = 0 ∧ p = 0
  · exact e
  · rw [locOk_f2 q p f f' i ht (by omega)] at hl
    exact absurd hl (by decide)
def bandFree (q p s : Int) (n m : Nat) (f : Nat → Int) (f' : Nat → Bool) (cpu : Int) : Int := if bandOk q p s n m f f' && inR cpu 0 ((n : Int) - 1) then p + f cpu.toNat else 0
end Go.Proofs.Ytfckhpkebdpkbaa

/- Bands: one step as a plain function; a valid band stays valid. -/
namespace Go.Proofs.Ytfckhpkebdpkbaa
/-- What changes in a band: the pool, what is spent, what lies on processors, which are dry. -/
structure BSt where
  p : Int
  s : Int
  f : Nat → Int
  d : Nat → Bool
def setAt {α : Type} (f : Nat → α) (c : Nat) (v : α) : Nat → α := fun i => if i = c then v else f i
theorem setAt_same {α : Type} (f : Nat → α) (c : Nat) (v : α) : setAt f c v c = v := if_pos rfl
theorem setAt_other {α : Type} (f : Nat → α) (c i : Nat) (v : α) (h : i ≠ c) : setAt f c v i = f i := if_neg h
theorem sumTo_congr (f g : Nat → Int) (n : Nat) (h : ∀ i, i < n → f i = g i) : sumTo f n = sumTo g n := by
  induction n with
  | zero => rfl
  | succ n ih => simp only [sumTo]; rw [ih (fun i hi => h i (by omega)), h n (by omega)]
theorem sumTo_setAt (f : Nat → Int) (c : Nat) (v : Int) (n : Nat) : sumTo (setAt f c v) n = if c < n then sumTo f n - f c + v else sumTo f n := by
  induction n with
  | zero => simp [sumTo]
  | succ n ih =>
    simp only [sumTo, ih]
    by_cases h : c = n
    · subst h
      rw [setAt_same, if_neg (by omega), if_pos (by omega)]
      omega
    · rw [setAt_other f c n v (by omega)]
      by_cases h2 : c < n
      · rw [if_pos h2, if_pos (by omega)]; omega
      · rw [if_neg h2, if_neg (by omega)]
theorem sumTo_zero (n : Nat) : sumTo (fun _ => 0) n = 0 := by
  induction n with
  | zero => rfl
  | succ n ih => simp only [sumTo, ih]; rfl
theorem sumTo_nonneg (f : Nat → Int) (n : Nat) (h : ∀ i, i < n → 0 ≤ f i) : 0 ≤ sumTo f n := by
  induction n with
  | zero => exact Int.le_refl 0
  | succ n ih =>
    have h1 := ih (fun i hi => h i (by omega))
    have h2 := h n (by omega)
    simp only [sumTo]
    omega
theorem sumTo_ge (f : Nat → Int) (n c : Nat) (hc : c < n) (h : ∀ i, i < n → 0 ≤ f i) : f c ≤ sumTo f n := by
  induction n with
  | zero => omega
  | succ n ih =>
    have h2 := h n (by omega)
    simp only [sumTo]
    by_cases e : c = n
    · subst e
      have := sumTo_nonneg f c (fun i hi => h i (by omega))
      omega
    · have := ih (by omega) (fun i hi => h i (by omega))
      omega
theorem allTo_all (f : Nat → Bool) (n : Nat) (h : ∀ i, i < n → f i = true) : allTo f n = true := by
  induction n with
  | zero => rfl
  | succ n ih => exact allTo_next f n (ih (fun i hi => h i (by omega))) (h n (by omega))
theorem bandOk_mk {q p s : Int} {n : Nat} {f : Nat → Int} {d : Nat → Bool} (h1 : 1 ≤ q) (h2 : q ≤ 10000) (h3 : 1 ≤ n) (h4 : n ≤ 4) (hp : 0 ≤ p) (hs : 0 ≤ s) (hf : ∀ i, i < n → 0 ≤ f i ∧ (d i = true → f i = 0 ∧ p = 0)) (hsum : p + s + sumTo f n = q) :
    bandOk q p s n n f d = true := by
  have hn := sumTo_nonneg f n (fun i hi => (hf i hi).1)
  have hl : ∀ i, i < n → locOk q p f d i = true := fun i hi => by
    obtain ⟨a, b⟩ := hf i hi
    have c := sumTo_ge f n i hi (fun i hi => (hf i hi).1)
    cases e : d i
    · exact locOk_t1 q p f d i (inR_t a (by omega)) e
    · obtain ⟨b1, b2⟩ := b e
      exact locOk_t2 q p f d i (inR_t a (by omega)) b1 b2
  rw [bandOk_end q p s n n f d ?_ (allTo_all _ n hl)]
  · simp [hsum]
  · rw [inR_t h1 h2, inR_t (by omega) (by omega), inR_t hp (by omega), inR_t hs (by omega)]
    simp
theorem bandOk_congr {q p s : Int} {n m : Nat} {f f' : Nat → Int} {d d' : Nat → Bool} (hf : ∀ i, i < n → f i = f' i) (hd : ∀ i, i < n → d i = d' i) : bandOk q p s n m f d = bandOk q p s n m f' d' := by
  have h1 := sumTo_congr f f' n hf
  have h2 : allTo (locOk q p f d) n = allTo (locOk q p f' d') n := by
    clear h1
    induction n with
    | zero => rfl
    | succ n ih =>
      simp only [allTo]
      rw [ih (fun i hi => hf i (by omega)) (fun i hi => hd i (by omega))]
      unfold locOk
      rw [hf n (by omega), hd n (by omega)]
  simp only [bandOk, h1, h2]
/-- One thing done with a valid band of n processors: what it is then, and the code. -/
def bandStep (q : Int) (n : Nat) (kind cpu k : Int) (b : BSt) : BSt × Int :=
  if kind = 4 then (⟨q, 0, fun _ => 0, fun _ => false⟩, 0)
  else if inR cpu 0 ((n : Int) - 1) = false then (b, 1)
  else if kind = 1 then
    (if 0 < b.f cpu.toNat then (b, 0) else if b.p = 0 then (⟨b.p, b.s, b.f, setAt b.d cpu.toNat true⟩, 2) else (⟨b.p - min 20 b.p, b.s, setAt b.f cpu.toNat (min 20 b.p), b.d⟩, 0))
  else if kind = 2 then (if k < 1 ∨ b.f cpu.toNat < k then (b, 3) else (⟨b.p, b.s + k, setAt b.f cpu.toNat (b.f cpu.toNat - k), b.d⟩, 0))
  else if kind = 3 then (⟨b.p + b.f cpu.toNat, b.s, setAt b.f cpu.toNat 0, if 0 < b.p + b.f cpu.toNat then fun _ => false else b.d⟩, 0)
  else (b, 1)
theorem step_refill (q : Int) (n : Nat) (cpu k : Int) (b : BSt) : bandStep q n 4 cpu k b = (⟨q, 0, fun _ => 0, fun _ => false⟩, 0) := if_pos rfl
theorem step_out {q : Int} {n : Nat} {kind cpu k : Int} {b : BSt} (h1 : kind ≠ 4) (h2 : inR cpu 0 ((n : Int) - 1) = false) : bandStep q n kind cpu k b = (b, 1) := by
  unfold bandStep; rw [if_neg h1, if_pos h2]
theorem step_take1 {q : Int} {n : Nat} {cpu k : Int} {b : BSt} (h2 : inR cpu 0 ((n : Int) - 1) = true) (h3 : 0 < b.f cpu.toNat) : bandStep q n 1 cpu k b = (b, 0) := by
  unfold bandStep; rw [if_neg (by decide), if_neg (by rw [h2]; decide), if_pos rfl, if_pos h3]
theorem step_take2 {q : Int} {n : Nat} {cpu k : Int} {b : BSt} (h2 : inR cpu 0 ((n : Int) - 1) = true) (h3 : ¬ 0 < b.f cpu.toNat) (h4 : b.p = 0) : bandStep q n 1 cpu k b = (⟨b.p, b.s, b.f, setAt b.d cpu.toNat true⟩, 2) := by
  unfold bandStep; rw [if_neg (by decide), if_neg (by rw [h2]; decide), if_pos rfl, if_neg h3, if_pos h4]
theorem step_take3 {q : Int} {n : Nat} {cpu k : Int} {b : BSt} (h2 : inR cpu 0 ((n : Int) - 1) = true) (h3 : ¬ 0 < b.f cpu.toNat) (h4 : ¬ b.p = 0) : bandStep q n 1 cpu k b = (⟨b.p - min 20 b.p, b.s, setAt b.f cpu.toNat (min 20 b.p), b.d⟩, 0) := by
  unfold bandStep; rw [if_neg (by decide), if_neg (by rw [h2]; decide), if_pos rfl, if_neg h3, if_neg h4]
theorem step_spend1 {q : Int} {n : Nat} {cpu k : Int} {b : BSt} (h2 : inR cpu 0 ((n : Int) - 1) = true) (h3 : k < 1 ∨ b.f cpu.toNat < k) : bandStep q n 2 cpu k b = (b, 3) := by
  unfold bandStep; rw [if_neg (by decide), if_neg (by rw [h2]; decide), if_neg (by decide), if_pos rfl, if_pos h3]
theorem step_spend2 {q : Int} {n : Nat} {cpu k : Int} {b : BSt} (h2 : inR cpu 0 ((n : Int) - 1) = true) (h3 : ¬ (k < 1 ∨ b.f cpu.toNat < k)) : bandStep q n 2 cpu k b = (⟨b.p, b.s + k, setAt b.f cpu.toNat (b.f cpu.toNat - k), b.d⟩, 0) := by
  unfold bandStep; rw [if_neg (by decide), if_neg (by rw [h2]; decide), if_neg (by decide), if_pos rfl, if_neg h3]
theorem step_return {q : Int} {n : Nat} {cpu k : Int} {b : BSt} (h2 : inR cpu 0 ((n : Int) - 1) = true) : bandStep q n 3 cpu k b = (⟨b.p + b.f cpu.toNat, b.s, setAt b.f cpu.toNat 0, if 0 < b.p + b.f cpu.toNat then fun _ => false else b.d⟩, 0) := by
  unfold bandStep; rw [if_neg (by decide), if_neg (by rw [h2]; decide), if_neg (by decide), if_neg (by decide), if_pos rfl]
theorem step_else {q : Int} {n : Nat} {kind cpu k : Int} {b : BSt} (h1 : kind ≠ 1) (h2 : kind ≠ 2) (h3 : kind ≠ 3) (h4 : kind ≠ 4) : bandStep q n kind cpu k b = (b, 1) := by
  unfold bandStep
  rw [if_neg h4, if_neg h1, if_neg h2, if_neg h3]
  split <;> rfl
def bOk (q : Int) (n : Nat) (b : BSt) : Bool := bandOk q b.p b.s n n b.f b.d
/-- A valid band stays valid; what is spent is counted. -/
theorem bandStep_ok {q : Int} {n : Nat} {kind cpu k : Int} {b : BSt} (h : bOk q n b = true) : bOk q n (bandStep q n kind cpu k b).1 = true := by
  have hb := h
  unfold bOk at h
  obtain ⟨a1, a2, a3, a4, _, a5, a6, a7, a8, a9, a10⟩ := bandOk_facts _ _ _ _ _ _ _ h
  by_cases e4 : kind = 4
  · subst e4
    rw [step_refill]
    exact bandOk_mk a1 a2 (by omega) (by omega) (by show 0 ≤ q; omega) (by show (0 : Int) ≤ 0; omega) (fun i hi => ⟨Int.le_refl _, fun hh => by cases hh⟩) (by show q + 0 + sumTo (fun _ => 0) n = q; rw [sumTo_zero]; omega)
  cases ec : inR cpu 0 ((n : Int) - 1)
  · rw [step_out e4 ec]; exact hb
  obtain ⟨c1, c2⟩ := inR_iff.1 ec
  obtain ⟨l1, l2, l3⟩ := a9 cpu.toNat (by omega)
  have hc : cpu.toNat < n := by omega
  by_cases e1 : kind = 1
  · subst e1
    by_cases g1 : 0 < b.f cpu.toNat
    · rw [step_take1 ec g1]; exact hb
    by_cases g2 : b.p = 0
    · rw [step_take2 ec g1 g2]
      refine bandOk_mk a1 a2 (by omega) (by omega) a5 a7 (fun i hi => ⟨(a9 i hi).1, fun hh => ?_⟩) a10
      have hh : setAt b.d cpu.toNat true i = true := hh
      show b.f i = 0 ∧ b.p = 0
      by_cases ei : i = cpu.toNat
      · subst ei; exact ⟨by omega, g2⟩
      · rw [setAt_other _ _ _ _ ei] at hh; exact (a9 i hi).2.2 hh
    · rw [step_take3 ec g1 g2]
      refine bandOk_mk a1 a2 (by omega) (by omega) (by show 0 ≤ b.p - min 20 b.p; omega) a7 (fun i hi => ?_) (by
        show b.p - min 20 b.p + b.s + sumTo (setAt b.f cpu.toNat (min 20 b.p)) n = q
        rw [sumTo_setAt, if_pos hc]; omega)
      refine ⟨?_, fun hh => absurd ((a9 i hi).2.2 hh).2 g2⟩
      show 0 ≤ setAt b.f cpu.toNat (min 20 b.p) i
      by_cases ei : i = cpu.toNat
      · subst ei; rw [setAt_same]; omega
      · rw [setAt_other _ _ _ _ ei]; exact (a9 i hi).1
  by_cases e2 : kind = 2
  · subst e2
    by_cases g1 : k < 1 ∨ b.f cpu.toNat < k
    · rw [step_spend1 ec g1]; exact hb
    · rw [step_spend2 ec g1]
      refine bandOk_mk a1 a2 (by omega) (by omega) a5 (by show 0 ≤ b.s + k; omega) (fun i hi => ?_) (by
        show b.p + (b.s + k) + sumTo (setAt b.f cpu.toNat (b.f cpu.toNat - k)) n = q
        rw [sumTo_setAt, if_pos hc]; omega)
      have h9 := a9 i hi
      show 0 ≤ setAt b.f cpu.toNat (b.f cpu.toNat - k) i ∧ (b.d i = true → setAt b.f cpu.toNat (b.f cpu.toNat - k) i = 0 ∧ b.p = 0)
      by_cases ei : i = cpu.toNat
      · subst ei
        rw [setAt_same]
        exact ⟨by omega, fun hh => by have := h9.2.2 hh; omega⟩
      · rw [setAt_other _ _ _ _ ei]; exact ⟨h9.1, h9.2.2⟩
  by_cases e3 : kind = 3
  · subst e3
    rw [step_return ec]
    refine bandOk_mk a1 a2 (by omega) (by omega) (by show 0 ≤ b.p + b.f cpu.toNat; omega) a7 (fun i hi => ?_) (by
      show b.p + b.f cpu.toNat + b.s + sumTo (setAt b.f cpu.toNat 0) n = q
      rw [sumTo_setAt, if_pos hc]; omega)
    have h9 := a9 i hi
    show 0 ≤ setAt b.f cpu.toNat 0 i ∧ ((if 0 < b.p + b.f cpu.toNat then fun _ => false else b.d) i = true → setAt b.f cpu.toNat 0 i = 0 ∧ b.p + b.f cpu.toNat = 0)
    refine ⟨?_, fun hh => ?_⟩
    · by_cases ei : i = cpu.toNat
      · subst ei; rw [setAt_same]; omega
      · rw [setAt_other _ _ _ _ ei]; exact h9.1
    · by_cases g : 0 < b.p + b.f cpu.toNat
      · rw [if_pos g] at hh; cases hh
      · rw [if_neg g] at hh
        refine ⟨?_, by omega⟩
        by_cases ei : i = cpu.toNat
        · subst ei; rw [setAt_same]
        · rw [setAt_other _ _ _ _ ei]; exact (h9.2.2 hh).1
  · rw [step_else e1 e2 e3 e4]; exact hb
theorem bandStep_spent {q : Int} {n : Nat} {kind cpu k : Int} {b : BSt} :
    (bandStep q n kind cpu k b).1.s = if (bandStep q n kind cpu k b).2 = 0 ∧ kind = 2 then b.s + k else if (bandStep q n kind cpu k b).2 = 0 ∧ kind = 4 then 0 else b.s := by
  by_cases e4 : kind = 4
  · subst e4; rw [step_refill]; simp
  cases ec : inR cpu 0 ((n : Int) - 1)
  · rw [step_out e4 ec]; simp
  by_cases e1 : kind = 1
  · subst e1
    by_cases g1 : 0 < b.f cpu.toNat
    · rw [step_take1 ec g1]; simp
    by_cases g2 : b.p = 0
    · rw [step_take2 ec g1 g2]; simp
    · rw [step_take3 ec g1 g2]; simp
  by_cases e2 : kind = 2
  · subst e2
    by_cases g1 : k < 1 ∨ b.f cpu.toNat < k
    · rw [step_spend1 ec g1]; simp
    · rw [step_spend2 ec g1]; simp
  by_cases e3 : kind = 3
  · subst e3; rw [step_return ec]; simp
  · rw [step_else e1 e2 e3 e4]; simp
end Go.Proofs.Ytfckhpkebdpkbaa

/- Bands: many steps, one behind the other, as a plain function. -/
namespace Go.Proofs.Ytfckhpkebdpkbaa
/-- The band ahead of step k. -/
def stAt (q : Int) (n : Nat) (o1 o2 o3 : Nat → Int) (b : BSt) : Nat → BSt
  | 0 => b
  | k + 1 => (bandStep q n (o1 k) (o2 k) (o3 k) (stAt q n o1 o2 o3 b k)).1
/-- What step k answers. -/
def codeAt (q : Int) (n : Nat) (o1 o2 o3 : Nat → Int) (b : BSt) (k : Nat) : Int := (bandStep q n (o1 k) (o2 k) (o3 k) (stAt q n o1 o2 o3 b k)).2
theorem stAt_ok {q : Int} {n : Nat} {o1 o2 o3 : Nat → Int} {b : BSt} (h : bOk q n b = true) : ∀ k, bOk q n (stAt q n o1 o2 o3 b k) = true
  | 0 => h
  | k + 1 => bandStep_ok (stAt_ok h k)
end Go.Proofs.Ytfckhpkebdpkbaa

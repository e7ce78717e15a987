/- Bands: one step as a plain function; a valid band stays valid. -/
import Derived.Test.YtbgmjcfnehnicaaB3Plain
namespace Go.Proofs.Ytbgmjcfnehnicaa
/-- What changes in a band: the pool, what is spent, what lies on processors, which are dry. -/
structure BSt where
  p : Int
  s : Int
  f : Nat → Int
  d : Nat → Bool
def setAt {α : Type} (f : Nat → α) (c : Nat) (v : α) : Nat → α := fun i => if i = c then v else f i
theorem setAt_same {α : Type} (f : Nat → α) (c : Nat) (v : α) : setAt f c v c = v := if_pos rfl
theorem setAt_other {α : Type} (f : Nat → α) (c i : Nat) (v : α) (h : i ≠ c) : setAt f c v i = f i := if_neg h
theorem sumTo_congr (f g : Nat → Int) (n : Nat) (h : ∀ i, i < n → f i = g i) : sumTo f n = sumTo g n := by
  induction n with
  | zero => rfl
  | succ n ih => simp only [sumTo]; rw [ih (fun i hi => h i (by omega)), h n (by omega)]
theorem sumTo_setAt (f : Nat → Int) (c : Nat) (v : Int) (n : Nat) : sumTo (setAt f c v) n = if c < n then sumTo f n - f c + v else sumTo f n := by
  induction n with
  | zero => simp [sumTo]
  | succ n ih =>
    simp only [sumTo, ih]
    by_cases h : c = n
    · subst h
      rw [setAt_same, if_neg (by omega), if_pos (by omega)]
      omega
    · rw [setAt_other f c n v (by omega)]
      by_cases h2 : c < n
      · rw [if_pos h2, if_pos (by omega)]; omega
      · rw [if_neg h2, if_neg (by omega)]
theorem sumTo_zero (n : Nat) : sumTo (fun _ => 0) n = 0 := by
  induction n with
  | zero => rfl
  | succ n ih => simp only [sumTo, ih]; rfl
theorem sumTo_nonneg (f : Nat → Int) (n : Nat) (h : ∀ i, i < n → 0 ≤ f i) : 0 ≤ sumTo f n := by
  induction n with
  | zero => exact Int.le_refl 0
  | succ n ih =>
    have h1 := ih (fun i hi => h i (by omega))
    have h2 := h n (by omega)
    simp only [sumTo]
    omega
theorem sumTo_ge (f : Nat → Int) (n c : Nat) (hc : c < n) (h : ∀ i, i < n → 0 ≤ f i) : f c ≤ sumTo f n := by
  induction n with
  | zero => omega
  | succ n ih =>
    have h2 := h n (by omega)
    simp only [sumTo]
    by_cases e : c = n
    · subst e
      have := sumTo_nonneg f c (fun i hi => h i (by omega))
      omega
    · have := ih (by omega) (fun i hi => h i (by omega))
      omega
theorem allTo_all (f : Nat → Bool) (n : Nat) (h : ∀ i, i < n → f i = true) : allTo f n = true := by
  induction n with
  | zero => rfl
  | succ n ih => exact allTo_next f n (ih (fun i hi => h i (by omega))) (h n (by omega))
theorem bandOk_mk {q p s : Int} {n : Nat} {f : Nat → Int} {d : Nat → Bool} (h1 : 1 ≤ q) (h2 : q ≤ 10000) (h3 : 1 ≤ n) (h4 : n ≤ 4) (hp : 0 ≤ p) (hs : 0 ≤ s) (hf : ∀ i, i < n → 0 ≤ f i ∧ (d i = true → f i = 0 ∧ p = 0)) (hsum : p + s + sumTo f n = q) :
    bandOk q p s n n f d = true := by
  have hn := sumTo_nonneg f n (fun i hi => (hf i hi).1)
  have hl : ∀ i, i < n → locOk q p f d i = true := fun i hi => by
    obtain ⟨a, b⟩ := hf i hi
    have c := sumTo_ge f n i hi (fun i hi => (hf i hi).1)
    cases e : d i
    · exact locOk_t1 q p f d i (inR_t a (by omega)) e
    · obtain ⟨b1, b2⟩ := b e
      exact locOk_t2 q p f d i (inR_t a (by omega)) b1 b2
  rw [bandOk_end q p s n n f d ?_ (allTo_all _ n hl)]
  · simp [hsum]
  · rw [inR_t h1 h2, inR_t (by omega) (by omega), inR_t hp (by omega), inR_t hs (by omega)]
    simp
theorem bandOk_congr {q p s : Int} {n m : Nat} {f f' : Nat → Int} {d d' : Nat → Bool} (hf : ∀ i, i < n → f i = f' i) (hd : ∀ i, i < n → d i = d' i) : bandOk q p s n m f d = bandOk q p s n m f' d' := by
  have h1 := sumTo_congr f f' n hf
  have h2 : allTo (locOk q p f d) n = allTo (locOk q p f' d') n := by
    clear h1
    induction n with
    | zero => rfl
    | succ n ih =>
      simp only [allTo]
      rw [ih (fun i hi => hf i (by omega)) (fun i hi => hd i (by omega))]
      unfold locOk
      rw [hf n (by omega), hd n (by omega)]
  simp only [bandOk, h1, h2]
/-- One thing done with a valid band of n processors: what it is then, and the code. -/
def bandStep (q : Int) (n : Nat) (kind cpu k : Int) (b : BSt) : BSt × Int :=
  if kind = 4 then (⟨q, 0, fun _ => 0, fun _ => false⟩, 0)
  else if inR cpu 0 ((n : Int) - 1) = false then (b, 1)
  else if kind = 1 then
    (if 0 < b.f cpu.toNat then (b, 0) else if b.p = 0 then (⟨b.p, b.s, b.f, setAt b.d cpu.toNat true⟩, 2) else (⟨b.p - min 20 b.p, b.s, setAt b.f cpu.toNat (min 20 b.p), b.d⟩, 0))
  else if kind = 2 then (if k < 1 ∨ b.f cpu.toNat < k then (b, 3) else (⟨b.p, b.s + k, setAt b.f cpu.toNat (b.f cpu.toNat - k), b.d⟩, 0))
  else if kind = 3 then (⟨b.p + b.f cpu.toNat, b.s, setAt b.f cpu.toNat 0, if 0 < b.p + b.f cpu.toNat then fun _ => false else b.d⟩, 0)
  else (b, 1)
theorem step_refill (q : Int) (n : Nat) (cpu k : Int) (b : BSt) : bandStep q n 4 cpu k b = (⟨q, 0, fun _ => 0, fun _ => false⟩, 0) := if_pos rfl
theorem step_out {q : Int} {n : Nat} {kind cpu k : Int} {b : BSt} (h1 : kind ≠ 4) (h2 : inR cpu 0 ((n : Int) - 1) = false) : bandStep q n kind cpu k b = (b, 1) := by
  unfold bandStep; rw [if_neg h1, if_pos h2]
theorem step_take1 {q : Int} {n : Nat} {cpu k : Int} {b : BSt} (h2 : inR cpu 0 ((n : Int) - 1) = true) (h3 : 0 < b.f cpu.toNat) : bandStep q n 1 cpu k b = (b, 0) := by
  unfold bandStep; rw [if_neg (by decide), if_neg (by rw [h2]; decide), if_pos rfl, if_pos h3]
theorem step_take2 {q : Int} {n : Nat} {cpu k : Int} {b : BSt} (h2 : inR cpu 0 ((n : Int) - 1) = true) (h3 : ¬ 0 < b.f cpu.toNat) (h4 : b.p = 0) : bandStep q n 1 cpu k b = (⟨b.p, b.s, b.f, setAt b.d cpu.toNat true⟩, 2) := by
  unfold bandStep; rw [if_neg (by decide), if_neg (by rw [h2]; decide), if_pos rfl, if_neg h3, if_pos h4]
theorem step_take3 {q : Int} {n : Nat} {cpu k : Int} {b : BSt} (h2 : inR cpu 0 ((n : Int) - 1) = true) (h3 : ¬ 0 < b.f cpu.toNat) (h4 : ¬ b.p = 0) : bandStep q n 1 cpu k b = (⟨b.p - min 20 b.p, b.s, setAt b.f cpu.toNat (min 20 b.p), b.d⟩, 0) := by
  unfold bandStep; rw [if_neg (by decide), if_neg (by rw [h2]; decide), if_pos rfl, if_neg h3, if_neg h4]
theorem step_spend1 {q : Int} {n : Nat} {cpu k : Int} {b : BSt} (h2 : inR cpu 0 ((n : Int) - 1) = true) (h3 : k < 1 ∨ b.f cpu.toNat < k) : bandStep q n 2 cpu k b = (b, 3) := by
  unfold bandStep; rw [if_neg (by decide), if_neg (by rw [h2]; decide), if_neg (by decide), if_pos rfl, if_pos h3]
theorem step_spend2 {q : Int} {n : Nat} {cpu k : Int} {b : BSt} (h2 : inR cpu 0 ((n : Int) - 1) = true) (h3 : ¬ (k < 1 ∨ b.f cpu.toNat < k)) : bandStep q n 2 cpu k b = (⟨b.p, b.s + k, setAt b.f cpu.toNat (b.f cpu.toNat - k), b.d⟩, 0) := by
  unfold bandStep; rw [if_neg (by decide), if_neg (by rw [h2]; decide), if_neg (by decide), if_pos rfl, if_neg h3]
theorem step_return {q : Int} {n : Nat} {cpu k : Int} {b : BSt} (h2 : inR cpu 0 ((n : Int) - 1) = true) : bandStep q n 3 cpu k b = (⟨b.p + b.f cpu.toNat, b.s, setAt b.f cpu.toNat 0, if 0 < b.p + b.f cpu.toNat then fun _ => false else b.d⟩, 0) := by
  unfold bandStep; rw [if_neg (by decide), if_neg (by rw [h2]; decide), if_neg (by decide), if_neg (by decide), if_pos rfl]
theorem step_else {q : Int} {n : Nat} {kind cpu k : Int} {b : BSt} (h1 : kind ≠ 1) (h2 : kind ≠ 2) (h3 : kind ≠ 3) (h4 : kind ≠ 4) : bandStep q n kind cpu k b = (b, 1) := by
  unfold bandStep
  rw [if_neg h4, if_neg h1, if_neg h2, if_neg h3]
  split <;> rfl
def bOk (q : Int) (n : Nat) (b : BSt) : Bool := bandOk q b.p b.s n n b.f b.d
/-- A valid band stays valid; what is spent is counted. -/
theorem bandStep_ok {q : Int} {n : Nat} {kind cpu k : Int} {b : BSt} (h : bOk q n b = true) : bOk q n (bandStep q n kind cpu k b).1 = true := by
  have hb := h
  unfold bOk at h
  obtain ⟨a1, a2, a3, a4, _, a5, a6, a7, a8, a9, a10⟩ := bandOk_facts _ _ _ _ _ _ _ h
  by_cases e4 : kind = 4
  · subst e4
    rw [step_refill]
    exact bandOk_mk a1 a2 (by omega) (by omega) (by show 0 ≤ q; omega) (by show (0 : Int) ≤ 0; omega) (fun i hi => ⟨Int.le_refl _, fun hh => by cases hh⟩) (by show q + 0 + sumTo (fun _ => 0) n = q; rw [sumTo_zero]; omega)
  cases ec : inR cpu 0 ((n : Int) - 1)
  · rw [step_out e4 ec]; exact hb
  obtain ⟨c1, c2⟩ := inR_iff.1 ec
  obtain ⟨l1, l2, l3⟩ := a9 cpu.toNat (by omega)
  have hc : cpu.toNat < n := by omega
  by_cases e1 : kind = 1
  · subst e1
    by_cases g1 : 0 < b.f cpu.toNat
    · rw [step_take1 ec g1]; exact hb
    by_cases g2 : b.p = 0
    · rw [step_take2 ec g1 g2]
      refine bandOk_mk a1 a2 (by omega) (by omega) a5 a7 (fun i hi => ⟨(a9 i hi).1, fun hh => ?_⟩) a10
      have hh : setAt b.d cpu.toNat true i = true := hh
      show b.f i = 0 ∧ b.p = 0
      by_cases ei : i = cpu.toNat
      · subst ei; exact ⟨by omega, g2⟩
      · rw [setAt_other _ _ _ _ ei] at hh; exact (a9 i hi).2.2 hh
    · rw [step_take3 ec g1 g2]
      refine bandOk_mk a1 a2 (by omega) (by omega) (by show 0 ≤ b.p - min 20 b.p; omega) a7 (fun i hi => ?_) (by
        show b.p - min 20 b.p + b.s + sumTo (setAt b.f cpu.toNat (min 20 b.p)) n = q
        rw [sumTo_setAt, if_pos hc]; omega)
      refine ⟨?_, fun hh => absurd ((a9 i hi).2.2 hh).2 g2⟩
      show 0 ≤ setAt b.f cpu.toNat (min 20 b.p) i
      by_cases ei : i = cpu.toNat
      · subst ei; rw [setAt_same]; omega
      · rw [setAt_other _ _ _ _ ei]; exact (a9 i hi).1
  by_cases e2 : kind = 2
  · subst e2
    by_cases g1 : k < 1 ∨ b.f cpu.toNat < k
    · rw [step_spend1 ec g1]; exact hb
    · rw [step_spend2 ec g1]
      refine bandOk_mk a1 a2 (by omega) (by omega) a5 (by show 0 ≤ b.s + k; omega) (fun i hi => ?_) (by
        show b.p + (b.s + k) + sumTo (setAt b.f cpu.toNat (b.f cpu.toNat - k)) n = q
        rw [sumTo_setAt, if_pos hc]; omega)
      have h9 := a9 i hi
      show 0 ≤ setAt b.f cpu.toNat (b.f cpu.toNat - k) i ∧ (b.d i = true → setAt b.f cpu.toNat (b.f cpu.toNat - k) i = 0 ∧ b.p = 0)
      by_cases ei : i = cpu.toNat
      · subst ei
        rw [setAt_same]
        exact ⟨by omega, fun hh => by have := h9.2.2 hh; omega⟩
      · rw [setAt_other _ _ _ _ ei]; exact ⟨h9.1, h9.2.2⟩
  by_cases e3 : kind = 3
  · subst e3
    rw [step_return ec]
    refine bandOk_mk a1 a2 (by omega) (by omega) (by show 0 ≤ b.p + b.f cpu.toNat; omega) a7 (fun i hi => ?_) (by
      show b.p + b.f cpu.toNat + b.s + sumTo (setAt b.f cpu.toNat 0) n = q
      rw [sumTo_setAt, if_pos hc]; omega)
    have h9 := a9 i hi
    show 0 ≤ setAt b.f cpu.toNat 0 i ∧ ((if 0 < b.p + b.f cpu.toNat then fun _ => false else b.d) i = true → setAt b.f cpu.toNat 0 i = 0 ∧ b.p + b.f cpu.toNat = 0)
    refine ⟨?_, fun hh => ?_⟩
    · by_cases ei : i = cpu.toNat
      · subst ei; rw [setAt_same]; omega
      · rw [setAt_other _ _ _ _ ei]; exact h9.1
    · by_cases g : 0 < b.p + b.f cpu.toNat
      · rw [if_pos g] at hh; cases hh
      · rw [if_neg g] at hh
        refine ⟨?_, by omega⟩
        by_cases ei : i = cpu.toNat
        · subst ei; rw [setAt_same]
        · rw [setAt_other _ _ _ _ ei]; exact (h9.2.2 hh).1
  · rw [step_else e1 e2 e3 e4]; exact hb
theorem bandStep_spent {q : Int} {n : Nat} {kind cpu k : Int} {b : BSt} :
    (bandStep q n kind cpu k b).1.s = if (bandStep q n kind cpu k b).2 = 0 ∧ kind = 2 then b.s + k else if (bandStep q n kind cpu k b).2 = 0 ∧ kind = 4 then 0 else b.s := by
  by_cases e4 : kind = 4
  · subst e4; rw [step_refill]; simp
  cases ec : inR cpu 0 ((n : Int) - 1)
  · rw [step_out e4 ec]; simp
  by_cases e1 : kind = 1
  · subst e1
    by_cases g1 : 0 < b.f cpu.toNat
    · rw [step_take1 ec g1]; simp
    by_cases g2 : b.p = 0
    · rw [step_take2 ec g1 g2]; simp
    · rw [step_take3 ec g1 g2]; simp
  by_cases e2 : kind = 2
  · subst e2
    by_cases g1 : k < 1 ∨ b.f cpu.toNat < k
    · rw [step_spend1 ec g1]; simp
    · rw [step_spend2 ec g1]; simp
  by_cases e3 : kind = 3
  · subst e3; rw [step_return ec]; simp
  · rw [step_else e1 e2 e3 e4]; simp
end Go.Proofs.Ytbgmjcfnehnicaa

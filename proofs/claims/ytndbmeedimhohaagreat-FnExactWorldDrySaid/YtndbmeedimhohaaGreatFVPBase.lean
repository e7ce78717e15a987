/- Worlds: the program's check of a world and the reference's are the same. -/
import Derived.Test.YtndbmeedimhohaaGreatFV4Base
namespace Go.Proofs.YtndbmeedimhohaaGreat
open Go.RowKit
theorem allTo_iff {f : Nat → Bool} {n : Nat} : allTo f n = true ↔ ∀ k, k < n → f k = true := by
  refine ⟨fun h k hk => allTo_at f k n hk h, fun h => ?_⟩
  cases e : allTo f n
  · exfalso
    revert h e
    induction n with
    | zero => intro _ e; exact absurd e (by simp [allTo])
    | succ n ih =>
      intro h e
      simp only [allTo, h n (by omega), Bool.and_true] at e
      exact ih (fun k hk => h k (by omega)) e
  · rfl
theorem allTo_congr {f g : Nat → Bool} {n : Nat} (h : ∀ k, k < n → f k = g k) : allTo f n = allTo g n := by
  rw [Bool.eq_iff_iff, allTo_iff, allTo_iff]
  exact ⟨fun a k hk => by rw [← h k hk]; exact a k hk, fun a k hk => by rw [h k hk]; exact a k hk⟩
theorem maskHas_and16 : ∀ i j : Fin 16, ∀ c : Fin 4, maskHas (maskAnd (i.val : Int) (j.val : Int)) (c.val : Int) = true → maskHas (j.val : Int) (c.val : Int) = true := by decide +kernel
theorem maskHas_zero (c : Int) : maskHas 0 c = false := by simp [maskHas]
theorem maskHas_and2 {a b c : Int} (h : maskHas (maskAnd a b) c = true) : maskHas b c = true := by
  cases ha : inR a 0 15
  · rw [maskAnd_bad (by simp [ha]), maskHas_zero] at h; exact absurd h (by decide)
  cases hb : inR b 0 15
  · rw [maskAnd_bad (by simp [hb]), maskHas_zero] at h; exact absurd h (by decide)
  have hc : inR c 0 3 = true := by
    unfold maskHas at h
    simp only [Bool.and_eq_true] at h
    exact h.1.2
  obtain ⟨c1, c2⟩ := inR_iff.1 hc
  obtain ⟨n, rfl⟩ := Int.eq_ofNat_of_zero_le c1
  revert h
  exact fin16 (P := fun a => maskHas (maskAnd a b) (n : Int) = true → maskHas b (n : Int) = true) (fun i => fin16 (P := fun b => maskHas (maskAnd (i.val : Int) b) (n : Int) = true → maskHas b (n : Int) = true) (fun j => maskHas_and16 i j ⟨n, by omega⟩) b hb) a ha
theorem maskHas_ups {V : WV} {c : Int} (h : maskHas (ups V) c = true) : 0 ≤ c ∧ c.toNat < V.cn := by
  unfold maskHas at h
  simp only [Bool.and_eq_true] at h
  obtain ⟨⟨_, hc⟩, h3⟩ := h
  obtain ⟨c1, c2⟩ := inR_iff.1 hc
  refine ⟨c1, ?_⟩
  by_cases hl : c.toNat < V.cn
  · exact hl
  exfalso
  obtain ⟨u1, u2⟩ := upsTo_b V V.cn
  have hp : (2 : Int) ^ V.cn ≤ 2 ^ c.toNat := by
    have : 2 ^ V.cn ≤ 2 ^ c.toNat := Nat.pow_le_pow_right (by omega) (by omega)
    exact_mod_cast this
  have hz : ups V / 2 ^ c.toNat = 0 := Int.ediv_eq_zero_of_lt u1 (by unfold ups; omega)
  rw [hz] at h3
  exact absurd h3 (by decide)
theorem where_lt {V : WV} {g : Nat} {m c : Int} (h : maskHas (whereM V g m) c = true) : 0 ≤ c ∧ c.toNat < V.cn := by
  apply maskHas_ups
  unfold whereM at h
  split at h
  · exact maskHas_and2 (maskHas_and2 h)
  · split at h
    · exact maskHas_and2 h
    · exact h
theorem quota_eq (V : WV) (g : GV) : quotaI V g = quotaS V g := by
  unfold quotaI quotaS
  by_cases hq : g.qu = 0
  · rw [if_pos hq]
    cases hn : nobandB g
    · have : bandOk g.qu g.po g.sp g.ln g.dn g.lf g.df = false := bandOk_head _ _ _ _ _ _ _ (by simp [hq, inR])
      simp [this]
    · simp
  · have hn : nobandB g = false := by simp [nobandB, hq]
    have he : inR g.ne (V.now + 1) (V.now + g.pe) = (decide (V.now < g.ne) && decide (g.ne - V.now ≤ g.pe)) := by
      rw [Bool.eq_iff_iff, inR_iff, Bool.and_eq_true, decide_eq_true_iff, decide_eq_true_iff]
      omega
    rw [if_neg hq, hn, he]
    simp [Bool.and_assoc]
theorem groups_eq (V : WV) (T : Tree V) : (allTo (groupI V) V.gn && rootI V) = allTo (groupS V) V.gn := by
  rw [Bool.eq_iff_iff, Bool.and_eq_true, allTo_iff, allTo_iff]
  have n8 := T.n8
  constructor
  · rintro ⟨h1, h2⟩ k hk
    have := h1 k hk
    unfold groupI at this
    unfold groupS
    split
    · rename_i hu
      rw [if_pos hu, Bool.and_eq_true, quota_eq] at this
      rw [Bool.and_eq_true, Bool.and_eq_true]
      exact ⟨⟨this.1, by simp [h2]⟩, this.2⟩
    · rename_i hu
      rwa [if_neg hu] at this
  · intro h
    refine ⟨fun k hk => ?_, ?_⟩
    · have := h k hk
      unfold groupS at this
      unfold groupI
      split
      · rename_i hu
        rw [if_pos hu, Bool.and_eq_true, Bool.and_eq_true] at this
        rw [quota_eq, Bool.and_eq_true]
        exact ⟨this.1.1, this.2⟩
      · rename_i hu
        rwa [if_neg hu] at this
    · have := h 0 (by omega)
      unfold groupS at this
      rw [if_pos T.u0, Bool.and_eq_true, Bool.and_eq_true] at this
      simpa using this.1.2
/-- What the groups' checks tell of the rows of shelves. -/
theorem sn_of {V : WV} (h : allTo (groupI V) V.gn = true) {k : Nat} (hk : k < V.gn) : (V.gv k).sn = if (V.gv k).us then V.cn else 0 := by
  have := allTo_iff.1 h k hk
  unfold groupI at this
  split at this
  · rename_i hu
    rw [if_pos hu]
    simp only [usedG, Bool.and_eq_true, beq_iff_eq] at this
    omega
  · rename_i hu
    rw [if_neg hu]
    simp only [zeroG, Bool.and_eq_true, beq_iff_eq] at this
    omega
theorem place_eq {v f x : Int} (hv : timeB v = true) (hf : timeB f = true) : placedB v f x = standS v f x := by
  obtain ⟨v1, v2⟩ := timeB_t hv
  obtain ⟨f1, f2⟩ := timeB_t hf
  unfold placedB standS
  rw [wrap_in (by omega) (by omega)]
def AllH (V : WV) : Prop := ∀ g, g < V.gn → (V.gv g).us = true → ∀ c, c < V.cn → numH V g c = true
theorem numH_t {V : WV} {g c : Nat} (h : numH V g c = true) : timeB ((V.gv g).s0 c) = true ∧ timeB ((V.gv g).s2 c) = true ∧ timeB ((V.gv g).s4 c) = true ∧ inR ((V.gv g).s3 c) 1 20 = true := by
  simp only [numH, Bool.and_eq_true] at h
  exact ⟨h.1.1.1, h.1.1.2, h.1.2, h.2⟩
theorem task_eq (V : WV) (A : AllH V) (t : Nat) : taskI V t = taskS V t := by
  unfold taskI taskS
  by_cases h0 : (V.tv t).st = 0
  · rw [if_pos h0, show headT V t = false by simp [headT, h0]]
    simp
  · rw [if_neg h0, show zeroT (V.tv t) = false by simp [zeroT, h0], Bool.false_or]
    cases hh : headT V t
    · simp
    cases hn : numT V t
    · simp
    simp only [Bool.true_and]
    simp only [headT, Bool.and_eq_true, Bool.or_eq_true, beq_iff_eq] at hh
    simp only [numT, time3, Bool.and_eq_true] at hn
    obtain ⟨⟨⟨⟨hs, hu⟩, _⟩, _⟩, _⟩ := hh
    rcases hs with hs | hs
    · obtain ⟨u1, u2, u3⟩ := usedB_iff.1 hu
      obtain ⟨q1, q2⟩ := where_lt hn.2
      have hf := (numH_t (A (V.tv t).gr.toNat (by omega) u3 (V.tv t).cp.toNat q2)).1
      have hv := hn.1.1.1.1
      rw [show timeB (flT V t) = true from hf, place_eq (f := flT V t) hv hf]
      simp [hs]
    · simp [hs]
theorem shelves_eq (V : WV) (T : Tree V) (hG : allTo (groupI V) V.gn = true) (A : AllH V) : allTo (fun c => rootH V c && allTo (laneI V c) V.gn) V.cn = allTo (fun g => allTo (shelfS V g) (V.gv g).sn) V.gn := by
  have n8 := T.n8
  have hst : ∀ g c, g ≠ 0 → g < V.gn → (V.gv g).us = true → c < V.cn → placedB ((V.gv g).s2 c) ((V.gv (pN V g)).s0 c) ((V.gv g).s3 c) = standS ((V.gv g).s2 c) ((V.gv (pN V g)).s0 c) ((V.gv g).s3 c) := by
    intro g c g0 g8 gu hc
    obtain ⟨p1, p2, p3, p4⟩ := T.pa g g0 (by omega) gu
    exact place_eq (numH_t (A g g8 gu c hc)).2.1 (numH_t (A _ (by omega) p3 c hc)).1
  rw [Bool.eq_iff_iff, allTo_iff, allTo_iff]
  constructor
  · intro h g hg
    rw [allTo_iff]
    intro c hc
    have hsn := sn_of hG hg
    cases gu : (V.gv g).us
    · rw [gu] at hsn; simp at hsn; omega
    rw [gu, if_pos rfl] at hsn
    have hc2 : c < V.cn := by omega
    have := h c hc2
    rw [Bool.and_eq_true, allTo_iff] at this
    unfold shelfS
    rw [A g hg gu c hc2, Bool.true_and]
    by_cases g0 : g = 0
    · rw [if_pos g0]; exact this.1
    · rw [if_neg g0, ← hst g c g0 hg gu hc2]
      have h2 := this.2 g hg
      simpa [laneI, g0, gu] using h2
  · intro h c hc
    rw [Bool.and_eq_true, allTo_iff]
    have key : ∀ g, g < V.gn → (V.gv g).us = true → shelfS V g c = true := fun g hg gu => by
      have h1 := allTo_iff.1 (h g hg) c (by rw [sn_of hG hg, gu]; exact hc)
      exact h1
    refine ⟨?_, fun g hg => ?_⟩
    · have := key 0 (by omega) T.u0
      simp only [shelfS, Bool.and_eq_true, if_true] at this
      exact this.2
    · cases gu : (V.gv g).us
      · simp [laneI, gu]
      by_cases g0 : g = 0
      · simp [laneI, g0]
      have := key g hg gu
      unfold shelfS at this
      rw [if_neg g0, ← hst g c g0 hg gu hc, Bool.and_eq_true] at this
      simpa [laneI, g0, gu] using this.2
theorem cpu_eq (V : WV) (c : Nat) : cpuI V c = cpuS V c := by
  unfold cpuI cpuS thereB inlI inlS
  cases timeB (V.cv c).bu <;> cases timeB (V.cv c).id <;> simp only [Bool.false_and, Bool.and_false, Bool.true_and]
  by_cases h1 : (V.cv c).cu = -1
  · have e1 : inR (V.cv c).cu (-1) ((V.tn : Int) - 1) = true := inR_iff.2 (by omega)
    have e2 : inR (V.cv c).cu 0 ((V.tn : Int) - 1) = false := by simp [inR, h1]
    rw [e1, e2, if_pos (by omega)]
    simp [h1]
  have h1' : ((V.cv c).cu == -1) = false := by simp [h1]
  rw [h1', Bool.false_and, Bool.false_or]
  by_cases h2 : (V.cv c).cu < 0
  · have e1 : inR (V.cv c).cu (-1) ((V.tn : Int) - 1) = false := by simp [inR]; omega
    have e2 : inR (V.cv c).cu 0 ((V.tn : Int) - 1) = false := by simp [inR]; omega
    simp [e1, e2]
  rw [if_neg h2]
  have e : inR (V.cv c).cu (-1) ((V.tn : Int) - 1) = inR (V.cv c).cu 0 ((V.tn : Int) - 1) := by
    rw [Bool.eq_iff_iff, inR_iff, inR_iff]; omega
  rw [e]
  cases inR (V.cv c).cu 0 ((V.tn : Int) - 1)
  · simp
  by_cases hs : (V.tv (V.cv c).cu.toNat).st = 1
  · have hs1 : ((V.tv (V.cv c).cu.toNat).st == 1) = true := by simp [hs]
    have hs0 : ((V.tv (V.cv c).cu.toNat).st != 0) = true := by simp [hs]
    rw [hs1, hs0]
    by_cases hcp : (V.tv (V.cv c).cu.toNat).cp = (c : Int)
    · rw [hcp]
      simp only [Int.toNat_natCast, beq_self_eq_true, Bool.true_and]
      cases (V.cv c).up <;> cases inR (V.cv c).ra 1 149 <;> simp
    · have hq : ((V.tv (V.cv c).cu.toNat).cp == (c : Int)) = false := by simp [hcp]
      rw [hq]; simp
  · have hq : ((V.tv (V.cv c).cu.toNat).st == 1) = false := by simp [hs]
    rw [hq]; simp
theorem worldEq (V : WV) : worldI V = worldS V := by
  unfold worldI worldS
  cases hsh : shapeB V
  · simp only [Bool.false_and]
  have htr : treeV V = true := by simp only [shapeB, Bool.and_eq_true] at hsh; exact hsh.2
  have T := Tree.of htr
  simp only [Bool.true_and]
  rw [groups_eq V T]
  cases hgs : allTo (groupS V) V.gn
  · simp only [Bool.false_and]
  have hG : allTo (groupI V) V.gn = true := by
    have := groups_eq V T
    rw [hgs, Bool.and_eq_true] at this
    exact this.1
  simp only [Bool.true_and]
  cases hh : allTo (fun g => allTo (numH V g) (V.gv g).sn) V.gn
  · have : allTo (fun g => allTo (shelfS V g) (V.gv g).sn) V.gn = false := by
      cases e : allTo (fun g => allTo (shelfS V g) (V.gv g).sn) V.gn
      · rfl
      · exfalso
        rw [Bool.eq_false_iff] at hh
        apply hh
        rw [allTo_iff] at e ⊢
        intro g hg
        have := e g hg
        rw [allTo_iff] at this ⊢
        intro c hc
        have := this c hc
        simp only [shelfS, Bool.and_eq_true] at this
        exact this.1
    simp only [this, Bool.false_and, Bool.and_false]
  have A : AllH V := fun g hg gu c hc => by
    have := allTo_iff.1 (allTo_iff.1 hh g hg) c (by rw [sn_of hG hg, gu]; exact hc)
    exact this
  rw [allTo_congr (fun t _ => task_eq V A t), shelves_eq V T hG A, allTo_congr (fun c _ => cpu_eq V c)]
  simp only [Bool.true_and]
end Go.Proofs.YtndbmeedimhohaaGreat

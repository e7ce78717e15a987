/- Domains: the law's facts, for every drawn number: plain. -/
import Derived.Test.YtipopjkikahjpabS6Base
namespace Go.Proofs.Ytipopjkikahjpab
def rng (lo : Int) (n : Nat) : List Int := (List.range n).map fun (i : Nat) => lo + (i : Int)
theorem mem_rng {lo x : Int} {n : Nat} (h1 : lo ≤ x) (h2 : x < lo + n) : x ∈ rng lo n := by
  unfold rng
  rw [List.mem_map]
  exact ⟨(x - lo).toNat, List.mem_range.2 (by omega), by omega⟩
/-- What the law asks at level i of n, a, b. -/
def domFact (n a b i : Int) : Bool :=
  let k := domainNear n a b
  let s := domainSpan n a i
  let t := domainSpan n b i
  (!decide (0 ≤ k) || (decide (k ≤ i) == (s == t))) && (!(decide (0 ≤ k) && decide (i < k)) || maskAnd s t == 0) &&
  (!(decide (0 ≤ a) && decide (a < n)) || (maskHas s a && (!decide (i + 1 < levels n) || maskAnd s (domainSpan n a (i + 1)) == s) && (!decide (i + 1 = levels n) || maskCount s == n)))
def domAll : Bool := (rng (-1) 7).all fun n => (rng (-1) 6).all fun a => (rng (-1) 6).all fun b => (domainNear n a b == domainNear n b a) && (rng 0 2).all fun i => !decide (i < levels n) || domFact n a b i
theorem domAll_t : domAll = true := by decide +kernel
theorem dom_sym {n a b : Int} (n0 : -1 ≤ n) (n1 : n ≤ 5) (a0 : -1 ≤ a) (a1 : a ≤ 4) (b0 : -1 ≤ b) (b1 : b ≤ 4) : domainNear n a b = domainNear n b a := by
  have h := domAll_t
  unfold domAll at h
  have h1 := List.all_eq_true.1 h n (mem_rng n0 (by omega))
  have h2 := List.all_eq_true.1 h1 a (mem_rng a0 (by omega))
  have h3 := List.all_eq_true.1 h2 b (mem_rng b0 (by omega))
  rw [Bool.and_eq_true] at h3
  exact eq_of_beq h3.1
theorem dom_at {n a b i : Int} (n0 : -1 ≤ n) (n1 : n ≤ 5) (a0 : -1 ≤ a) (a1 : a ≤ 4) (b0 : -1 ≤ b) (b1 : b ≤ 4) (i0 : 0 ≤ i) (i1 : i ≤ 1) (hi : i < levels n) : domFact n a b i = true := by
  have h := domAll_t
  unfold domAll at h
  have h1 := List.all_eq_true.1 h n (mem_rng n0 (by omega))
  have h2 := List.all_eq_true.1 h1 a (mem_rng a0 (by omega))
  have h3 := List.all_eq_true.1 h2 b (mem_rng b0 (by omega))
  rw [Bool.and_eq_true] at h3
  have h4 := List.all_eq_true.1 h3.2 i (mem_rng i0 (by omega))
  simpa [hi] using h4
/-- The same in words. -/
theorem dom_facts {n a b i : Int} (h : domFact n a b i = true) :
    (0 ≤ domainNear n a b → (decide (domainNear n a b ≤ i) = (domainSpan n a i == domainSpan n b i))) ∧ (0 ≤ domainNear n a b → i < domainNear n a b → maskAnd (domainSpan n a i) (domainSpan n b i) = 0) ∧
    (0 ≤ a → a < n → maskHas (domainSpan n a i) a = true ∧ (i + 1 < levels n → maskAnd (domainSpan n a i) (domainSpan n a (i + 1)) = domainSpan n a i) ∧ (i + 1 = levels n → maskCount (domainSpan n a i) = n)) := by
  unfold domFact at h
  simp only [Bool.and_eq_true, Bool.or_eq_true, Bool.not_eq_true', decide_eq_true_eq, decide_eq_false_iff_not, beq_iff_eq, Bool.and_eq_false_imp] at h
  obtain ⟨⟨h1, h2⟩, h3⟩ := h
  refine ⟨fun hk => ?_, fun hk hi => ?_, fun ha hb => ?_⟩
  · rcases h1 with h1 | h1
    · omega
    · exact h1
  · rcases h2 with h2 | h2
    · exact absurd hi (h2 hk)
    · exact h2
  · rcases h3 with h3 | h3
    · exact absurd hb (h3 ha)
    · obtain ⟨⟨g1, g2⟩, g3⟩ := h3
      refine ⟨g1, fun hl => ?_, fun hl => ?_⟩
      · rcases g2 with g2 | g2
        · omega
        · exact g2
      · rcases g3 with g3 | g3
        · omega
        · exact g3
end Go.Proofs.Ytipopjkikahjpab

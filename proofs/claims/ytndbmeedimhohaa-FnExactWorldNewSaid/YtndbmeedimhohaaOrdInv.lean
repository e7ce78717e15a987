/- Regions whose order is drawn, by an invariant: each operation is walked once, not once for each order. -/
import Derived.Orders
import Derived.RegionTactic
namespace Go.Proofs.Ytndbmeedimhohaa
open Go
section
variable {P : Program} {ops : Array Oper} {Q : Exit → Act → World → Prop} {md : Region.Mode}
theorem count_put {listed : Array Bool} {i : Nat} (h : listed.getD i true = false) : (listed.setIfInBounds i true).toList.count false + 1 = listed.toList.count false := by
  have hlt : i < listed.size := by
    rcases Nat.lt_or_ge i listed.size with h' | h'
    · exact h'
    · simp [Array.getElem?_eq_none h'] at h
  have hv : listed.toList[i]'(by simpa using hlt) = false := by simpa [hlt] using h
  rw [Array.toList_setIfInBounds, List.count_set (by simpa using hlt)]
  have hm : 0 < listed.toList.count false := List.count_pos_iff.2 (hv ▸ List.getElem_mem _)
  rw [hv]
  simp only [beq_self_eq_true, if_true, Bool.true_eq_false, if_false, beq_iff_eq]
  omega
theorem wpAny_inv (I : Array Bool → Act → World → Prop)
    (hstep : ∀ listed a w, I listed a w → ∀ i, i ∈ Region.ready md ops listed → wpOp P ops Q i (fun a' w' => I (listed.setIfInBounds i true) a' w') a w)
    (hend : ∀ listed a w, I listed a w → Region.ready md ops listed = [] → Q .normal a w) :
    ∀ (fuel : Nat) (listed : Array Bool) (a : Act) (w : World), I listed a w → listed.toList.count false ≤ fuel → wpAny P md ops Q fuel listed a w
  | 0, listed, a, w, h, hf => by
    have hr : Region.ready md ops listed = [] := by
      cases hh : Region.ready md ops listed with
      | nil => rfl
      | cons x xs =>
        have hx : x ∈ Region.ready md ops listed := by rw [hh]; exact List.mem_cons_self ..
        have := count_put (mem_ready.1 hx).1
        omega
    exact ⟨hr, hend listed a w h hr⟩
  | fuel + 1, listed, a, w, h, hf =>
    ⟨fun hr => hend listed a w h hr, fun i hi => wpOp_mono (fun a' w' h' => wpAny_inv I hstep hend fuel _ a' w' h' (by have := count_put (mem_ready.1 hi).1; omega)) (hstep listed a w h i hi)⟩
end
end Go.Proofs.Ytndbmeedimhohaa

/- Trees: what TreeOk, TreeDepth, TreePath, TreeFind, TreeKids compute: no program in sight. -/
import Derived.Test.YtclloljigdmdnaaS1Plain
namespace Go.Proofs.Ytclloljigdmdnaa

/-- A number is a slot in use. -/
def usedB (u : Nat → Bool) (n : Nat) (g : Int) : Bool := decide (0 ≤ g) && decide (g < n) && u g.toNat
theorem usedB_iff {u : Nat → Bool} {n : Nat} {g : Int} : usedB u n g = true ↔ 0 ≤ g ∧ g < n ∧ u g.toNat = true := by simp [usedB, and_assoc]
theorem usedB_nat {u : Nat → Bool} {n k : Nat} (hk : k < n) : usedB u n k = u k := by simp [usedB, hk]
/-- How many steps lead to the root; -1 if none do within so many looks. -/
def dep (u : Nat → Bool) (p : Nat → Int) (n : Nat) : Nat → Int → Int
  | 0, _ => -1
  | k + 1, g => if usedB u n g then (if g = 0 then 0 else if dep u p n k (p g.toNat) < 0 then -1 else dep u p n k (p g.toNat) + 1) else -1
section
variable {u : Nat → Bool} {p : Nat → Int} {n : Nat}
theorem dep_lt : ∀ (k : Nat) (g : Int), dep u p n k g < k ∧ -1 ≤ dep u p n k g
  | 0, g => by simp [dep]
  | k + 1, g => by
    have := dep_lt k (p g.toNat)
    unfold dep
    split
    · split
      · omega
      · split <;> omega
    · omega
theorem dep_stable : ∀ (k : Nat) (g : Int), 0 ≤ dep u p n k g → ∀ j : Nat, dep u p n k g < j → dep u p n j g = dep u p n k g
  | 0, g, h, _, _ => by simp [dep] at h
  | k + 1, g, h, 0, hj => by omega
  | k + 1, g, h, j + 1, hj => by
    unfold dep at h hj ⊢
    split
    · rename_i hu
      simp only [hu, if_true] at h hj
      split
      · rfl
      · rename_i hg
        simp only [hg, if_false] at h hj
        by_cases hd : dep u p n k (p g.toNat) < 0
        · simp only [hd, if_true] at h
          omega
        · simp only [hd, if_false] at h hj ⊢
          have := dep_stable k (p g.toNat) (by omega) j (by omega)
          rw [this, if_neg hd]
    · rename_i hu
      simp [hu] at h
theorem dep_zero (hu : usedB u n 0 = true) (k : Nat) (hk : 0 < k) : dep u p n k 0 = 0 := by
  obtain ⟨j, rfl⟩ : ∃ j, k = j + 1 := ⟨k - 1, by omega⟩
  simp [dep, hu]
theorem dep_unused {g : Int} (hu : usedB u n g = false) (k : Nat) : dep u p n k g = -1 := by
  cases k <;> simp [dep, hu]
theorem dep_step {g : Int} (hu : usedB u n g = true) (hg : g ≠ 0) (k : Nat) : dep u p n (k + 1) g = if dep u p n k (p g.toNat) < 0 then -1 else dep u p n k (p g.toNat) + 1 := by
  simp [dep, hu, hg]
/-- A depth of at most three is seen in four looks. -/
theorem dep_four (m : Nat) (hm : 4 ≤ m) (g : Int) : (0 ≤ dep u p n m g ∧ dep u p n m g ≤ 3) ↔ 0 ≤ dep u p n 4 g := by
  constructor
  · rintro ⟨h1, h2⟩
    rw [dep_stable m g h1 4 (by omega)]
    exact h1
  · intro h
    have h4 := (dep_lt (u := u) (p := p) (n := n) 4 g).1
    rw [dep_stable 4 g h m (by omega)]
    omega
theorem dep_four_eq (m : Nat) (hm : 4 ≤ m) (g : Int) (h : 0 ≤ dep u p n 4 g) : dep u p n m g = dep u p n 4 g := dep_stable 4 g h m (by have := (dep_lt (u := u) (p := p) (n := n) 4 g).1; omega)
theorem dep_parent {g : Int} (hg : g ≠ 0) {k : Nat} (h : 0 ≤ dep u p n (k + 1) g) : usedB u n g = true ∧ 0 ≤ dep u p n k (p g.toNat) ∧ usedB u n (p g.toNat) = true := by
  have hu : usedB u n g = true := by
    cases hh : usedB u n g
    · rw [dep_unused hh] at h; omega
    · rfl
  rw [dep_step hu hg] at h
  have h2 : 0 ≤ dep u p n k (p g.toNat) := by
    split at h <;> omega
  refine ⟨hu, h2, ?_⟩
  cases hh : usedB u n (p g.toNat)
  · rw [dep_unused hh] at h2; omega
  · rfl
end

/-- Another slot ahead of this one has the same parent and name. -/
def twinB (u : Nat → Bool) (p : Nat → Int) (nm : Nat → ByteArray) (g : Nat) : Bool := (List.range g).any fun h => decide (1 ≤ h) && u h && decide (p h = p g) && decide (nm h = nm g)
def rootB (u : Nat → Bool) (p : Nat → Int) (nm : Nat → ByteArray) (n : Nat) : Bool := decide (n = 8) && u 0 && decide (p 0 = -1) && decide (nm 0 = ByteArray.empty)
/-- What the reference asks of slot g. -/
def slotB (ok : ByteArray → Bool) (u : Nat → Bool) (p : Nat → Int) (nm : Nat → ByteArray) (n g : Nat) : Bool :=
  !u g || (ok (nm g) && inR (dep u p n (n + 1) g) 1 3 && !twinB u p nm g)
def treeOk (ok : ByteArray → Bool) (u : Nat → Bool) (p : Nat → Int) (nm : Nat → ByteArray) (n : Nat) : Bool :=
  rootB u p nm n && (List.range n).all fun g => decide (g = 0) || slotB ok u p nm n g
/-- What the program asks of slot g as it links it. -/
def linkB (ok : ByteArray → Bool) (u : Nat → Bool) (p : Nat → Int) (nm : Nat → ByteArray) (n g : Nat) : Bool :=
  !u g || (ok (nm g) && usedB u n (p g) && !twinB u p nm g)
section
variable {ok : ByteArray → Bool} {u : Nat → Bool} {p : Nat → Int} {nm : Nat → ByteArray} {n : Nat}
theorem treeOk_root (h : rootB u p nm n = false) : treeOk ok u p nm n = false := by simp [treeOk, h]
theorem treeOk_slot {g : Nat} (h0 : 1 ≤ g) (hg : g < n) (h : slotB ok u p nm n g = false) : treeOk ok u p nm n = false := by
  unfold treeOk
  cases hr : rootB u p nm n
  · rfl
  · rw [Bool.true_and, List.all_eq_false]
    exact ⟨g, List.mem_range.2 hg, by simp [h, show g ≠ 0 by omega]⟩
theorem treeOk_all (hr : rootB u p nm n = true) (h : ∀ g, 1 ≤ g → g < n → slotB ok u p nm n g = true) : treeOk ok u p nm n = true := by
  unfold treeOk
  rw [hr, Bool.true_and, List.all_eq_true]
  intro g hg
  rw [List.mem_range] at hg
  by_cases e : g = 0
  · simp [e]
  · simp [h g (by omega) hg]
theorem treeOk_spec (h : treeOk ok u p nm n = true) : rootB u p nm n = true ∧ ∀ g, 1 ≤ g → g < n → slotB ok u p nm n g = true := by
  unfold treeOk at h
  rw [Bool.and_eq_true, List.all_eq_true] at h
  refine ⟨h.1, fun g h1 h2 => ?_⟩
  have := h.2 g (List.mem_range.2 h2)
  simpa [show g ≠ 0 by omega] using this
theorem rootB_iff : rootB u p nm n = true ↔ n = 8 ∧ u 0 = true ∧ p 0 = -1 ∧ nm 0 = ByteArray.empty := by simp [rootB, and_assoc]
theorem twinB_of {g h : Nat} (h1 : 1 ≤ h) (h2 : h < g) (h3 : u h = true) (h4 : p h = p g) (h5 : nm h = nm g) : twinB u p nm g = true := by
  unfold twinB
  rw [List.any_eq_true]
  exact ⟨h, List.mem_range.2 h2, by simp [h1, h3, h4, h5]⟩
theorem twinB_not {g : Nat} (h : ∀ h, 1 ≤ h → h < g → ¬ (u h = true ∧ p h = p g ∧ nm h = nm g)) : twinB u p nm g = false := by
  unfold twinB
  rw [List.any_eq_false]
  intro k hk
  rw [List.mem_range] at hk
  intro hh
  simp only [Bool.and_eq_true, decide_eq_true_eq] at hh
  exact h k hh.1.1.1 hk ⟨hh.1.1.2, hh.1.2, hh.2⟩
/-- A slot whose link fails: no tree. -/
theorem treeOk_link {g : Nat} (h0 : 1 ≤ g) (hg : g < n) (h : linkB ok u p nm n g = false) : treeOk ok u p nm n = false := by
  refine treeOk_slot h0 hg ?_
  unfold linkB at h
  unfold slotB
  cases hu : u g
  · simp [hu] at h
  · simp only [hu, Bool.not_true, Bool.false_or] at h ⊢
    cases ho : ok (nm g)
    · rfl
    · cases ht : twinB u p nm g
      · simp only [ho, ht, Bool.true_and, Bool.not_false, Bool.and_true] at h ⊢
        have hg' : usedB u n (g : Int) = true := by rw [usedB_nat hg]; exact hu
        rw [dep_step hg' (by omega), Int.toNat_natCast, dep_unused h]
        rfl
      · simp
/-- All links stand, a used slot is too deep: no tree. -/
theorem treeOk_deep {g : Nat} (hg : g < n) (hu : u g = true) (h : dep u p n 4 g < 0) (hn : n = 8) : treeOk ok u p nm n = false := by
  by_cases e : g = 0
  · subst e
    have : usedB u n ((0 : Nat) : Int) = true := by rw [usedB_nat hg]; exact hu
    have h2 := dep_zero (p := p) this 4 (by omega)
    have e2 : ((0 : Nat) : Int) = 0 := rfl
    rw [e2] at h
    omega
  · refine treeOk_slot (by omega) hg ?_
    unfold slotB
    have : inR (dep u p n (n + 1) g) 1 3 = false := by
      refine inR_f (fun hh => ?_)
      have := (dep_four (u := u) (p := p) (n := n) (n + 1) (by omega) g).1 ⟨by omega, hh.2⟩
      omega
    simp [hu, this]
theorem treeOk_links (hr : rootB u p nm n = true) (hl : ∀ g, 1 ≤ g → g < n → linkB ok u p nm n g = true) (hd : ∀ g, g < n → u g = true → 0 ≤ dep u p n 4 g) : treeOk ok u p nm n = true := by
  have hn := (rootB_iff.1 hr).1
  refine treeOk_all hr (fun g h1 h2 => ?_)
  have := hl g h1 h2
  unfold linkB at this
  unfold slotB
  cases hu : u g
  · rfl
  · simp only [hu, Bool.not_true, Bool.false_or, Bool.and_eq_true] at this ⊢
    refine ⟨⟨this.1.1, ?_⟩, this.2⟩
    have hdg := hd g h2 hu
    obtain ⟨d1, d2⟩ := (dep_four (u := u) (p := p) (n := n) (n + 1) (by omega) g).2 hdg
    refine inR_t ?_ d2
    obtain ⟨hu2, h3, _⟩ := dep_parent (u := u) (p := p) (n := n) (g := (g : Int)) (by omega) hdg
    rw [dep_four_eq (n + 1) (by omega) _ hdg, dep_step hu2 (by omega), if_neg (by omega)]
    omega
/-- In a tree every used slot has a depth of at most three. -/
theorem treeOk_dep (h : treeOk ok u p nm n = true) {g : Nat} (hg : g < n) (hu : u g = true) : 0 ≤ dep u p n 4 g := by
  obtain ⟨hr, hs⟩ := treeOk_spec h
  have hn := (rootB_iff.1 hr).1
  by_cases e : g = 0
  · subst e
    have h2 : usedB u n ((0 : Nat) : Int) = true := by rw [usedB_nat hg]; exact hu
    have := dep_zero (p := p) h2 4 (by omega)
    show 0 ≤ dep u p n 4 ((0 : Nat) : Int)
    rw [show ((0 : Nat) : Int) = 0 from rfl, this]
    omega
  · have := hs g (by omega) hg
    unfold slotB at this
    simp only [hu, Bool.not_true, Bool.false_or, Bool.and_eq_true] at this
    obtain ⟨h1, h2⟩ := inR_iff.1 this.1.2
    exact (dep_four (n + 1) (by omega) _).1 ⟨by omega, h2⟩
end
def treeDepth (ok : ByteArray → Bool) (u : Nat → Bool) (p : Nat → Int) (nm : Nat → ByteArray) (n : Nat) (g : Int) : Int :=
  if treeOk ok u p nm n && usedB u n g then dep u p n 4 g else -1
/-- The text of a slot's place below the root. -/
def pathUp (p : Nat → Int) (nm : Nat → ByteArray) : Nat → Int → ByteArray
  | 0, _ => ByteArray.empty
  | k + 1, g => if g = 0 then ByteArray.empty else pathUp p nm k (p g.toNat) ++ ⟨#[47]⟩ ++ nm g.toNat
def treePath (ok : ByteArray → Bool) (u : Nat → Bool) (p : Nat → Int) (nm : Nat → ByteArray) (n : Nat) (g : Int) : ByteArray :=
  if treeOk ok u p nm n && usedB u n g then (if g = 0 then ⟨#[47]⟩ else pathUp p nm 4 g) else ByteArray.empty
end Go.Proofs.Ytclloljigdmdnaa

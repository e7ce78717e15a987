/- Opening arguments: a slice of structs as a function of the index. -/
import Derived.Test.YtclloljigdmdnaaOpen
import Derived.Test.YtclloljigdmdnaaMem3
namespace Go.Proofs.Ytclloljigdmdnaa
open Go.ChangeShapes Go.WideShapes Go.ChangeAt Go.RowKit Go.Deep
section
variable {H : Type} {enc : TypeId × Value → H} {P : Program} {w : World} {base : Nat} {spare : Nat → Bool} {held : Bool}
theorem Addr_add_none (b o j : Nat) : (⟨b, o, none⟩ : Addr).add j = ⟨b, o + j, none⟩ := by unfold Addr.add; split <;> simp_all
/-- A slice whose elements are sz cells each, read as el. -/
theorem open_rows {t e : TypeId} {sz fuel : Nat} {v : Value} {x : DataW H × List MemPlace} {α : Type} {el : α → List Value} [Inhabited α] (ht : P.underlying t = some (.slice e)) (hc : P.cellsOf e = sz) (h0 : 0 < sz)
    (hg : ∀ (n : Nat) (cs : List Value) (y : DataW H × List MemPlace), cs.length = sz → DataW.trod enc P w base spare held n e cs = some y → ∃ a, cs = el a) (h : DataW.trod enc P w base spare held fuel t [v] = some x) :
    ∃ (A : Option Addr) (n c : Nat) (f : Nat → α), v = .slice A n c ∧ (n : Int) ≤ 9223372036854775807 ∧ Rs w w.heap.size A n sz (fun i => el (f i)) := by
  rcases open_slice ht h with ⟨hcs, _⟩ | ⟨a, len, cap, m, n, D, Pl, hcs, _, hl, hm, hmm, _, hV⟩
  · obtain rfl : v = .slice none 0 0 := by simpa using hcs
    exact ⟨none, 0, 0, fun _ => default, rfl, by omega, fun h => absurd h (by omega)⟩
  · obtain rfl : v = .slice (some a) len cap := by simpa using hcs
    unfold maxLen at hm
    have hlm : len ≤ m := by rw [hmm]; split <;> omega
    have hex : ∀ i, i < len → ∃ z : α, (el z).length = sz ∧ ∀ j, j < sz → w.cell? ((a.add (i * sz)).add j) = (el z)[j]? := fun i hi => by
      obtain ⟨cs', h1, h2⟩ := hV i (by omega)
      rw [hc] at h1
      obtain ⟨_, hlen, hcell⟩ := World.cells?_some h1
      obtain ⟨z, hz⟩ := hg n cs' _ hlen h2
      subst hz
      exact ⟨z, hlen, hcell⟩
    obtain ⟨f, hf⟩ := choose_lt (α := α) (n := len) (p := fun i z => (el z).length = sz ∧ ∀ j, j < sz → w.cell? ((a.add (i * sz)).add j) = (el z)[j]?) hex
    refine ⟨some a, len, cap, f, rfl, by omega, fun hp => ?_⟩
    obtain ⟨hl0, hc0⟩ := hf 0 hp
    have h00 : w.cell? ((a.add (0 * sz)).add 0) = some ((el (f 0))[0]'(by omega)) := by rw [hc0 0 h0]; exact List.getElem?_eq_getElem (by omega)
    have hsp : a.spot = none := by simpa [Addr.add] using World.cell?_spot h00
    have hb : a.block < w.heap.size := by simpa [Addr.add] using block_lt h00
    obtain ⟨b, o, s⟩ := a
    simp only at hsp hb
    subst hsp
    refine ⟨b, o, rfl, hb, fun i hi j u hu => ?_⟩
    obtain ⟨hl1, hc1⟩ := hf i hi
    have hj : j < sz := Nat.lt_of_lt_of_eq (List.getElem?_eq_some_iff.1 hu).1 hl1
    have := hc1 j hj
    rw [Addr_add_none, Addr_add_none] at this
    rw [this]
    exact hu
end
end Go.Proofs.Ytclloljigdmdnaa

/-
  Opening arguments: a slice of one-cell elements as a function of the index; a struct field by field.
-/
import Derived.Test.YtfckhpkebdpkbaaPlayL3
import Derived.ProofKit
import Derived.OpenShut
import Derived.ShutString
import Derived.ChangeOld
import Derived.Deep.Slices
import Derived.Deep.Fields
import Derived.ChangeSame
namespace Go.Proofs.Ytfckhpkebdpkbaa
open Go.ChangeShapes Go.WideShapes Go.ChangeAt Go.RowKit Go.Deep
section
variable {H : Type} {enc : TypeId × Value → H} {P : Program} {w : World} {base : Nat} {spare : Nat → Bool} {held : Bool}
theorem block_lt {w : World} {a : Addr} {v : Value} (h : w.cell? a = some v) : a.block < w.heap.size := by
  by_cases hl : a.block < w.heap.size
  · exact hl
  · unfold World.cell? at h
    have hn : w.heap[a.block]? = none := Array.getElem?_eq_none (by omega)
    rw [hn] at h
    split at h <;> simp_all
/-- A slice whose elements are one cell each, read as g. -/
theorem open_row {t e : TypeId} {fuel : Nat} {v : Value} {x : DataW H × List MemPlace} {α : Type} {g : α → Value} [Inhabited α] (ht : P.underlying t = some (.slice e)) (hc : P.cellsOf e = 1)
    (hg : ∀ (n : Nat) (u : Value) (y : DataW H × List MemPlace), DataW.trod enc P w base spare held n e [u] = some y → ∃ a, u = g a) (h : DataW.trod enc P w base spare held fuel t [v] = some x) :
    ∃ (A : Option Addr) (n c : Nat) (f : Nat → α), v = .slice A n c ∧ (n : Int) ≤ 9223372036854775807 ∧ Rw w w.heap.size A n (fun i => g (f i)) := by
  rcases open_slice1 ht hc h with ⟨hcs, _⟩ | ⟨a, len, cap, m, n, V, D, Pl, hcs, _, hl, hm, hmm, _, hV⟩
  · obtain rfl : v = .slice none 0 0 := by simpa using hcs
    exact ⟨none, 0, 0, fun _ => default, rfl, by omega, fun h => absurd h (by omega)⟩
  · obtain rfl : v = .slice (some a) len cap := by simpa using hcs
    unfold maxLen at hm
    have hlm : len ≤ m := by rw [hmm]; split <;> omega
    have hex : ∀ i, i < len → ∃ z, w.cell? (a.add i) = some (g z) := fun i hi => by
      obtain ⟨h1, h2⟩ := hV i (by omega)
      obtain ⟨z, hz⟩ := hg n _ _ h2
      exact ⟨z, by rw [h1, hz]⟩
    obtain ⟨f, hf⟩ := choose_lt (α := α) (n := len) (p := fun i z => w.cell? (a.add i) = some (g z)) hex
    refine ⟨some a, len, cap, f, rfl, by omega, fun h0 => ?_⟩
    have h00 := hf 0 h0
    have hsp : a.spot = none := by simpa [Addr.add] using World.cell?_spot h00
    have hb : a.block < w.heap.size := by simpa [Addr.add] using block_lt h00
    obtain ⟨b, o, s⟩ := a
    simp only at hsp hb
    subst hsp
    refine ⟨b, o, rfl, hb, fun i hi => ?_⟩
    have := hf i hi
    by_cases hi0 : i = 0
    · subst hi0; simpa [Addr.add] using this
    · simpa [Addr.add, hi0] using this
theorem open_ints1 {t e : TypeId} {fuel : Nat} {v : Value} {x : DataW H × List MemPlace} (ht : P.underlying t = some (.slice e)) (hc : P.cellsOf e = 1) (he : P.underlying e = some (.int .i64)) (h : DataW.trod enc P w base spare held fuel t [v] = some x) :
    ∃ (A : Option Addr) (n c : Nat) (f : Nat → Int), v = .slice A n c ∧ (n : Int) ≤ 9223372036854775807 ∧ Rw w w.heap.size A n (fun i => .int .i64 (f i)) :=
  open_row (g := fun z : Int => Value.int .i64 z) ht hc (fun n u y hu => by
    obtain ⟨z, hz, _⟩ := DataW.trod_int he hu
    exact ⟨z, by simpa using hz⟩) h
theorem open_bools1 {t e : TypeId} {fuel : Nat} {v : Value} {x : DataW H × List MemPlace} (ht : P.underlying t = some (.slice e)) (hc : P.cellsOf e = 1) (he : P.underlying e = some .bool) (h : DataW.trod enc P w base spare held fuel t [v] = some x) :
    ∃ (A : Option Addr) (n c : Nat) (f : Nat → Bool), v = .slice A n c ∧ (n : Int) ≤ 9223372036854775807 ∧ Rw w w.heap.size A n (fun i => .bool (f i)) :=
  open_row (g := fun z : Bool => Value.bool z) ht hc (fun n u y hu => by
    obtain ⟨z, hz, _⟩ := DataW.trod_bool he hu
    exact ⟨z, by simpa using hz⟩) h
/-- A field of a struct: its own cells read. -/
theorem open_field {t : TypeId} {fs : Array Field} {fuel : Nat} {cs : List Value} {x : DataW H × List MemPlace} (ht : P.underlying t = some (.struct fs)) (h : DataW.trod enc P w base spare held fuel t cs = some x) :
    ∃ n, ∀ (j : Nat) (f : Field), fs[j]? = some f → ∀ (ty : TypeId) (off sz : Nat), f.type = ty → f.offset = off → P.cellsOf ty = sz → ∃ y, DataW.trod enc P w base spare held n ty ((cs.drop off).take sz) = some y := by
  obtain ⟨xs, n, _, _, _, hlen, hf⟩ := DataW.trod_struct ht h
  refine ⟨n, fun j f hj ty off sz h1 h2 h3 => ?_⟩
  have hjl : j < fs.size := (Array.getElem?_eq_some_iff.1 hj).1
  refine ⟨xs[j]'(by omega), ?_⟩
  subst h1 h2 h3
  rw [hf j f hj]
  exact List.getElem?_eq_getElem (by omega)
end
end Go.Proofs.Ytfckhpkebdpkbaa

/- Opening arguments: a slice of structs as a function of the index. -/
namespace Go.Proofs.Ytfckhpkebdpkbaa
open Go.ChangeShapes Go.WideShapes Go.ChangeAt Go.RowKit Go.Deep
section
variable {H : Type} {enc : TypeId × Value → H} {P : Program} {w : World} {base : Nat} {spare : Nat → Bool} {held : Bool}
theorem Addr_add_none (b o j : Nat) : (⟨b, o, none⟩ : Addr).add j = ⟨b, o + j, none⟩ := by unfold Addr.add; split <;> simp_all
/-- A slice whose elements are sz cells each, read as el. -/
theorem open_rows {t e : TypeId} {sz fuel : Nat} {v : Value} {x : DataW H × List MemPlace} {α : Type} {el : α → List Value} [Inhabited α] (ht : P.underlying t = some (.slice e)) (hc : P.cellsOf e = sz) (h0 : 0 < sz)
    (hg : ∀ (n : Nat) (cs : List Value) (y : DataW H × List MemPlace), cs.length = sz → DataW.trod enc P w base spare held n e cs = some y → ∃ a, cs = el a) (h : DataW.trod enc P w base spare held fuel t [v] = some x) :
    ∃ (A : Option Addr) (n c : Nat) (f : Nat → α), v = .slice A n c ∧ (n : Int) ≤ 9223372036854775807 ∧ Rs w w.heap.size A n sz (fun i => el (f i)) := by
  rcases open_slice ht h with ⟨hcs, _⟩ | ⟨a, len, cap, m, n, D, Pl, hcs, _, hl, hm, hmm, _, hV⟩
  · obtain rfl : v = .slice none 0 0 := by simpa using hcs
    exact ⟨none, 0, 0, fun _ => default, rfl, by omega, fun h => absurd h (by omega)⟩
  · obtain rfl : v = .slice (some a) len cap := by simpa using hcs
    unfold maxLen at hm
    have hlm : len ≤ m := by rw [hmm]; split <;> omega
    have hex : ∀ i, i < len → ∃ z : α, (el z).length = sz ∧ ∀ j, j < sz → w.cell? ((a.add (i * sz)).add j) = (el z)[j]? := fun i hi => by
      obtain ⟨cs', h1, h2⟩ := hV i (by omega)
      rw [hc] at h1
      obtain ⟨_, hlen, hcell⟩ := World.cells?_some h1
      obtain ⟨z, hz⟩ := hg n cs' _ hlen h2
      subst hz
      exact ⟨z, hlen, hcell⟩
    obtain ⟨f, hf⟩ := choose_lt (α := α) (n := len) (p := fun i z => (el z).length = sz ∧ ∀ j, j < sz → w.cell? ((a.add (i * sz)).add j) = (el z)[j]?) hex
    refine ⟨some a, len, cap, f, rfl, by omega, fun hp => ?_⟩
    obtain ⟨hl0, hc0⟩ := hf 0 hp
    have h00 : w.cell? ((a.add (0 * sz)).add 0) = some ((el (f 0))[0]'(by omega)) := by rw [hc0 0 h0]; exact List.getElem?_eq_getElem (by omega)
    have hsp : a.spot = none := by simpa [Addr.add] using World.cell?_spot h00
    have hb : a.block < w.heap.size := by simpa [Addr.add] using block_lt h00
    obtain ⟨b, o, s⟩ := a
    simp only at hsp hb
    subst hsp
    refine ⟨b, o, rfl, hb, fun i hi j u hu => ?_⟩
    obtain ⟨hl1, hc1⟩ := hf i hi
    have hj : j < sz := Nat.lt_of_lt_of_eq (List.getElem?_eq_some_iff.1 hu).1 hl1
    have := hc1 j hj
    rw [Addr_add_none, Addr_add_none] at this
    rw [this]
    exact hu
end
end Go.Proofs.Ytfckhpkebdpkbaa

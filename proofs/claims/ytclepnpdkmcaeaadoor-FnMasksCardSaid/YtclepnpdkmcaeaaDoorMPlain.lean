/- Masks: the text of a set, plainly. -/
import Derived.Test.YtclepnpdkmcaeaaDoorS1Plain
namespace Go.Proofs.YtclepnpdkmcaeaaDoor
theorem bm_assoc (a b c : ByteArray) : a ++ b ++ c = a ++ (b ++ c) := by
  apply ByteArray.ext
  simp [ByteArray.data_append]
theorem bm_empty (a : ByteArray) : (⟨#[]⟩ : ByteArray) ++ a = a := by
  apply ByteArray.ext
  simp [ByteArray.data_append]
/-- The last of a run that e is in. -/
def lastE (m e : Int) : Int := if maskHas m (e + 1) then (if maskHas m (e + 2) then (if maskHas m (e + 3) then e + 3 else e + 2) else e + 1) else e
theorem has_high {m c : Int} (h : 4 ≤ c) : maskHas m c = false := maskHas_no2 m c (by unfold inR; simp; omega)
theorem has_le {m c : Int} (h : maskHas m c = true) : 0 ≤ c ∧ c ≤ 3 := by
  cases e : inR c 0 3
  · rw [maskHas_no2 m c e] at h
    cases h
  · exact inR_iff.1 e
theorem lastE_no {m e : Int} (h : maskHas m (e + 1) = false) : lastE m e = e := by simp [lastE, h]
theorem lastE_go {m e : Int} (h0 : 0 ≤ e) (h : maskHas m (e + 1) = true) : lastE m (e + 1) = lastE m e := by
  unfold lastE
  rw [h, show e + 1 + 1 = e + 2 by omega, show e + 1 + 2 = e + 3 by omega, show e + 1 + 3 = e + 4 by omega, has_high (m := m) (c := e + 4) (by omega)]
  cases maskHas m (e + 2) <;> cases maskHas m (e + 3) <;> simp
theorem lastE_b {m e : Int} (h0 : 0 ≤ e) (h1 : e ≤ 3) : e ≤ lastE m e ∧ lastE m e ≤ 3 := by
  unfold lastE
  split
  · next h => 
    have := has_le h
    split
    · next h => 
      have := has_le h
      split
      · next h => 
        have := has_le h
        omega
      · omega
    · omega
  · omega
/-- The digit of a processor. -/
def digM (c : Int) : ByteArray := ⟨#[UInt8.ofNat (48 + c).toNat]⟩
/-- The text of a run. -/
def pieceB (m c : Int) : ByteArray := if c < lastE m c then digM c ++ (⟨#[45]⟩ ++ digM (lastE m c)) else digM c
/-- A run starts here. -/
def startB (m c : Int) : Bool := maskHas m c && !maskHas m (c - 1)
/-- The text of the runs that start below k. -/
def sB (m : Int) : Nat → ByteArray
  | 0 => ⟨#[]⟩
  | k + 1 => if startB m k then (if sB m k = ⟨#[]⟩ then ⟨#[]⟩ else sB m k ++ ⟨#[44]⟩) ++ pieceB m k else sB m k
/-- The text of a set. -/
def maskText (m : Int) : ByteArray := sB m 4
theorem sB_no {m : Int} {k : Nat} (h : startB m k = false) : sB m (k + 1) = sB m k := by simp [sB, h]
theorem sB_first {m : Int} {k : Nat} (h : startB m k = true) (hs : sB m k = ⟨#[]⟩) : sB m (k + 1) = pieceB m k := by simp [sB, h, hs, bm_empty]
theorem sB_more {m : Int} {k : Nat} (h : startB m k = true) (hs : ¬ sB m k = ⟨#[]⟩) : sB m (k + 1) = sB m k ++ ⟨#[44]⟩ ++ pieceB m k := by simp [sB, h, hs]
theorem pieceB_size (m c : Int) : 1 ≤ (pieceB m c).size ∧ (pieceB m c).size ≤ 3 := by
  unfold pieceB
  split
  · simp only [ByteArray.size_append]
    exact ⟨by show 1 ≤ 1 + (1 + 1); omega, by show 1 + (1 + 1) ≤ 3; omega⟩
  · exact ⟨by show 1 ≤ 1; omega, by show 1 ≤ 3; omega⟩
theorem sB_size (m : Int) : ∀ k : Nat, (sB m k).size ≤ 4 * k
  | 0 => by show 0 ≤ 0; omega
  | k + 1 => by
    have ih := sB_size m k
    have hp := pieceB_size m k
    cases h : startB m k
    · rw [sB_no h]; omega
    · by_cases hs : sB m k = ⟨#[]⟩
      · rw [sB_first h hs]; omega
      · rw [sB_more h hs, ByteArray.size_append, ByteArray.size_append]
        have : (⟨#[44]⟩ : ByteArray).size = 1 := rfl
        omega
end Go.Proofs.YtclepnpdkmcaeaaDoor

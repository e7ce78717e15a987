/- Regions whose order is drawn: the frame as a function of the slots that the region writes. -/
import Derived.Test.YtbgmjcfnehnicaaB23Base
namespace Go.Proofs.Ytbgmjcfnehnicaa
open Go.RowKit
/-- The list of what has come, one place further on. -/
def pad (l : Array Bool) : Array Bool := (false :: l.toList).toArray
theorem pad_set (l : Array Bool) (i : Nat) : pad (l.setIfInBounds i true) = (pad l).setIfInBounds (i + 1) true := by
  unfold pad
  simp
theorem pad_getD (l : Array Bool) (i : Nat) (x : Bool) : (pad l).getD (i + 1) x = l.getD i x := by
  unfold pad
  simp
theorem pad_seen {l : Array Bool} {i : Nat} (h : seen l i) : seen (pad l) (i + 1) := by
  unfold seen at h ⊢
  rw [pad_getD]
  exact h
theorem pad_new (k : Nat) : pad (Array.replicate k false) = Array.replicate (k + 1) false := by
  apply Array.toList_inj.1
  simp [pad, List.replicate_succ]
end Go.Proofs.Ytbgmjcfnehnicaa

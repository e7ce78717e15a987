/- Trees: TreeOk of the program. -/
import Derived.Test.YtclloljigdmdnaaG10Base
import Derived.Test.YtclloljigdmdnaaO5Base
namespace Go.Proofs.Ytclloljigdmdnaa
open Go.RowKit
theorem GsRd.flds {n : Nat} {g : Nat → GV} (hL : ∀ i, i < n → GLen (g i)) (hW : ∀ i, GWf (g i)) : n = 8 → Flds (fun i => (g i).us) (fun i => (g i).pa) (fun i => (g i).nm) := fun h8 =>
  ⟨fun i _ => (hW i).pa, fun i hi => by have := (hL i (by omega)).nm; show (g i).nm.size ≤ maxLen; unfold maxLen; omega⟩
theorem iTreeOk_any (A : Option Addr) (n c : Nat) (hn : n ≤ 1048576) (us : Nat → Bool) (pa : Nat → Int) (nm : Nat → ByteArray) (hF : n = 8 → Flds us pa nm) (w W : World) (hb : Below W.heap.size W w) (hT0 : TRd W W.heap.size A n us pa nm) :
    Calls Try.prog 11 #[.slice A n c] w fun e w' => e = .returned (.bool (treeOk nameOk us pa nm n)) ∧ Below w.heap.size w w' := by
  have hT := Lib.hid (hT0.at_ hb)
  clear hT0
  have HN := Lib.hid (nodes_any A n c hn us pa nm hF w w (Below.refl _ _) hT.out)
  go_enter Try.func11, Try.ntmps11
  go_wp2_with fail
  refine HN.out.mono ?_
  rintro e w1 ⟨hr, hb1⟩
  unfold NodesR at hr
  cases ht : treeOk nameOk us pa nm n
  · rw [ht] at hr
    obtain rfl := hr
    go_wp2
    go_ret
    exact ⟨ret_bool5 ht.symm, hb1⟩
  · rw [ht] at hr
    obtain ⟨ab, nb, rfl, _, _, _⟩ := hr
    go_wp2
    go_ret
    exact ⟨ret_bool5 ht.symm, hb1⟩
end Go.Proofs.Ytclloljigdmdnaa

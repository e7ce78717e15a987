/- Trees: a group's node; TreeDepth. -/
import Derived.Test.YtclloljigdmdnaaG11Base
namespace Go.Proofs.Ytclloljigdmdnaa
open Go.RowKit
section
variable {ok : ByteArray → Bool} {u : Nat → Bool} {p : Nat → Int} {nm : Nat → ByteArray} {n : Nat}
theorem treeOk_eight (h : treeOk ok u p nm n = true) : n = 8 := (rootB_iff.1 (treeOk_spec h).1).1
theorem treeOk_up (h : treeOk ok u p nm n = true) : ∀ g, 1 ≤ g → g < n → u g = true → usedB u n (p g) = true := fun g h1 h2 h3 => by
  have hd := treeOk_dep h h2 h3
  have := (dep_parent (u := u) (p := p) (n := n) (g := (g : Int)) (by omega) hd).2.2
  simpa using this
end
/-- What nodeOf gives. -/
def NodeR (us : Nat → Bool) (pa : Nat → Int) (nm : Nat → ByteArray) (n : Nat) (g : Int) (e : Ending) (w' : World) : Prop :=
  if treeOk nameOk us pa nm n && usedB us n g then ∃ nb, e = .returned (.pointer (some ⟨nb g.toNat, 0, none⟩)) ∧ NodesAt w' nb us pa nm (fun h => decide (1 ≤ h))
  else e = .returned (.pointer none)
theorem NodeR.no {us : Nat → Bool} {pa : Nat → Int} {nm : Nat → ByteArray} {n : Nat} {g : Int} {w' : World} (h : (treeOk nameOk us pa nm n && usedB us n g) = false) : NodeR us pa nm n g (.returned (.pointer none)) w' := by
  unfold NodeR
  rw [h]
  rfl
theorem NodeR.yes {us : Nat → Bool} {pa : Nat → Int} {nm : Nat → ByteArray} {n : Nat} {g : Int} {w' : World} {nb : Nat → Nat} (h : (treeOk nameOk us pa nm n && usedB us n g) = true) (hN : NodesAt w' nb us pa nm (fun h => decide (1 ≤ h))) : NodeR us pa nm n g (.returned (.pointer (some ⟨nb g.toNat, 0, none⟩))) w' := by
  unfold NodeR
  rw [h]
  exact ⟨nb, rfl, hN⟩
theorem nodeOf_any (A : Option Addr) (n c : Nat) (hn : n ≤ 1048576) (us : Nat → Bool) (pa : Nat → Int) (nm : Nat → ByteArray) (hF : n = 8 → Flds us pa nm) (g : Int) (w W : World) (hb : Below W.heap.size W w) (hT0 : TRd W W.heap.size A n us pa nm) :
    Calls Try.prog 33 #[.slice A n c, .int .i64 g] w fun e w' => NodeR us pa nm n g e w' ∧ Below w.heap.size w w' := by
  have HT := Lib.hid (hT0.at_ hb)
  clear hT0
  have HN := Lib.hid (nodes_any A n c hn us pa nm hF w w (Below.refl _ _) HT.out)
  go_enter Try.func33, Try.ntmps33
  go_wp2_with fail
  refine HN.out.mono ?_
  rintro e w1 ⟨hr, hb1⟩
  unfold NodesR at hr
  clear HN
  cases ht : treeOk nameOk us pa nm n
  · rw [ht] at hr
    obtain rfl := hr
    go_wp2
    go_ret
    exact ⟨NodeR.no (by simp [ht]), hb1⟩
  · rw [ht] at hr
    obtain ⟨ab, nb, rfl, ha, hN, _⟩ := hr
    have h8 := treeOk_eight ht
    subst h8
    have HT1 := Lib.hid (HT.out.at_ hb1)
    have HA := Lib.hid ha
    have HN := Lib.hid hN
    clear ha hN
    cases hu : usedB us 8 g
    · have HE := Lib.hid (show (treeOk nameOk us pa nm 8 && usedB us 8 g) = false by simp [hu])
      go_wp2_with (go_at_call 37; refine (iUsed_any A 8 c hn us pa nm g _ HT1.out).mono ?_; rintro e w' ⟨rfl, rfl⟩)
      go_ret
      exact ⟨NodeR.no HE.out, hb1⟩
    · obtain ⟨u1, u2, u3⟩ := usedB_iff.1 hu
      obtain ⟨j, rfl⟩ := Int.eq_ofNat_of_zero_le u1
      have hj : j < 8 := by omega
      have a0 : w1.cell? ⟨ab, j, none⟩ = some (.pointer (some ⟨nb j, 0, none⟩)) := by
        have := HA.out.2.1 j hj
        simpa [show us j = true by simpa using u3] using this
      clear u1 u2 u3
      have HE := Lib.hid (show (treeOk nameOk us pa nm 8 && usedB us 8 (j : Int)) = true by simp [hu, ht])
      go_wp2_with (go_at_call 37; refine (iUsed_any A 8 c hn us pa nm j _ HT1.out).mono ?_; rintro e w' ⟨rfl, rfl⟩)
      go_ret
      exact ⟨NodeR.yes HE.out HN.out, hb1⟩
theorem treeDepth_no {us : Nat → Bool} {pa : Nat → Int} {nm : Nat → ByteArray} {n : Nat} {g : Int} (h : (treeOk nameOk us pa nm n && usedB us n g) = false) : treeDepth nameOk us pa nm n g = -1 := by simp [treeDepth, h]
theorem treeDepth_yes {us : Nat → Bool} {pa : Nat → Int} {nm : Nat → ByteArray} {n : Nat} {g : Int} (h : (treeOk nameOk us pa nm n && usedB us n g) = true) : treeDepth nameOk us pa nm n g = dep us pa n 4 g := by simp [treeDepth, h]
theorem iTreeDepth_any (A : Option Addr) (n c : Nat) (hn : n ≤ 1048576) (us : Nat → Bool) (pa : Nat → Int) (nm : Nat → ByteArray) (hF : n = 8 → Flds us pa nm) (g : Int) (w W : World) (hb : Below W.heap.size W w) (hT0 : TRd W W.heap.size A n us pa nm) :
    Calls Try.prog 14 #[.slice A n c, .int .i64 g] w fun e w' => e = .returned (.int .i64 (treeDepth nameOk us pa nm n g)) ∧ Below w.heap.size w w' := by
  have HN := Lib.hid (nodeOf_any A n c hn us pa nm hF g w w (Below.refl _ _) (hT0.at_ hb))
  clear hT0
  go_enter Try.func14, Try.ntmps14
  go_wp2_with fail
  refine HN.out.mono ?_
  rintro e w1 ⟨hr, hb1⟩
  unfold NodeR at hr
  clear HN
  cases ht : (treeOk nameOk us pa nm n && usedB us n g)
  · rw [ht] at hr
    obtain rfl := hr
    have HE := Lib.hid (treeDepth_no ht)
    clear ht
    go_wp2
    go_ret
    exact ⟨ret_intB HE.out.symm, hb1⟩
  · rw [ht] at hr
    obtain ⟨nb, rfl, hN⟩ := hr
    have h1 : treeOk nameOk us pa nm n = true := by simp at ht; exact ht.1
    have h2 : usedB us n g = true := by simp at ht; exact ht.2
    have HE := Lib.hid (treeDepth_yes ht)
    have h8 := treeOk_eight h1
    subst h8
    obtain ⟨u1, u2, u3⟩ := usedB_iff.1 h2
    obtain ⟨j, rfl⟩ := Int.eq_ofNat_of_zero_le u1
    have HD := Lib.hid (iDepth_any nb us pa nm j (by omega) (by simpa using u3) (treeOk_up h1) w1 hN)
    clear u1 u2 u3 hN h1 h2 ht
    go_wp2_with (go_at_call 34; refine HD.out.mono ?_; rintro e w' ⟨rfl, rfl⟩)
    go_ret
    exact ⟨ret_intB HE.out.symm, hb1⟩
theorem sTreeDepth_any (A : Option Addr) (n c : Nat) (hn : n ≤ 1048576) (us : Nat → Bool) (pa : Nat → Int) (nm : Nat → ByteArray) (g : Int) (w W : World) (hb : Below W.heap.size W w) (hT0 : TRd W W.heap.size A n us pa nm) :
    Calls Try.prog 13 #[.slice A n c, .int .i64 g] w fun e w' => e = .returned (.int .i64 (treeDepth nameOk us pa nm n g)) ∧ Below w.heap.size w w' := by
  have HT := Lib.hid (hT0.at_ hb)
  have HN := Lib.hid (sTreeOk_any A n c hn us pa nm w w (Below.refl _ _) HT.out)
  clear hT0
  cases ht : treeOk nameOk us pa nm n
  · rw [treeDepth_no (by simp [ht])]
    rw [ht] at HN
    go_enter Try.func13, Try.ntmps13
    go_wp2_with (go_at_call 9; refine HN.out.mono ?_; rintro e w1 ⟨rfl, hb1⟩)
    go_ret
    exact ⟨rfl, hb1⟩
  · rw [ht] at HN
    cases hu : usedB us n g
    · rw [treeDepth_no (by simp [hu])]
      go_enter Try.func13, Try.ntmps13
      go_wp2_with (first | (go_at_call 9; refine HN.out.mono ?_; rintro e w1 ⟨rfl, hb1⟩; have HT1 := Lib.hid (HT.out.at_ hb1)) | (go_at_call 32; refine (sUsed_any A n c hn us pa nm g _ HT1.out).mono ?_; rintro e w' ⟨rfl, rfl⟩))
      go_ret
      exact ⟨rfl, hb1⟩
    · rw [treeDepth_yes (by simp [ht, hu])]
      have h8 := treeOk_eight ht
      subst h8
      have hE : dep us pa 8 (8 + 1) g = dep us pa 8 4 g := by
        obtain ⟨u1, u2, u3⟩ := usedB_iff.1 hu
        obtain ⟨j, rfl⟩ := Int.eq_ofNat_of_zero_le u1
        exact dep_four_eq (8 + 1) (by omega) _ (treeOk_dep ht (by omega) (by simpa using u3))
      go_enter Try.func13, Try.ntmps13
      go_wp2_with (first | (go_at_call 9; refine HN.out.mono ?_; rintro e w1 ⟨rfl, hb1⟩; have HT1 := Lib.hid (HT.out.at_ hb1)) | (go_at_call 32; refine (sUsed_any A 8 c hn us pa nm g _ HT1.out).mono ?_; rintro e w' ⟨rfl, rfl⟩) | (go_at_call 28; refine (sDepth_any A 8 c hn us pa nm g _ HT1.out).mono ?_; rintro e w' ⟨rfl, rfl⟩))
      go_ret
      exact ⟨by first | rfl | exact ret_intB hE, hb1⟩
end Go.Proofs.Ytclloljigdmdnaa

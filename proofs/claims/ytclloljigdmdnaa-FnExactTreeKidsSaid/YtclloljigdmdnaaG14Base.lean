/- Trees: finding a group by its path. -/
import Derived.Test.YtclloljigdmdnaaG13Base
namespace Go.Proofs.Ytclloljigdmdnaa
open Go.RowKit
/-- The first index below k at which q holds, or -1. -/
def findUp (q : Nat → Bool) : Nat → Int
  | 0 => -1
  | k + 1 => if 0 ≤ findUp q k then findUp q k else if q k then (k : Int) else -1
theorem findUp_none {q : Nat → Bool} : ∀ (k : Nat), (∀ j, j < k → q j = false) → findUp q k = -1
  | 0, _ => rfl
  | k + 1, h => by
    have ih := findUp_none k (fun j hj => h j (by omega))
    unfold findUp
    rw [ih, h k (by omega)]
    rfl
theorem findUp_hit {q : Nat → Bool} {i : Nat} (hq : q i = true) (hb : ∀ j, j < i → q j = false) : ∀ (k : Nat), i < k → findUp q k = i
  | 0, h => by omega
  | k + 1, h => by
    unfold findUp
    by_cases e : i = k
    · subst e
      rw [findUp_none i hb, hq]
      rfl
    · rw [findUp_hit hq hb k (by omega), if_pos (by omega)]
def pathAt (pa : Nat → Int) (nm : Nat → ByteArray) (g : Nat) : ByteArray := if g = 0 then ⟨#[47]⟩ else pathUp pa nm 4 g
/-- Slot g is used and lies at this path. -/
def atPath (us : Nat → Bool) (pa : Nat → Int) (nm : Nat → ByteArray) (P : ByteArray) (g : Nat) : Bool := us g && ((pathAt pa nm g).toList == P.toList)
def treeFind (us : Nat → Bool) (pa : Nat → Int) (nm : Nat → ByteArray) (n : Nat) (P : ByteArray) : Int := if treeOk nameOk us pa nm n then findUp (atPath us pa nm P) n else -1
theorem treeFind_no {us : Nat → Bool} {pa : Nat → Int} {nm : Nat → ByteArray} {n : Nat} {P : ByteArray} (h : treeOk nameOk us pa nm n = false) : treeFind us pa nm n P = -1 := by simp [treeFind, h]
theorem treeFind_hit {us : Nat → Bool} {pa : Nat → Int} {nm : Nat → ByteArray} {n : Nat} {P : ByteArray} (h : treeOk nameOk us pa nm n = true) {i : Nat} (hi : i < n) (hq : atPath us pa nm P i = true) (hb : ∀ j, j < i → atPath us pa nm P j = false) : treeFind us pa nm n P = i := by
  unfold treeFind
  rw [h]
  exact findUp_hit hq hb n hi
theorem treeFind_none {us : Nat → Bool} {pa : Nat → Int} {nm : Nat → ByteArray} {n : Nat} {P : ByteArray} (h : treeOk nameOk us pa nm n = true) (hb : ∀ j, j < n → atPath us pa nm P j = false) : treeFind us pa nm n P = -1 := by
  unfold treeFind
  rw [h]
  exact findUp_none n hb
theorem atPath_unused {us : Nat → Bool} {pa : Nat → Int} {nm : Nat → ByteArray} {P : ByteArray} {g : Nat} (h : us g = false) : atPath us pa nm P g = false := by simp [atPath, h]
theorem treePath_at {us : Nat → Bool} {pa : Nat → Int} {nm : Nat → ByteArray} {n g : Nat} (h : treeOk nameOk us pa nm n = true) (hg : g < n) (hu : us g = true) : treePath nameOk us pa nm n g = pathAt pa nm g := by
  have h2 : (treeOk nameOk us pa nm n && usedB us n (g : Int)) = true := by rw [h, usedB_nat hg, hu]; rfl
  unfold pathAt
  by_cases e : g = 0
  · rw [if_pos e, treePath_root h2 (by omega)]
  · rw [if_neg e, treePath_yes h2 (by omega)]
theorem before_step {q : Nat → Bool} {k : Nat} (h : ∀ j, j < k → q j = false) (hk : q k = false) : ∀ j, j < k + 1 → q j = false := fun j hj => by
  by_cases e : j = k
  · subst e; exact hk
  · exact h j (by omega)
set_option maxHeartbeats 1000000 in
theorem iTreeFind_any (A : Option Addr) (n c : Nat) (hn : n ≤ 1048576) (us : Nat → Bool) (pa : Nat → Int) (nm : Nat → ByteArray) (hF : n = 8 → Flds us pa nm) (P : ByteArray) (w W : World) (hb : Below W.heap.size W w) (hT0 : TRd W W.heap.size A n us pa nm) :
    Calls Try.prog 18 #[.slice A n c, .string P] w fun e w' => e = .returned (.int .i64 (treeFind us pa nm n P)) ∧ Below w.heap.size w w' := by
  have HN := Lib.hid (nodes_any A n c hn us pa nm hF w w (Below.refl _ _) (hT0.at_ hb))
  clear hT0
  go_enter Try.func18, Try.ntmps18
  go_wp2_with fail
  refine HN.out.mono ?_
  rintro e w1 ⟨hr, hb1⟩
  unfold NodesR at hr
  clear HN
  cases ht : treeOk nameOk us pa nm n
  · rw [ht] at hr
    obtain rfl := hr
    have HE := Lib.hid (treeFind_no (P := P) ht)
    clear ht
    go_wp2
    refine wp_loop_rounds 1 ?_
    rw [rounds_succ]
    go_wp2
    go_ret
    exact ⟨by first | exact ret_intB HE.out.symm | (rw [HE.out]), hb1⟩
  · rw [ht] at hr
    obtain ⟨ab, nb, rfl, ha, hN, _⟩ := hr
    have HT := Lib.hid ht
    have h8 := treeOk_eight ht
    subst h8
    have HA := Lib.hid ha
    have HN := Lib.hid hN
    have HB1 := Lib.hid hb1
    clear ha hN ht hb1
    go_wp2
    go_loop [16] (fun i => ∃ k : Nat, k ≤ 8 ∧ i = .int .i64 k ∧ Hid (∀ j, j < k → atPath us pa nm P j = false)) (fun i => 8 - (intOf i).toNat)
    case atStart => exact ⟨0, by omega, rfl, fun j hj => by omega⟩
    case round =>
      obtain ⟨k, hk, rfl, HQ⟩ := hrel
      by_cases hlt : k < 8
      · cases hu : us k
        · have a0 : w1.cell? ⟨ab, k, none⟩ = some (.pointer none) := by
            have := HA.out.2.1 k hlt
            simpa [hu] using this
          have HQN := Lib.hid (before_step HQ.out (atPath_unused (pa := pa) (nm := nm) (P := P) hu))
          clear HQ
          go_wp2
          go_round
          case rel => first | exact ⟨k + 1, by omega, by go_num, HQN⟩ | (refine ⟨trivial, ?_⟩; (repeat apply Exists.intro); refine ⟨?_, rfl⟩; exact ⟨k + 1, by omega, by go_num, HQN⟩)
          case measure => simp [intOf]; omega
        · have a0 : w1.cell? ⟨ab, k, none⟩ = some (.pointer (some ⟨nb k, 0, none⟩)) := by
            have := HA.out.2.1 k hlt
            simpa [hu] using this
          have HD := Lib.hid (iPath_any nb us pa nm k hlt hu (treeOk_up HT.out) (treeOk_name HT.out) (treeOk_dep HT.out hlt hu) w1 HN.out)
          have hat : atPath us pa nm P k = ((pathAt pa nm k).toList == P.toList) := by simp [atPath, hu]
          change Hid (Calls Try.prog 36 #[.pointer (some ⟨nb k, 0, none⟩)] w1 fun e w' => e = .returned (.string (pathAt pa nm k)) ∧ w1 = w') at HD
          obtain ⟨X, hX⟩ : ∃ X, X = pathAt pa nm k := ⟨_, rfl⟩
          rw [← hX] at HD hat
          clear hX
          cases hq : (X.toList == P.toList)
          · rw [hq] at hat
            have HQN := Lib.hid (before_step HQ.out hat)
            clear HQ hat
            go_wp2_with (go_at_call 36; refine HD.out.mono ?_; rintro e w' ⟨rfl, rfl⟩)
            go_round
            case rel => first | exact ⟨k + 1, by omega, by go_num, HQN⟩ | (refine ⟨trivial, ?_⟩; (repeat apply Exists.intro); refine ⟨?_, rfl⟩; exact ⟨k + 1, by omega, by go_num, HQN⟩)
            case measure => simp [intOf]; omega
          · rw [hq] at hat
            have HE := Lib.hid (treeFind_hit HT.out hlt hat HQ.out)
            clear HQ hat
            go_wp2_with (go_at_call 36; refine HD.out.mono ?_; rintro e w' ⟨rfl, rfl⟩)
            go_ret
            exact ⟨ret_intB HE.out.symm, HB1.out⟩
      · obtain rfl : k = 8 := by omega
        have HE := Lib.hid (treeFind_none HT.out HQ.out)
        clear HQ
        go_wp2
        go_ret
        exact ⟨ret_intB HE.out.symm, HB1.out⟩
set_option maxHeartbeats 1000000 in
theorem sTreeFind_any (A : Option Addr) (n c : Nat) (hn : n ≤ 1048576) (us : Nat → Bool) (pa : Nat → Int) (nm : Nat → ByteArray) (P : ByteArray) (w W : World) (hb : Below W.heap.size W w) (hT0 : TRd W W.heap.size A n us pa nm) :
    Calls Try.prog 17 #[.slice A n c, .string P] w fun e w' => e = .returned (.int .i64 (treeFind us pa nm n P)) ∧ Below w.heap.size w w' := by
  have hT := hT0.at_ hb
  have HT := Lib.hid hT
  have HN := Lib.hid (sTreeOk_any A n c hn us pa nm w w (Below.refl _ _) HT.out)
  clear hT0
  cases ht : treeOk nameOk us pa nm n
  · rw [treeFind_no ht]
    rw [ht] at HN
    clear hT
    go_enter Try.func17, Try.ntmps17
    go_wp2_with (go_at_call 9; refine HN.out.mono ?_; rintro e w1 ⟨rfl, hb1⟩)
    go_ret
    exact ⟨rfl, hb1⟩
  · rw [ht] at HN
    have HO := Lib.hid ht
    have h8 := treeOk_eight ht
    subst h8
    clear ht
    obtain ⟨ga, oa, rfl, hga, hc⟩ := hT (by omega)
    have HC := Lib.hid hc
    clear hc hT
    go_enter Try.func17, Try.ntmps17
    go_wp2_with (go_at_call 9; refine HN.out.mono ?_; rintro e w1 ⟨rfl, hb1⟩)
    go_loopw [5] (fun i wr => ∃ k : Nat, k ≤ 8 ∧ i = .int .i64 k ∧ Hid (∀ j, j < k → atPath us pa nm P j = false) ∧ Below w.heap.size w wr) (fun i _ => 8 - (intOf i).toNat)
    case atStart => exact ⟨0, by omega, rfl, fun j hj => by omega, hb1⟩
    case round =>
      obtain ⟨k, hk, rfl, HQ, hbr⟩ := hrel
      by_cases hlt : k < 8
      · obtain ⟨d0, _, _⟩ := HC.out k hlt
        have d0 := (hbr.cell (p := ⟨ga, oa + k * 14, none⟩) hga).trans d0
        have HBR := Lib.hid hbr
        clear hbr
        cases hu : us k
        · rw [hu] at d0
          have HQN := Lib.hid (before_step HQ.out (atPath_unused (pa := pa) (nm := nm) (P := P) hu))
          clear HQ
          go_wp2
          go_roundw
          case rel => exact ⟨k + 1, by omega, by go_num, HQN, HBR.out⟩
          case measure => simp [intOf]; omega
        · rw [hu] at d0
          have HD := Lib.hid (sTreePath_any (some ⟨ga, oa, none⟩) 8 c hn us pa nm k wr w HBR.out HT.out)
          have hat : atPath us pa nm P k = ((pathAt pa nm k).toList == P.toList) := by simp [atPath, hu]
          rw [treePath_at HO.out hlt hu] at HD
          generalize pathAt pa nm k = X at HD hat
          cases hq : (X.toList == P.toList)
          · rw [hq] at hat
            have HQN := Lib.hid (before_step HQ.out hat)
            clear HQ hat
            go_wp2_with (go_at_call 15; refine HD.out.mono ?_; rintro e w2 ⟨rfl, hb2⟩; have HB2 := Lib.hid (bel HBR.out hb2); clear hb2)
            go_roundw
            case rel => exact ⟨k + 1, by omega, by go_num, HQN, HB2.out⟩
            case measure => simp [intOf]; omega
          · rw [hq] at hat
            have HE := Lib.hid (treeFind_hit HO.out hlt hat HQ.out)
            clear HQ hat
            go_wp2_with (go_at_call 15; refine HD.out.mono ?_; rintro e w2 ⟨rfl, hb2⟩; have HB2 := Lib.hid (bel HBR.out hb2); clear hb2)
            go_ret
            exact ⟨ret_intB HE.out.symm, HB2.out⟩
      · obtain rfl : k = 8 := by omega
        have HE := Lib.hid (treeFind_none HO.out HQ.out)
        clear HQ
        go_wp2
        go_ret
        exact ⟨ret_intB HE.out.symm, hbr⟩
end Go.Proofs.Ytclloljigdmdnaa

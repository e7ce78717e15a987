/- Masks: MaskRead of both sides. -/
import Derived.Test.YtclepnpdkmcaeaaDoorM2Base
namespace Go.Proofs.YtclepnpdkmcaeaaDoor
open Go.RowKit
/-- The first set from k on, of n of them, whose text is s. -/
def readUp (s : ByteArray) : Nat → Int → Int
  | 0, _ => 0
  | n + 1, k => if maskText k = s then k else readUp s n (k + 1)
def maskRead (s : ByteArray) : Int := readUp s 15 1
theorem readUp_b (s : ByteArray) : ∀ (n : Nat) (k : Int), 1 ≤ k → readUp s n k = 0 ∨ (k ≤ readUp s n k ∧ readUp s n k < k + n)
  | 0, k, _ => .inl rfl
  | n + 1, k, h => by
    simp only [readUp]
    split
    · exact .inr ⟨Int.le_refl _, by omega⟩
    · rcases readUp_b s n (k + 1) (by omega) with e | ⟨e1, e2⟩
      · exact .inl e
      · exact .inr ⟨by omega, by omega⟩
theorem readUp_yes {s : ByteArray} {n : Nat} {k : Int} (h : maskText k = s) : readUp s (n + 1) k = k := by simp [readUp, h]
theorem readUp_no {s : ByteArray} {n : Nat} {k : Int} (h : ¬ maskText k = s) : readUp s (n + 1) k = readUp s n (k + 1) := by simp [readUp, h]
theorem ba_eq (a b : ByteArray) : (a.toList == b.toList) = decide (a = b) := by
  rw [Bool.eq_iff_iff, beq_iff_eq, decide_eq_true_iff, ByteArray.toList_eq, ByteArray.toList_eq]
  exact ⟨fun e => ByteArray.ext (Array.toList_inj.1 e), fun e => by rw [e]⟩
set_option maxHeartbeats 1000000 in
theorem iMaskRead_any (s : ByteArray) (w W : World) (hb : Below W.heap.size W w) :
    Calls Tryd.prog 9 #[.string s] w fun e w' => e = .returned (.tuple #[.int .i64 (maskRead s), .bool (decide (0 < maskRead s))]) ∧ Below W.heap.size W w' := by
  obtain ⟨M, hM⟩ : ∃ M, M = maskRead s := ⟨_, rfl⟩
  rw [← hM]
  go_enter Tryd.func9, Tryd.ntmps9
  go_wp2
  go_loopw [4] (fun i wr => ∃ k : Int, 1 ≤ k ∧ k ≤ 16 ∧ i = .int .i64 k ∧ Hid (readUp s (16 - k).toNat k = M) ∧ Below W.heap.size W wr) (fun i _ => (16 - intOf i).toNat)
  case atStart => exact ⟨1, by omega, by omega, rfl, Lib.hid hM.symm, hb⟩
  case round =>
    obtain ⟨k, k1, k2, rfl, HR, hbr⟩ := hrel
    have HC : Hid (∀ x : World, Below W.heap.size W x → Calls Tryd.prog 7 #[.int .i64 k] x fun e w' => e = .returned (.string (maskText k)) ∧ Below W.heap.size W w') := fun x hx => iMaskText_any k x W hx
    by_cases hk : k ≤ 15
    · by_cases he : maskText k = s
      · have hMk : M = k := by rw [← HR.out, show (16 - k).toNat = (15 - k).toNat + 1 by omega, readUp_yes he]
        have hc : ((maskText k).toList == s.toList) = true := by rw [ba_eq]; simpa using he
        have HD : Hid (decide (0 < k) = true) := by show decide (0 < k) = true; simp; omega
        have HMk := Lib.hid hMk
        clear HR hMk hM
        go_wp2_with (go_at_call 7; refine (HC.out _ hbr).mono ?_; rintro e w9 ⟨rfl, hb9⟩)
        refine bodyPost_ret (v := .tuple #[.int .i64 k, .bool true]) (by simp [results, Tryd.results9, go_sem]) rfl ?_
        exact ⟨by rw [HMk.out, HD.out], hb9⟩
      · have hn : Hid (readUp s (16 - (k + 1)).toNat (k + 1) = M) := by rw [← HR.out, show (16 - k).toNat = (16 - (k + 1)).toNat + 1 by omega, readUp_no he]; exact rfl
        have hc : ((maskText k).toList == s.toList) = false := by rw [ba_eq]; simpa using he
        clear HR
        go_wp2_with (go_at_call 7; refine (HC.out _ hbr).mono ?_; rintro e w9 ⟨rfl, hb9⟩)
        go_roundw
        case rel => exact ⟨k + 1, by omega, by omega, by go_num, hn, hb9⟩
        case measure => simp [intOf]; omega
    · obtain rfl : k = 16 := by omega
      have hM0 : M = 0 := by rw [← HR.out]; rfl
      have HM0 := Lib.hid hM0
      clear hM0 hM HR
      go_wp2
      refine bodyPost_ret (v := .tuple #[.int .i64 0, .bool false]) (by simp [results, Tryd.results9, go_sem]) rfl ?_
      exact ⟨by rw [HM0.out]; rfl, hbr⟩
set_option maxHeartbeats 1000000 in
theorem sMaskRead_any (s : ByteArray) (w W : World) (hb : Below W.heap.size W w) :
    Calls Tryd.prog 8 #[.string s] w fun e w' => e = .returned (.tuple #[.int .i64 (maskRead s), .bool (decide (0 < maskRead s))]) ∧ Below W.heap.size W w' := by
  obtain ⟨M, hM⟩ : ∃ M, M = maskRead s := ⟨_, rfl⟩
  rw [← hM]
  go_enter Tryd.func8, Tryd.ntmps8
  go_wp2
  go_loopw [4] (fun i wr => ∃ k : Int, 1 ≤ k ∧ k ≤ 16 ∧ i = .int .i64 k ∧ Hid (readUp s (16 - k).toNat k = M) ∧ Below W.heap.size W wr) (fun i _ => (16 - intOf i).toNat)
  case atStart => exact ⟨1, by omega, by omega, rfl, Lib.hid hM.symm, hb⟩
  case round =>
    obtain ⟨k, k1, k2, rfl, HR, hbr⟩ := hrel
    have HC : Hid (∀ x : World, Below W.heap.size W x → Calls Tryd.prog 6 #[.int .i64 k] x fun e w' => e = .returned (.string (maskText k)) ∧ Below W.heap.size W w') := fun x hx => sMaskText_any k x W hx
    by_cases hk : k ≤ 15
    · have hin : inR k 0 15 = true := inR_iff.2 ⟨by omega, hk⟩
      by_cases he : maskText k = s
      · have hMk : M = k := by rw [← HR.out, show (16 - k).toNat = (15 - k).toNat + 1 by omega, readUp_yes he]
        have hc : ((maskText k).toList == s.toList) = true := by rw [ba_eq]; simpa using he
        have HD : Hid (decide (0 < k) = true) := by show decide (0 < k) = true; simp; omega
        have HMk := Lib.hid hMk
        clear HR hMk hM
        go_wp2_with (first | (go_at_call 14; refine (sMaskOk_any _ _).mono ?_; rintro e w' ⟨rfl, rfl⟩) | (go_at_call 6; refine (HC.out _ hbr).mono ?_; rintro e w9 ⟨rfl, hb9⟩))
        refine bodyPost_ret (v := .tuple #[.int .i64 k, .bool true]) (by simp [results, Tryd.results8, go_sem]) rfl ?_
        exact ⟨by rw [HMk.out, HD.out], hb9⟩
      · have hn : Hid (readUp s (16 - (k + 1)).toNat (k + 1) = M) := by rw [← HR.out, show (16 - k).toNat = (16 - (k + 1)).toNat + 1 by omega, readUp_no he]; exact rfl
        have hc : ((maskText k).toList == s.toList) = false := by rw [ba_eq]; simpa using he
        clear HR
        go_wp2_with (first | (go_at_call 14; refine (sMaskOk_any _ _).mono ?_; rintro e w' ⟨rfl, rfl⟩) | (go_at_call 6; refine (HC.out _ hbr).mono ?_; rintro e w9 ⟨rfl, hb9⟩))
        go_roundw
        case rel => exact ⟨k + 1, by omega, by omega, by go_num, hn, hb9⟩
        case measure => simp [intOf]; omega
    · obtain rfl : k = 16 := by omega
      have hM0 : M = 0 := by rw [← HR.out]; rfl
      have hin : inR 16 0 15 = false := rfl
      have HM0 := Lib.hid hM0
      clear hM0 hM HR
      go_wp2_with (go_at_call 14; refine (sMaskOk_any _ _).mono ?_; rintro e w' ⟨rfl, rfl⟩)
      refine bodyPost_ret (v := .tuple #[.int .i64 0, .bool false]) (by simp [results, Tryd.results8, go_sem]) rfl ?_
      exact ⟨by rw [HM0.out]; rfl, hbr⟩
end Go.Proofs.YtclepnpdkmcaeaaDoor

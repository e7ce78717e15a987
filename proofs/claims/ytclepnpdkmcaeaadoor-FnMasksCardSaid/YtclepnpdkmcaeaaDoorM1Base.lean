/- Masks: spec's l2Digit, MaskText. -/
import Derived.Test.YtclepnpdkmcaeaaDoorS3Base
import Derived.Test.YtclepnpdkmcaeaaDoorMPlain
import Derived.Test.YtclepnpdkmcaeaaDoorMem
import Derived.Laws.Concat
import Derived.Laws.BytesString
import Derived.ProofKit
import Derived.Below
namespace Go.Proofs.YtclepnpdkmcaeaaDoor
open Go.RowKit
theorem conv1M (d : Int) (w : World) : (convert 27 9 (.slice (some ⟨w.heap.size, 0, none⟩) 1 1)).run Tryd.prog (w.alloc (.cells #[.int .u8 d] 5)) = .ok (.string ⟨#[UInt8.ofNat d.toNat]⟩) (w.alloc (.cells #[.int .u8 d] 5)) := by
  have hc : (w.alloc (.cells #[.int .u8 d] 5)).cell? ⟨w.heap.size, 0, none⟩ = some (.int .u8 d) := (Bk.new w 5 #[.int .u8 d]).cell 0
  rw [run_convert_bytes_string _ 27 9 5 _ _ _ Tryd.underlying27 Tryd.underlying5 Tryd.underlying9]
  rw [run_bytesToString _ _ 1 1 [d] (by simp [loadCells, hc, go_sem])]
  rfl
theorem l2Digit_any (c : Int) (h0 : 0 ≤ c) (h1 : c ≤ 3) (w W : World) (hb : Below W.heap.size W w) :
    Calls Tryd.prog 19 #[.int .i64 c] w fun e w' => e = .returned (.string (digM c)) ∧ Below W.heap.size W w' := by
  have hcv := conv1M (48 + c)
  have hsz := hb.size
  go_enter Tryd.func19, Tryd.ntmps19
  go_wp2
  go_ret
  exact ⟨rfl, by go_grown⟩
set_option maxHeartbeats 1000000 in
theorem sMaskText_any (m : Int) (w W : World) (hb : Below W.heap.size W w) :
    Calls Tryd.prog 6 #[.int .i64 m] w fun e w' => e = .returned (.string (maskText m)) ∧ Below W.heap.size W w' := by
  go_enter Tryd.func6, Tryd.ntmps6
  go_wp2
  go_loopw [3, 4] (fun t i wr => ∃ k : Nat, k ≤ 4 ∧ t = .string (sB m k) ∧ i = .int .i64 k ∧ Below W.heap.size W wr) (fun _ i _ => (4 - intOf i).toNat)
  case atStart => exact ⟨0, by omega, rfl, rfl, hb⟩
  case round =>
    obtain ⟨k, hk, rfl, rfl, hbr⟩ := hrel
    by_cases hlt : k < 4
    · have hno : startB m k = false → sB m (k + 1) = sB m k := sB_no
      have hk4 : (k : Int) < 4 := by omega
      cases h1 : maskHas m k
      · have HN := Lib.hid (hno (by simp [startB, h1]))
        clear hno
        go_wp2_with (go_at_call 18; refine (sMaskHas_any _ _ _).mono ?_; rintro e w' ⟨rfl, rfl⟩)
        go_roundw
        case rel => exact ⟨k + 1, by omega, by rw [HN.out], by go_num, hbr⟩
        case measure => simp [intOf]; omega
      have hstop : 0 < k → maskHas m (k - 1) = true → startB m k = false := fun _ h => by simp [startB, h]
      by_cases hc : 0 < k ∧ maskHas m (k - 1) = true
      · have HN := Lib.hid (hno (hstop hc.1 hc.2))
        obtain ⟨hk0, h2⟩ := hc
        have hk1 : (0 : Int) < (k : Int) := by omega
        clear hno hstop
        go_wp2_with (go_at_call 18; refine (sMaskHas_any _ _ _).mono ?_; rintro e w' ⟨rfl, rfl⟩)
        go_roundw
        case rel => exact ⟨k + 1, by omega, by rw [HN.out], by go_num, hbr⟩
        case measure => simp [intOf]; omega
      have hst : startB m k = true := by
        unfold startB
        rw [h1]
        cases h2 : maskHas m (k - 1)
        · rfl
        · exact absurd ⟨by have := has_le h2; omega, h2⟩ hc
      have HST := Lib.hid hst
      have hL := lastE_b (m := m) (e := k) (by omega) (by omega)
      have hcn2 : 0 < k → maskHas m ((k : Int) - 1) = false := fun h => by
        cases h2 : maskHas m ((k : Int) - 1)
        · rfl
        · exact absurd ⟨h, h2⟩ hc
      clear hno hstop hst hc
      have hsz := sB_size m k
      by_cases hk0 : k = 0
      · subst hk0
        have h1' : maskHas m 0 = true := h1
        clear h1
        clear hcn2
        go_wp2_with (go_at_call 18; refine (sMaskHas_any _ _ _).mono ?_; rintro e w' ⟨rfl, rfl⟩)
        go_loopw [5] (fun e wr => ∃ y : Int, (0 : Int) ≤ y ∧ y ≤ 3 ∧ e = .int .i64 y ∧ lastE m y = lastE m 0 ∧ Below W.heap.size W wr) (fun e _ => (4 - intOf e).toNat)
        case atStart => exact ⟨0, Int.le_refl _, by omega, rfl, rfl, hbr⟩
        case round =>
          obtain ⟨y, y0, y1, rfl, hl, hbr2⟩ := hrel
          clear hbr
          cases h3 : maskHas m (y + 1)
          · have hy : lastE m 0 = y := by rw [← hl, lastE_no h3]
            have d1 : (digM 0).size = 1 := rfl
            have d2 : (digM y).size = 1 := rfl
            have d3 : (⟨#[44]⟩ : ByteArray).size = 1 := rfl
            have d4 : (⟨#[45]⟩ : ByteArray).size = 1 := rfl
            have d5 : (⟨#[]⟩ : ByteArray).size = 0 := rfl
            clear hl
            by_cases hs : sB m 0 = ⟨#[]⟩
            · rw [hs]
              have a1 := fun w => run_string_add_sum (P := Tryd.prog) w (⟨#[]⟩ : ByteArray) (digM 0) (by omega)
              by_cases he : (0 : Int) < y
              · have d7 : ((⟨#[]⟩ : ByteArray) ++ digM 0).size = (⟨#[]⟩ : ByteArray).size + 1 := by rw [ByteArray.size_append, d1]
                have d8 : ((⟨#[]⟩ : ByteArray) ++ digM 0 ++ ⟨#[45]⟩).size = (⟨#[]⟩ : ByteArray).size + 2 := by rw [ByteArray.size_append, d7, d4]
                have a2 := fun w => run_string_add_sum (P := Tryd.prog) w ((⟨#[]⟩ : ByteArray) ++ digM 0) ⟨#[45]⟩ (by omega)
                have a3 := fun w => run_string_add_sum (P := Tryd.prog) w ((⟨#[]⟩ : ByteArray) ++ digM 0 ++ ⟨#[45]⟩) (digM y) (by omega)
                have hE : (⟨#[]⟩ : ByteArray) ++ digM 0 ++ ⟨#[45]⟩ ++ digM y = sB m 1 := by
                  rw [sB_first (k := 0) HST.out hs, pieceB, show ((0 : Nat) : Int) = 0 from rfl, hy, if_pos he]
                  simp only [bm_assoc, bm_empty]
                have HE := Lib.hid hE
                clear hE
                go_wp2_with (first | (go_at_call 18; refine (sMaskHas_any _ _ _).mono ?_; rintro e w' ⟨rfl, rfl⟩) | (go_at_call 19; refine (l2Digit_any _ (by omega) (by omega) _ W (by assumption)).mono ?_; rintro e w9 ⟨rfl, hb9⟩))
                go_roundw
                case rel => exact ⟨1, by omega, by rw [← HE.out], by go_num, by assumption⟩
                case measure => first | (simp [intOf]; done) | (simp [intOf]; omega)
              · have hE : (⟨#[]⟩ : ByteArray) ++ digM 0 = sB m 1 := by
                  rw [sB_first (k := 0) HST.out hs, pieceB, show ((0 : Nat) : Int) = 0 from rfl, hy, if_neg he]
                  simp only [bm_empty]
                have HE := Lib.hid hE
                clear hE
                go_wp2_with (first | (go_at_call 18; refine (sMaskHas_any _ _ _).mono ?_; rintro e w' ⟨rfl, rfl⟩) | (go_at_call 19; refine (l2Digit_any _ (by omega) (by omega) _ W (by assumption)).mono ?_; rintro e w9 ⟨rfl, hb9⟩))
                go_roundw
                case rel => exact ⟨1, by omega, by rw [← HE.out], by go_num, by assumption⟩
                case measure => first | (simp [intOf]; done) | (simp [intOf]; omega)
            · exact absurd rfl hs
          · have hy1 := (has_le h3).2
            have hl2 := (lastE_go (by omega) h3).trans hl
            go_wp2_with (go_at_call 18; refine (sMaskHas_any _ _ _).mono ?_; rintro e w' ⟨rfl, rfl⟩)
            go_roundw
            case rel => exact ⟨y + 1, by omega, by omega, by go_num, hl2, hbr2⟩
            case measure => first | (simp [intOf]; done) | (simp [intOf]; omega)
      · have hk1 : (0 : Int) < (k : Int) := by omega
        have h2 := hcn2 (by omega)
        clear hcn2
        go_wp2_with (go_at_call 18; refine (sMaskHas_any _ _ _).mono ?_; rintro e w' ⟨rfl, rfl⟩)
        go_loopw [5] (fun e wr => ∃ y : Int, (k : Int) ≤ y ∧ y ≤ 3 ∧ e = .int .i64 y ∧ lastE m y = lastE m k ∧ Below W.heap.size W wr) (fun e _ => (4 - intOf e).toNat)
        case atStart => exact ⟨k, Int.le_refl _, by omega, rfl, rfl, hbr⟩
        case round =>
          obtain ⟨y, y0, y1, rfl, hl, hbr2⟩ := hrel
          clear hbr
          cases h3 : maskHas m (y + 1)
          · have hy : lastE m k = y := by rw [← hl, lastE_no h3]
            have d1 : (digM k).size = 1 := rfl
            have d2 : (digM y).size = 1 := rfl
            have d3 : (⟨#[44]⟩ : ByteArray).size = 1 := rfl
            have d4 : (⟨#[45]⟩ : ByteArray).size = 1 := rfl
            have d5 : (⟨#[]⟩ : ByteArray).size = 0 := rfl
            clear hl
            by_cases hs : sB m k = ⟨#[]⟩
            · rw [hs]
              have a1 := fun w => run_string_add_sum (P := Tryd.prog) w (⟨#[]⟩ : ByteArray) (digM k) (by omega)
              by_cases he : (k : Int) < y
              · have d7 : ((⟨#[]⟩ : ByteArray) ++ digM k).size = (⟨#[]⟩ : ByteArray).size + 1 := by rw [ByteArray.size_append, d1]
                have d8 : ((⟨#[]⟩ : ByteArray) ++ digM k ++ ⟨#[45]⟩).size = (⟨#[]⟩ : ByteArray).size + 2 := by rw [ByteArray.size_append, d7, d4]
                have a2 := fun w => run_string_add_sum (P := Tryd.prog) w ((⟨#[]⟩ : ByteArray) ++ digM k) ⟨#[45]⟩ (by omega)
                have a3 := fun w => run_string_add_sum (P := Tryd.prog) w ((⟨#[]⟩ : ByteArray) ++ digM k ++ ⟨#[45]⟩) (digM y) (by omega)
                have hE : (⟨#[]⟩ : ByteArray) ++ digM k ++ ⟨#[45]⟩ ++ digM y = sB m (k + 1) := by
                  rw [sB_first HST.out hs, pieceB, hy, if_pos he]
                  simp only [bm_assoc, bm_empty]
                have HE := Lib.hid hE
                clear hE
                go_wp2_with (first | (go_at_call 18; refine (sMaskHas_any _ _ _).mono ?_; rintro e w' ⟨rfl, rfl⟩) | (go_at_call 19; refine (l2Digit_any _ (by omega) (by omega) _ W (by assumption)).mono ?_; rintro e w9 ⟨rfl, hb9⟩))
                go_roundw
                case rel => exact ⟨k + 1, by omega, by rw [← HE.out], by go_num, by assumption⟩
                case measure => simp [intOf]; omega
              · have hE : (⟨#[]⟩ : ByteArray) ++ digM k = sB m (k + 1) := by
                  rw [sB_first HST.out hs, pieceB, hy, if_neg he]
                  simp only [bm_empty]
                have HE := Lib.hid hE
                clear hE
                go_wp2_with (first | (go_at_call 18; refine (sMaskHas_any _ _ _).mono ?_; rintro e w' ⟨rfl, rfl⟩) | (go_at_call 19; refine (l2Digit_any _ (by omega) (by omega) _ W (by assumption)).mono ?_; rintro e w9 ⟨rfl, hb9⟩))
                go_roundw
                case rel => exact ⟨k + 1, by omega, by rw [← HE.out], by go_num, by assumption⟩
                case measure => simp [intOf]; omega
            · have hs2 : ((sB m k).toList == []) = false := by rw [beq_eq_false_iff_ne, ByteArray.toList_eq]; intro e; exact hs (ByteArray.ext (by simpa using e))
              have a0 := fun w => run_string_add_sum (P := Tryd.prog) w (sB m k) ⟨#[44]⟩ (by omega)
              have d6 : (sB m k ++ ⟨#[44]⟩).size = (sB m k).size + 1 := by rw [ByteArray.size_append, d3]
              have a1 := fun w => run_string_add_sum (P := Tryd.prog) w (sB m k ++ ⟨#[44]⟩) (digM k) (by omega)
              by_cases he : (k : Int) < y
              · have d7 : ((sB m k ++ ⟨#[44]⟩) ++ digM k).size = (sB m k ++ ⟨#[44]⟩).size + 1 := by rw [ByteArray.size_append, d1]
                have d8 : ((sB m k ++ ⟨#[44]⟩) ++ digM k ++ ⟨#[45]⟩).size = (sB m k ++ ⟨#[44]⟩).size + 2 := by rw [ByteArray.size_append, d7, d4]
                have a2 := fun w => run_string_add_sum (P := Tryd.prog) w ((sB m k ++ ⟨#[44]⟩) ++ digM k) ⟨#[45]⟩ (by omega)
                have a3 := fun w => run_string_add_sum (P := Tryd.prog) w ((sB m k ++ ⟨#[44]⟩) ++ digM k ++ ⟨#[45]⟩) (digM y) (by omega)
                have hE : (sB m k ++ ⟨#[44]⟩) ++ digM k ++ ⟨#[45]⟩ ++ digM y = sB m (k + 1) := by
                  rw [sB_more HST.out hs, pieceB, hy, if_pos he]
                  simp only [bm_assoc]
                have HE := Lib.hid hE
                clear hE
                go_wp2_with (first | (go_at_call 18; refine (sMaskHas_any _ _ _).mono ?_; rintro e w' ⟨rfl, rfl⟩) | (go_at_call 19; refine (l2Digit_any _ (by omega) (by omega) _ W (by assumption)).mono ?_; rintro e w9 ⟨rfl, hb9⟩))
                go_roundw
                case rel => exact ⟨k + 1, by omega, by rw [← HE.out], by go_num, by assumption⟩
                case measure => simp [intOf]; omega
              · have hE : (sB m k ++ ⟨#[44]⟩) ++ digM k = sB m (k + 1) := by
                  rw [sB_more HST.out hs, pieceB, hy, if_neg he]
                have HE := Lib.hid hE
                clear hE
                go_wp2_with (first | (go_at_call 18; refine (sMaskHas_any _ _ _).mono ?_; rintro e w' ⟨rfl, rfl⟩) | (go_at_call 19; refine (l2Digit_any _ (by omega) (by omega) _ W (by assumption)).mono ?_; rintro e w9 ⟨rfl, hb9⟩))
                go_roundw
                case rel => exact ⟨k + 1, by omega, by rw [← HE.out], by go_num, by assumption⟩
                case measure => simp [intOf]; omega
          · have hy1 := (has_le h3).2
            have hl2 := (lastE_go (by omega) h3).trans hl
            go_wp2_with (go_at_call 18; refine (sMaskHas_any _ _ _).mono ?_; rintro e w' ⟨rfl, rfl⟩)
            go_roundw
            case rel => exact ⟨y + 1, by omega, by omega, by go_num, hl2, hbr2⟩
            case measure => simp [intOf]; omega
    · obtain rfl : k = 4 := by omega
      go_wp2
      go_ret
      exact ⟨rfl, hbr⟩
end Go.Proofs.YtclepnpdkmcaeaaDoor

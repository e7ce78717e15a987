/- Marks: the texts of marks. -/
import Derived.Test.YtndbmeedimhohaaK3Base
import Derived.Laws.Concat
import Derived.Laws.BytesString
namespace Go.Proofs.Ytndbmeedimhohaa
open Go.RowKit
def digB (k : Int) : ByteArray := ⟨#[UInt8.ofNat (48 + k % 10).toNat]⟩
def mtF : Nat → Int → ByteArray → ByteArray
  | 0, _, s => s
  | f + 1, k, s => if k ≤ 0 then s else mtF f (k / 10) (digB k ++ s)
/-- The text of a mark. -/
def mText (k : Int) : ByteArray := if k ≤ 0 then ⟨#[109, 48]⟩ else ⟨#[109]⟩ ++ mtF 20 k ⟨#[]⟩
theorem conv1 (d : Int) (w : World) : (convert 64 9 (.slice (some ⟨w.heap.size, 0, none⟩) 1 1)).run Try.prog (w.alloc (.cells #[.int .u8 d] 5)) = .ok (.string ⟨#[UInt8.ofNat d.toNat]⟩) (w.alloc (.cells #[.int .u8 d] 5)) := by
  have hc : (w.alloc (.cells #[.int .u8 d] 5)).cell? ⟨w.heap.size, 0, none⟩ = some (.int .u8 d) := (Bk.new w 5 #[.int .u8 d]).cell 0
  rw [run_convert_bytes_string _ 64 9 5 _ _ _ Try.underlying64 Try.underlying5 Try.underlying9]
  rw [run_bytesToString _ _ 1 1 [d] (by simp [loadCells, hc, go_sem])]
  rfl
set_option maxHeartbeats 1000000 in
theorem markText_any (k : Int) (hk : k ≤ 4000000000000000) (w W : World) (hb : Below W.heap.size W w) :
    Calls Try.prog 26 #[.int .i64 k] w fun e w' => e = .returned (.string (mText k)) ∧ Below W.heap.size W w' := by
  by_cases h0 : k ≤ 0
  · have hE : mText k = ⟨#[109, 48]⟩ := by simp [mText, h0]
    rw [hE]
    go_enter Try.func26, Try.ntmps26
    go_wp2
    go_ret
    exact ⟨rfl, hb⟩
  obtain ⟨M, hM⟩ : ∃ M, M = mtF 20 k ⟨#[]⟩ := ⟨_, rfl⟩
  have hE : mText k = ⟨#[109]⟩ ++ M := by simp [mText, h0, hM]
  rw [hE]
  have HM := Lib.hid hM
  clear hM hE
  go_enter Try.func26, Try.ntmps26
  go_wp2
  go_loopw [0, 3] (fun x t wr => ∃ (f : Nat) (y : Int) (s : ByteArray), x = .int .i64 y ∧ t = .string s ∧ 0 ≤ y ∧ y ≤ 4000000000000000 ∧ s.size + f = 20 ∧ y < 10 ^ f ∧ Hid (M = mtF f y s) ∧ Below W.heap.size W wr) (fun x _ _ => (intOf x).toNat)
  case atStart => exact ⟨20, k, _, rfl, rfl, by omega, hk, rfl, by omega, HM, hb⟩
  case round =>
    obtain ⟨f, y, s, rfl, rfl, hy0, hy1, hs, hyf, HR, hbr⟩ := hrel
    by_cases hy : y ≤ 0
    · obtain rfl : y = 0 := by omega
      have hMs : M = s := by
        rw [HR.out]
        cases f <;> simp [mtF]
      have e0 : (⟨#[109]⟩ : ByteArray).size = 1 := rfl
      have a1 := fun w => run_string_add_sum (P := Try.prog) w ⟨#[109]⟩ s (by omega)
      clear e0 HR HM
      go_wp2
      go_ret
      exact ⟨by first | rfl | (rw [hMs]; rfl), hbr⟩
    · have hy' : 0 < y := by omega
      obtain ⟨f', rfl⟩ : ∃ f', f = f' + 1 := by
        cases f with
        | zero => simp at hyf; omega
        | succ f' => exact ⟨f', rfl⟩
      have hcv := conv1 (48 + y % 10)
      have hsz := hbr.size
      have e0 : (digB y).size = 1 := rfl
      have a1 : ∀ w, (Op.stringOp .add ⟨#[UInt8.ofNat (48 + y % 10).toNat]⟩ s).run Try.prog w = .ok (.string (digB y ++ s)) w := fun w => run_string_add_sum (P := Try.prog) w (digB y) s (by omega)
      have HN : Hid (M = mtF f' (y / 10) (digB y ++ s)) := Lib.hid (by rw [HR.out]; simp [mtF, hy])
      have hs2 : (digB y ++ s).size + f' = 20 := by rw [ByteArray.size_append]; omega
      have hp2 : y / 10 < 10 ^ f' := by
        have : (10 : Int) ^ (f' + 1) = 10 ^ f' * 10 := by rw [Int.pow_succ]
        omega
      have HS2 := Lib.hid hs2
      have HP2 := Lib.hid hp2
      clear e0 hs2 hp2 hyf hs HR HM
      go_wp2
      go_roundw
      case rel => exact ⟨f', y / 10, _, rfl, rfl, by omega, by omega, HS2.out, HP2.out, HN, hbr.alloc hsz _⟩
      case measure => simp only [intOf]; omega
end Go.Proofs.Ytndbmeedimhohaa

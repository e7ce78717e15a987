/- NameOk of impl and spec: by one plain function on the bytes. -/
import Derived.Test.YtclloljigdmdnaaS1Base
import Derived.Test.YtclloljigdmdnaaMem
namespace Go.Proofs.Ytclloljigdmdnaa
open Go.RowKit
def goodByte (b : UInt8) : Bool := decide ((97 ≤ b.toNat ∧ b.toNat ≤ 122) ∨ (48 ≤ b.toNat ∧ b.toNat ≤ 57))
def isFile (s : ByteArray) : Bool := s.toList == [119, 101, 105, 103, 104, 116] || s.toList == [109, 97, 120] || s.toList == [99, 112, 117, 115] || s.toList == [112, 114, 111, 99, 115] || s.toList == [115, 116, 97, 116]
def nameOk (s : ByteArray) : Bool := inR s.size 1 8 && !isFile s && s.data.toList.all goodByte
def okUpto (s : ByteArray) (k : Nat) : Bool := (s.data.toList.take k).all goodByte
theorem okUpto_succ (s : ByteArray) (k : Nat) (h : k < s.size) : okUpto s (k + 1) = (okUpto s k && goodByte s[k]) := by
  unfold okUpto
  rw [List.take_succ_eq_append_getElem (by simpa using h), List.all_append]
  simp
  rfl
theorem okUpto_all (s : ByteArray) : okUpto s s.size = s.data.toList.all goodByte := by
  unfold okUpto
  rw [List.take_of_length_le (by simp)]
theorem ok_false (s : ByteArray) (k : Nat) (h : k < s.size) (hb : goodByte s[k] = false) : s.data.toList.all goodByte = false := by
  rw [List.all_eq_false]
  refine ⟨s[k], ?_, by simp [hb]⟩
  have : s[k] = s.data.toList[k]'(by simpa using h) := by simp; rfl
  rw [this]
  exact List.getElem_mem _
theorem goodByte_t1 (b : UInt8) (h1 : 97 ≤ (b.toNat : Int)) (h2 : (b.toNat : Int) ≤ 122) : goodByte b = true := by simp [goodByte]; omega
theorem goodByte_t2 (b : UInt8) (h1 : 48 ≤ (b.toNat : Int)) (h2 : (b.toNat : Int) ≤ 57) : goodByte b = true := by simp [goodByte]; omega
theorem goodByte_f (b : UInt8) (h : ¬ (97 ≤ (b.toNat : Int) ∧ (b.toNat : Int) ≤ 122)) (h2 : ¬ (48 ≤ (b.toNat : Int) ∧ (b.toNat : Int) ≤ 57)) : goodByte b = false := by simp [goodByte]; omega
theorem nameOk_file (s : ByteArray) (h : isFile s = true) : nameOk s = false := by simp [nameOk, h]
theorem nameOk_len (s : ByteArray) (h : inR s.size 1 8 = false) : nameOk s = false := by simp [nameOk, h]
theorem nameOk_bad (s : ByteArray) (k : Nat) (h : k < s.size) (hb : goodByte s[k] = false) : nameOk s = false := by
  unfold nameOk
  rw [ok_false s k h hb, Bool.and_false]
theorem nameOk_good (s : ByteArray) (h1 : inR s.size 1 8 = true) (h2 : isFile s = false) (h : okUpto s s.size = true) : nameOk s = true := by
  unfold nameOk
  rw [← okUpto_all, h1, h2, h]
  rfl
theorem ret_bool5 {a b : Bool} (h : a = b) : Ending.returned (.bool a) = .returned (.bool b) := by rw [h]

theorem l6File_any (s : ByteArray) (w : World) :
    Calls Try.prog 43 #[.string s] w fun e w' => e = .returned (.bool (isFile s)) ∧ w = w' := by
  unfold isFile
  cases h1 : s.toList == [119, 101, 105, 103, 104, 116] <;> cases h2 : s.toList == [109, 97, 120] <;> cases h3 : s.toList == [99, 112, 117, 115] <;> cases h4 : s.toList == [112, 114, 111, 99, 115] <;> cases h5 : s.toList == [115, 116, 97, 116]
  all_goals
    go_enter Try.func43, Try.ntmps43
    go_wp2
    go_ret
    exact ⟨rfl, rfl⟩
set_option maxHeartbeats 400000 in
theorem iNameOk_any (s : ByteArray) (w W : World) (hb : Below W.heap.size W w) :
    Calls Try.prog 46 #[.string s] w fun e w' => e = .returned (.bool (nameOk s)) ∧ Below W.heap.size W w' := by
  have hz := hb.size
  cases h1 : s.toList == [119, 101, 105, 103, 104, 116]
  case true =>
    rw [nameOk_file s (by simp [isFile, h1])]
    go_enter Try.func46, Try.ntmps46
    go_wp2
    go_ret
    exact ⟨rfl, hb⟩
  cases h2 : s.toList == [109, 97, 120]
  case true =>
    rw [nameOk_file s (by simp [isFile, h2])]
    go_enter Try.func46, Try.ntmps46
    go_wp2
    go_ret
    exact ⟨rfl, hb⟩
  cases h3 : s.toList == [99, 112, 117, 115]
  case true =>
    rw [nameOk_file s (by simp [isFile, h3])]
    go_enter Try.func46, Try.ntmps46
    go_wp2
    go_ret
    exact ⟨rfl, hb⟩
  cases h4 : s.toList == [112, 114, 111, 99, 115]
  case true =>
    rw [nameOk_file s (by simp [isFile, h4])]
    go_enter Try.func46, Try.ntmps46
    go_wp2
    go_ret
    exact ⟨rfl, hb⟩
  cases h5 : s.toList == [115, 116, 97, 116]
  case true =>
    rw [nameOk_file s (by simp [isFile, h5])]
    go_enter Try.func46, Try.ntmps46
    go_wp2
    go_ret
    exact ⟨rfl, hb⟩
  have hf : isFile s = false := by simp [isFile, h1, h2, h3, h4, h5]
  cases h6 : inR s.size 1 8
  · rw [nameOk_len s h6]
    go_enter Try.func46, Try.ntmps46
    go_wp2_with (go_at_call 49; refine (inRange_any _ _ _ _).mono ?_; rintro e w' ⟨rfl, rfl⟩)
    go_ret
    exact ⟨rfl, hb⟩
  · have HF := Lib.hid hf
    clear hf
    go_enter Try.func46, Try.ntmps46
    go_wp2_with (go_at_call 49; refine (inRange_any _ _ _ _).mono ?_; rintro e w' ⟨rfl, rfl⟩)
    go_loopw [] (fun wr => ∃ pos : Nat, pos ≤ s.size ∧ wr = w.iter s pos ∧ Hid (okUpto s pos = true)) (fun wr => s.size - wr.iterPos w.heap.size)
    case atStart => exact ⟨0, Nat.zero_le _, rfl, rfl⟩
    case round =>
      obtain ⟨pos, hp, rfl, HK⟩ := hrel
      have hbi : Below W.heap.size W (w.iter s pos) := hb.alloc hz _
      by_cases hlt : pos < s.size
      · by_cases ha : (s[pos]'hlt).toNat < 128
        · have hnx : ∀ ty, (Instr.next (.pointer (some ⟨w.heap.size, 0, none⟩)) true ty).run Try.prog (w.iter s pos) = _ := fun ty => run_next_ascii w s pos ty hlt ha
          by_cases hg : goodByte s[pos] = true
          · have HK2 : Hid (okUpto s (pos + 1) = true) := by
              show okUpto s (pos + 1) = true
              rw [okUpto_succ s pos hlt, HK.out, hg]; rfl
            have hg2 : (97 ≤ ((s[pos]'hlt).toNat : Int) ∧ ((s[pos]'hlt).toNat : Int) ≤ 122) ∨ ¬ (97 ≤ ((s[pos]'hlt).toNat : Int)) ∧ (48 ≤ ((s[pos]'hlt).toNat : Int) ∧ ((s[pos]'hlt).toNat : Int) ≤ 57) := by
              simp [goodByte] at hg; omega
            clear hg
            rcases hg2 with ⟨g1, g2⟩ | ⟨g1, g2, g3⟩
            all_goals
              go_wp2
              go_roundw
              case rel => exact ⟨pos + 1, by omega, rfl, HK2⟩
              case measure => simp; omega
          · have HN := Lib.hid (nameOk_bad s pos hlt (by simpa using hg))
            have hg2 : ¬ (97 ≤ ((s[pos]'hlt).toNat : Int)) ∧ ¬ (48 ≤ ((s[pos]'hlt).toNat : Int)) ∨ ¬ (97 ≤ ((s[pos]'hlt).toNat : Int)) ∧ (48 ≤ ((s[pos]'hlt).toNat : Int)) ∧ ¬ (((s[pos]'hlt).toNat : Int) ≤ 57) ∨ (97 ≤ ((s[pos]'hlt).toNat : Int)) ∧ ¬ (((s[pos]'hlt).toNat : Int) ≤ 122) ∧ (48 ≤ ((s[pos]'hlt).toNat : Int)) ∧ ¬ (((s[pos]'hlt).toNat : Int) ≤ 57) := by
              simp [goodByte] at hg; omega
            clear hg
            rcases hg2 with ⟨g1, g2⟩ | ⟨g1, g2, g3⟩ | ⟨g1, g2, g3, g4⟩
            all_goals
              go_wp2
              go_ret
              exact ⟨ret_bool5 HN.out.symm, hb.alloc hz _⟩
        · have HN := Lib.hid (nameOk_bad s pos hlt (goodByte_f _ (by omega) (by omega)))
          have hnx : ∀ ty, (Instr.next (.pointer (some ⟨w.heap.size, 0, none⟩)) true ty).run Try.prog (w.iter s pos) = _ := fun ty => run_next_any w s pos ty hlt
          have hh := decode_high s pos hlt (by omega)
          have hh1 : (97 : Int) ≤ ((Utf8.decode s pos).1 : Int) := by omega
          have hh2 : (48 : Int) ≤ ((Utf8.decode s pos).1 : Int) := by omega
          have hh3 : ¬ ((Utf8.decode s pos).1 : Int) ≤ 122 := by omega
          have hh4 : ¬ ((Utf8.decode s pos).1 : Int) ≤ 57 := by omega
          clear hh
          go_wp2
          go_ret
          exact ⟨ret_bool5 HN.out.symm, hb.alloc hz _⟩
      · obtain rfl : pos = s.size := by omega
        have HN := Lib.hid (nameOk_good s h6 HF.out HK.out)
        have hnx : ∀ ty, (Instr.next (.pointer (some ⟨w.heap.size, 0, none⟩)) true ty).run Try.prog (w.iter s s.size) = _ := fun ty => run_next_end w s s.size ty hlt
        go_wp2
        go_ret
        exact ⟨ret_bool5 HN.out.symm, hbi⟩
set_option maxHeartbeats 400000 in
theorem sNameOk_any (s : ByteArray) (w : World) :
    Calls Try.prog 26 #[.string s] w fun e w' => e = .returned (.bool (nameOk s)) ∧ w = w' := by
  cases h6 : inR s.size 1 8
  · rw [nameOk_len s h6]
    go_enter Try.func26, Try.ntmps26
    go_wp2_with (go_at_call 27; refine (l1In_any _ _ _ _).mono ?_; rintro e w' ⟨rfl, rfl⟩)
    go_ret
    exact ⟨rfl, rfl⟩
  cases hf : isFile s
  case true =>
    rw [nameOk_file s hf]
    go_enter Try.func26, Try.ntmps26
    go_wp2_with (first | (go_at_call 27; refine (l1In_any _ _ _ _).mono ?_; rintro e w' ⟨rfl, rfl⟩) | (go_at_call 43; refine (l6File_any _ _).mono ?_; rintro e w' ⟨rfl, rfl⟩))
    go_ret
    exact ⟨rfl, rfl⟩
  obtain ⟨l1, l2⟩ := inR_iff.1 h6
  go_enter Try.func26, Try.ntmps26
  go_wp2_with (first | (go_at_call 27; refine (l1In_any _ _ _ _).mono ?_; rintro e w' ⟨rfl, rfl⟩) | (go_at_call 43; refine (l6File_any _ _).mono ?_; rintro e w' ⟨rfl, rfl⟩))
  go_loop [3] (fun i => ∃ pos : Nat, pos ≤ s.size ∧ i = .int .i64 pos ∧ Hid (okUpto s pos = true)) (fun i => s.size - (intOf i).toNat)
  case atStart => exact ⟨0, Nat.zero_le _, rfl, rfl⟩
  case round =>
    obtain ⟨pos, hp, rfl, HK⟩ := hrel
    by_cases hlt : pos < s.size
    · by_cases hg : goodByte s[pos] = true
      · have HK2 : Hid (okUpto s (pos + 1) = true) := by
          show okUpto s (pos + 1) = true
          rw [okUpto_succ s pos hlt, HK.out, hg]; rfl
        have hg2 : (97 ≤ ((s[pos]'hlt).toNat : Int) ∧ ((s[pos]'hlt).toNat : Int) ≤ 122) ∨ ¬ (97 ≤ ((s[pos]'hlt).toNat : Int)) ∧ (48 ≤ ((s[pos]'hlt).toNat : Int) ∧ ((s[pos]'hlt).toNat : Int) ≤ 57) := by
          simp [goodByte] at hg; omega
        clear hg
        rcases hg2 with ⟨g1, g2⟩ | ⟨g1, g2, g3⟩
        all_goals
          go_wp2
          go_round
          case rel => exact ⟨pos + 1, by omega, by go_num, HK2⟩
          case measure => simp [intOf]; omega
      · have HN := Lib.hid (nameOk_bad s pos hlt (by simpa using hg))
        have hg2 : ¬ (97 ≤ ((s[pos]'hlt).toNat : Int)) ∧ ¬ (48 ≤ ((s[pos]'hlt).toNat : Int)) ∨ ¬ (97 ≤ ((s[pos]'hlt).toNat : Int)) ∧ (48 ≤ ((s[pos]'hlt).toNat : Int)) ∧ ¬ (((s[pos]'hlt).toNat : Int) ≤ 57) ∨ (97 ≤ ((s[pos]'hlt).toNat : Int)) ∧ ¬ (((s[pos]'hlt).toNat : Int) ≤ 122) ∧ (48 ≤ ((s[pos]'hlt).toNat : Int)) ∧ ¬ (((s[pos]'hlt).toNat : Int) ≤ 57) := by
          simp [goodByte] at hg; omega
        clear hg
        rcases hg2 with ⟨g1, g2⟩ | ⟨g1, g2, g3⟩ | ⟨g1, g2, g3, g4⟩
        all_goals
          go_wp2
          go_ret
          exact ⟨ret_bool5 HN.out.symm, rfl⟩
    · obtain rfl : pos = s.size := by omega
      have HN := Lib.hid (nameOk_good s h6 hf HK.out)
      go_wp2
      go_ret
      exact ⟨ret_bool5 HN.out.symm, rfl⟩
end Go.Proofs.Ytclloljigdmdnaa

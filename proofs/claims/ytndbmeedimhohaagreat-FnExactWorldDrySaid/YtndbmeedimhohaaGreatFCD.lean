/- NameOk of impl and spec: by one plain function on the bytes. -/
import Derived.Test.YtndbmeedimhohaaGreatFCA
import Derived.Test.YtndbmeedimhohaaGreatFCB
namespace Go.Proofs.YtndbmeedimhohaaGreat
open Go.RowKit
def goodByte (b : UInt8) : Bool := decide ((97 ≤ b.toNat ∧ b.toNat ≤ 122) ∨ (48 ≤ b.toNat ∧ b.toNat ≤ 57))
def isFile (s : ByteArray) : Bool := s.toList == [119, 101, 105, 103, 104, 116] || s.toList == [109, 97, 120] || s.toList == [99, 112, 117, 115] || s.toList == [112, 114, 111, 99, 115] || s.toList == [115, 116, 97, 116]
def nameOk (s : ByteArray) : Bool := inR s.size 1 8 && !isFile s && s.data.toList.all goodByte
def okUpto (s : ByteArray) (k : Nat) : Bool := (s.data.toList.take k).all goodByte
theorem okUpto_succ (s : ByteArray) (k : Nat) (h : k < s.size) : okUpto s (k + 1) = (okUpto s k && goodByte s[k]) := by
  unfold okUpto
  rw [List.take_succ_eq_append_getElem (by simpa using h), List.all_append]
  simp
  rfl
theorem okUpto_all (s : ByteArray) : okUpto s s.size = s.data.toList.all goodByte := by
  unfold okUpto
  rw [List.take_of_length_le (by simp)]
theorem ok_false (s : ByteArray) (k : Nat) (h : k < s.size) (hb : goodByte s[k] = false) : s.data.toList.all goodByte = false := by
  rw [List.all_eq_false]
  refine ⟨s[k], ?_, by simp [hb]⟩
  have : s[k] = s.data.toList[k]'(by simpa using h) := by simp; rfl
  rw [this]
  exact List.getElem_mem _
theorem goodByte_t1 (b : UInt8) (h1 : 97 ≤ (b.toNat : Int)) (h2 : (b.toNat : Int) ≤ 122) : goodByte b = true := by simp [goodByte]; omega
theorem goodByte_t2 (b : UInt8) (h1 : 48 ≤ (b.toNat : Int)) (h2 : (b.toNat : Int) ≤ 57) : goodByte b = true := by simp [goodByte]; omega
theorem goodByte_f (b : UInt8) (h : ¬ (97 ≤ (b.toNat : Int) ∧ (b.toNat : Int) ≤ 122)) (h2 : ¬ (48 ≤ (b.toNat : Int) ∧ (b.toNat : Int) ≤ 57)) : goodByte b = false := by simp [goodByte]; omega
theorem nameOk_file (s : ByteArray) (h : isFile s = true) : nameOk s = false := by simp [nameOk, h]
theorem nameOk_len (s : ByteArray) (h : inR s.size 1 8 = false) : nameOk s = false := by simp [nameOk, h]
theorem nameOk_bad (s : ByteArray) (k : Nat) (h : k < s.size) (hb : goodByte s[k] = false) : nameOk s = false := by
  unfold nameOk
  rw [ok_false s k h hb, Bool.and_false]
theorem nameOk_good (s : ByteArray) (h1 : inR s.size 1 8 = true) (h2 : isFile s = false) (h : okUpto s s.size = true) : nameOk s = true := by
  unfold nameOk
  rw [← okUpto_all, h1, h2, h]
  rfl
theorem ret_bool5 {a b : Bool} (h : a = b) : Ending.returned (.bool a) = .returned (.bool b) := by rw [h]

theorem l6File_any (s : ByteArray) (w : World) :
    Calls Tryz.prog 104 #[.string s] w fun e w' => e = .returned (.bool (isFile s)) ∧ w = w' := by
  unfold isFile
  cases h1 : s.toList == [119, 101, 105, 103, 104, 116] <;> cases h2 : s.toList == [109, 97, 120] <;> cases h3 : s.toList == [99, 112, 117, 115] <;> cases h4 : s.toList == [112, 114, 111, 99, 115] <;> cases h5 : s.toList == [115, 116, 97, 116]
  all_goals
    go_enter Tryz.func104, Tryz.ntmps104
    go_wp2
    go_ret
    exact ⟨rfl, rfl⟩
set_option maxHeartbeats 400000 in
theorem iNameOk_any (s : ByteArray) (w W : World) (hb : Below W.heap.size W w) :
    Calls Tryz.prog 124 #[.string s] w fun e w' => e = .returned (.bool (nameOk s)) ∧ Below W.heap.size W w' := by
  have hz := hb.size
  cases h1 : s.toList == [119, 101, 105, 103, 104, 116]
  case true =>
    rw [nameOk_file s (by simp [isFile, h1])]
    go_enter Tryz.func124, Tryz.ntmps124
    go_wp2
    go_ret
    exact ⟨rfl, hb⟩
  cases h2 : s.toList == [109, 97, 120]
  case true =>
    rw [nameOk_file s (by simp [isFile, h2])]
    go_enter Tryz.func124, Tryz.ntmps124
    go_wp2
    go_ret
    exact ⟨rfl, hb⟩
  cases h3 : s.toList == [99, 112, 117, 115]
  case true =>
    rw [nameOk_file s (by simp [isFile, h3])]
    go_enter Tryz.func124, Tryz.ntmps124
    go_wp2
    go_ret
    exact ⟨rfl, hb⟩
  cases h4 : s.toList == [112, 114, 111, 99, 115]
  case true =>
    rw [nameOk_file s (by simp [isFile, h4])]
    go_enter Tryz.func124, Tryz.ntmps124
    go_wp2
    go_ret
    exact ⟨rfl, hb⟩
  cases h5 : s.toList == [115, 116, 97, 116]
  case true =>
    rw [nameOk_file s (by simp [isFile, h5])]
    go_enter Tryz.func124, Tryz.ntmps124
    go_wp2
    go_ret
    exact ⟨rfl, hb⟩
  have hf : isFile s = false := by simp [isFile, h1, h2, h3, h4, h5]
  cases h6 : inR s.size 1 8
  · rw [nameOk_len s h6]
    go_enter Tryz.func124, Tryz.ntmps124
    go_wp2_with (go_at_call 61; refine (inRange_any _ _ _ _).mono ?_; rintro e w' ⟨rfl, rfl⟩)
    go_ret
    exact ⟨rfl, hb⟩
  · have HF := Lib.hid hf
    clear hf
    go_enter Tryz.func124, Tryz.ntmps124
    go_wp2_with (go_at_call 61; refine (inRange_any _ _ _ _).mono ?_; rintro e w' ⟨rfl, rfl⟩)
    go_loopw [] (fun wr => ∃ pos : Nat, pos ≤ s.size ∧ wr = w.iter s pos ∧ Hid (okUpto s pos = true)) (fun wr => s.size - wr.iterPos w.heap.size)
    case atStart => exact ⟨0, Nat.zero_le _, rfl, rfl⟩
    case round =>
      obtain ⟨pos, hp, rfl, HK⟩ := hrel
      have hbi : Below W.heap.size W (w.iter s pos) := hb.alloc hz _
      by_cases hlt : pos < s.size
      · by_cases ha : (s[pos]'hlt).toNat < 128
        · have hnx : ∀ ty, (Instr.next (.pointer (some ⟨w.heap.size, 0, none⟩)) true ty).run Tryz.prog (w.iter s pos) = _ := fun ty => run_next_ascii w s pos ty hlt ha
          by_cases hg : goodByte s[pos] = true
          · have HK2 : Hid (okUpto s (pos + 1) = true) := by
              show okUpto s (pos + 1) = true
              rw [okUpto_succ s pos hlt, HK.out, hg]; rfl
            have hg2 : (97 ≤ ((s[pos]'hlt).toNat : Int) ∧ ((s[pos]'hlt).toNat : Int) ≤ 122) ∨ ¬ (97 ≤ ((s[pos]'hlt).toNat : Int)) ∧ (48 ≤ ((s[pos]'hlt).toNat : Int) ∧ ((s[pos]'hlt).toNat : Int) ≤ 57) := by
              simp [goodByte] at hg; omega
            clear hg
            rcases hg2 with ⟨g1, g2⟩ | ⟨g1, g2, g3⟩
            all_goals
              go_wp2
              go_roundw
              case rel => exact ⟨pos + 1, by omega, rfl, HK2⟩
              case measure => simp; omega
          · have HN := Lib.hid (nameOk_bad s pos hlt (by simpa using hg))
            have hg2 : ¬ (97 ≤ ((s[pos]'hlt).toNat : Int)) ∧ ¬ (48 ≤ ((s[pos]'hlt).toNat : Int)) ∨ ¬ (97 ≤ ((s[pos]'hlt).toNat : Int)) ∧ (48 ≤ ((s[pos]'hlt).toNat : Int)) ∧ ¬ (((s[pos]'hlt).toNat : Int) ≤ 57) ∨ (97 ≤ ((s[pos]'hlt).toNat : Int)) ∧ ¬ (((s[pos]'hlt).toNat : Int) ≤ 122) ∧ (48 ≤ ((s[pos]'hlt).toNat : Int)) ∧ ¬ (((s[pos]'hlt).toNat : Int) ≤ 57) := by
              simp [goodByte] at hg; omega
            clear hg
            rcases hg2 with ⟨g1, g2⟩ | ⟨g1, g2, g3⟩ | ⟨g1, g2, g3, g4⟩
            all_goals
              go_wp2
              go_ret
              exact ⟨ret_bool5 HN.out.symm, hb.alloc hz _⟩
        · have HN := Lib.hid (nameOk_bad s pos hlt (goodByte_f _ (by omega) (by omega)))
          have hnx : ∀ ty, (Instr.next (.pointer (some ⟨w.heap.size, 0, none⟩)) true ty).run Tryz.prog (w.iter s pos) = _ := fun ty => run_next_any w s pos ty hlt
          have hh := decode_high s pos hlt (by omega)
          have hh1 : (97 : Int) ≤ ((Utf8.decode s pos).1 : Int) := by omega
          have hh2 : (48 : Int) ≤ ((Utf8.decode s pos).1 : Int) := by omega
          have hh3 : ¬ ((Utf8.decode s pos).1 : Int) ≤ 122 := by omega
          have hh4 : ¬ ((Utf8.decode s pos).1 : Int) ≤ 57 := by omega
          clear hh
          go_wp2
          go_ret
          exact ⟨ret_bool5 HN.out.symm, hb.alloc hz _⟩
      · obtain rfl : pos = s.size := by omega
        have HN := Lib.hid (nameOk_good s h6 HF.out HK.out)
        have hnx : ∀ ty, (Instr.next (.pointer (some ⟨w.heap.size, 0, none⟩)) true ty).run Tryz.prog (w.iter s s.size) = _ := fun ty => run_next_end w s s.size ty hlt
        go_wp2
        go_ret
        exact ⟨ret_bool5 HN.out.symm, hbi⟩
set_option maxHeartbeats 400000 in
theorem sNameOk_any (s : ByteArray) (w : World) :
    Calls Tryz.prog 70 #[.string s] w fun e w' => e = .returned (.bool (nameOk s)) ∧ w = w' := by
  cases h6 : inR s.size 1 8
  · rw [nameOk_len s h6]
    go_enter Tryz.func70, Tryz.ntmps70
    go_wp2_with (go_at_call 39; refine (l1In_any _ _ _ _).mono ?_; rintro e w' ⟨rfl, rfl⟩)
    go_ret
    exact ⟨rfl, rfl⟩
  cases hf : isFile s
  case true =>
    rw [nameOk_file s hf]
    go_enter Tryz.func70, Tryz.ntmps70
    go_wp2_with (first | (go_at_call 39; refine (l1In_any _ _ _ _).mono ?_; rintro e w' ⟨rfl, rfl⟩) | (go_at_call 104; refine (l6File_any _ _).mono ?_; rintro e w' ⟨rfl, rfl⟩))
    go_ret
    exact ⟨rfl, rfl⟩
  obtain ⟨l1, l2⟩ := inR_iff.1 h6
  go_enter Tryz.func70, Tryz.ntmps70
  go_wp2_with (first | (go_at_call 39; refine (l1In_any _ _ _ _).mono ?_; rintro e w' ⟨rfl, rfl⟩) | (go_at_call 104; refine (l6File_any _ _).mono ?_; rintro e w' ⟨rfl, rfl⟩))
  go_loop [3] (fun i => ∃ pos : Nat, pos ≤ s.size ∧ i = .int .i64 pos ∧ Hid (okUpto s pos = true)) (fun i => s.size - (intOf i).toNat)
  case atStart => exact ⟨0, Nat.zero_le _, rfl, rfl⟩
  case round =>
    obtain ⟨pos, hp, rfl, HK⟩ := hrel
    by_cases hlt : pos < s.size
    · by_cases hg : goodByte s[pos] = true
      · have HK2 : Hid (okUpto s (pos + 1) = true) := by
          show okUpto s (pos + 1) = true
          rw [okUpto_succ s pos hlt, HK.out, hg]; rfl
        have hg2 : (97 ≤ ((s[pos]'hlt).toNat : Int) ∧ ((s[pos]'hlt).toNat : Int) ≤ 122) ∨ ¬ (97 ≤ ((s[pos]'hlt).toNat : Int)) ∧ (48 ≤ ((s[pos]'hlt).toNat : Int) ∧ ((s[pos]'hlt).toNat : Int) ≤ 57) := by
          simp [goodByte] at hg; omega
        clear hg
        rcases hg2 with ⟨g1, g2⟩ | ⟨g1, g2, g3⟩
        all_goals
          go_wp2
          go_round
          case rel => exact ⟨pos + 1, by omega, by go_num, HK2⟩
          case measure => simp [intOf]; omega
      · have HN := Lib.hid (nameOk_bad s pos hlt (by simpa using hg))
        have hg2 : ¬ (97 ≤ ((s[pos]'hlt).toNat : Int)) ∧ ¬ (48 ≤ ((s[pos]'hlt).toNat : Int)) ∨ ¬ (97 ≤ ((s[pos]'hlt).toNat : Int)) ∧ (48 ≤ ((s[pos]'hlt).toNat : Int)) ∧ ¬ (((s[pos]'hlt).toNat : Int) ≤ 57) ∨ (97 ≤ ((s[pos]'hlt).toNat : Int)) ∧ ¬ (((s[pos]'hlt).toNat : Int) ≤ 122) ∧ (48 ≤ ((s[pos]'hlt).toNat : Int)) ∧ ¬ (((s[pos]'hlt).toNat : Int) ≤ 57) := by
          simp [goodByte] at hg; omega
        clear hg
        rcases hg2 with ⟨g1, g2⟩ | ⟨g1, g2, g3⟩ | ⟨g1, g2, g3, g4⟩
        all_goals
          go_wp2
          go_ret
          exact ⟨ret_bool5 HN.out.symm, rfl⟩
    · obtain rfl : pos = s.size := by omega
      have HN := Lib.hid (nameOk_good s h6 hf HK.out)
      go_wp2
      go_ret
      exact ⟨ret_bool5 HN.out.symm, rfl⟩
end Go.Proofs.YtndbmeedimhohaaGreat
namespace Go.Proofs.YtndbmeedimhohaaGreat

/-- A number is a slot in use. -/
def usedB (u : Nat → Bool) (n : Nat) (g : Int) : Bool := decide (0 ≤ g) && decide (g < n) && u g.toNat
theorem usedB_iff {u : Nat → Bool} {n : Nat} {g : Int} : usedB u n g = true ↔ 0 ≤ g ∧ g < n ∧ u g.toNat = true := by simp [usedB, and_assoc]
theorem usedB_nat {u : Nat → Bool} {n k : Nat} (hk : k < n) : usedB u n k = u k := by simp [usedB, hk]
/-- How many steps lead to the root; -1 if none do within so many looks. -/
def dep (u : Nat → Bool) (p : Nat → Int) (n : Nat) : Nat → Int → Int
  | 0, _ => -1
  | k + 1, g => if usedB u n g then (if g = 0 then 0 else if dep u p n k (p g.toNat) < 0 then -1 else dep u p n k (p g.toNat) + 1) else -1
section
variable {u : Nat → Bool} {p : Nat → Int} {n : Nat}
theorem dep_lt : ∀ (k : Nat) (g : Int), dep u p n k g < k ∧ -1 ≤ dep u p n k g
  | 0, g => by simp [dep]
  | k + 1, g => by
    have := dep_lt k (p g.toNat)
    unfold dep
    split
    · split
      · omega
      · split <;> omega
    · omega
theorem dep_stable : ∀ (k : Nat) (g : Int), 0 ≤ dep u p n k g → ∀ j : Nat, dep u p n k g < j → dep u p n j g = dep u p n k g
  | 0, g, h, _, _ => by simp [dep] at h
  | k + 1, g, h, 0, hj => by omega
  | k + 1, g, h, j + 1, hj => by
    unfold dep at h hj ⊢
    split
    · rename_i hu
      simp only [hu, if_true] at h hj
      split
      · rfl
      · rename_i hg
        simp only [hg, if_false] at h hj
        by_cases hd : dep u p n k (p g.toNat) < 0
        · simp only [hd, if_true] at h
          omega
        · simp only [hd, if_false] at h hj ⊢
          have := dep_stable k (p g.toNat) (by omega) j (by omega)
          rw [this, if_neg hd]
    · rename_i hu
      simp [hu] at h
theorem dep_zero (hu : usedB u n 0 = true) (k : Nat) (hk : 0 < k) : dep u p n k 0 = 0 := by
  obtain ⟨j, rfl⟩ : ∃ j, k = j + 1 := ⟨k - 1, by omega⟩
  simp [dep, hu]
theorem dep_unused {g : Int} (hu : usedB u n g = false) (k : Nat) : dep u p n k g = -1 := by
  cases k <;> simp [dep, hu]
theorem dep_step {g : Int} (hu : usedB u n g = true) (hg : g ≠ 0) (k : Nat) : dep u p n (k + 1) g = if dep u p n k (p g.toNat) < 0 then -1 else dep u p n k (p g.toNat) + 1 := by
  simp [dep, hu, hg]
/-- A depth of at most three is seen in four looks. -/
theorem dep_four (m : Nat) (hm : 4 ≤ m) (g : Int) : (0 ≤ dep u p n m g ∧ dep u p n m g ≤ 3) ↔ 0 ≤ dep u p n 4 g := by
  constructor
  · rintro ⟨h1, h2⟩
    rw [dep_stable m g h1 4 (by omega)]
    exact h1
  · intro h
    have h4 := (dep_lt (u := u) (p := p) (n := n) 4 g).1
    rw [dep_stable 4 g h m (by omega)]
    omega
theorem dep_four_eq (m : Nat) (hm : 4 ≤ m) (g : Int) (h : 0 ≤ dep u p n 4 g) : dep u p n m g = dep u p n 4 g := dep_stable 4 g h m (by have := (dep_lt (u := u) (p := p) (n := n) 4 g).1; omega)
theorem dep_parent {g : Int} (hg : g ≠ 0) {k : Nat} (h : 0 ≤ dep u p n (k + 1) g) : usedB u n g = true ∧ 0 ≤ dep u p n k (p g.toNat) ∧ usedB u n (p g.toNat) = true := by
  have hu : usedB u n g = true := by
    cases hh : usedB u n g
    · rw [dep_unused hh] at h; omega
    · rfl
  rw [dep_step hu hg] at h
  have h2 : 0 ≤ dep u p n k (p g.toNat) := by
    split at h <;> omega
  refine ⟨hu, h2, ?_⟩
  cases hh : usedB u n (p g.toNat)
  · rw [dep_unused hh] at h2; omega
  · rfl
end

/-- Another slot ahead of this one has the same parent and name. -/
def twinB (u : Nat → Bool) (p : Nat → Int) (nm : Nat → ByteArray) (g : Nat) : Bool := (List.range g).any fun h => decide (1 ≤ h) && u h && decide (p h = p g) && decide (nm h = nm g)
def rootB (u : Nat → Bool) (p : Nat → Int) (nm : Nat → ByteArray) (n : Nat) : Bool := decide (n = 8) && u 0 && decide (p 0 = -1) && decide (nm 0 = ByteArray.empty)
/-- What the reference asks of slot g. -/
def slotB (ok : ByteArray → Bool) (u : Nat → Bool) (p : Nat → Int) (nm : Nat → ByteArray) (n g : Nat) : Bool :=
  !u g || (ok (nm g) && inR (dep u p n (n + 1) g) 1 3 && !twinB u p nm g)
def treeOk (ok : ByteArray → Bool) (u : Nat → Bool) (p : Nat → Int) (nm : Nat → ByteArray) (n : Nat) : Bool :=
  rootB u p nm n && (List.range n).all fun g => decide (g = 0) || slotB ok u p nm n g
/-- What the program asks of slot g as it links it. -/
def linkB (ok : ByteArray → Bool) (u : Nat → Bool) (p : Nat → Int) (nm : Nat → ByteArray) (n g : Nat) : Bool :=
  !u g || (ok (nm g) && usedB u n (p g) && !twinB u p nm g)
section
variable {ok : ByteArray → Bool} {u : Nat → Bool} {p : Nat → Int} {nm : Nat → ByteArray} {n : Nat}
theorem treeOk_root (h : rootB u p nm n = false) : treeOk ok u p nm n = false := by simp [treeOk, h]
theorem treeOk_slot {g : Nat} (h0 : 1 ≤ g) (hg : g < n) (h : slotB ok u p nm n g = false) : treeOk ok u p nm n = false := by
  unfold treeOk
  cases hr : rootB u p nm n
  · rfl
  · rw [Bool.true_and, List.all_eq_false]
    exact ⟨g, List.mem_range.2 hg, by simp [h, show g ≠ 0 by omega]⟩
theorem treeOk_all (hr : rootB u p nm n = true) (h : ∀ g, 1 ≤ g → g < n → slotB ok u p nm n g = true) : treeOk ok u p nm n = true := by
  unfold treeOk
  rw [hr, Bool.true_and, List.all_eq_true]
  intro g hg
  rw [List.mem_range] at hg
  by_cases e : g = 0
  · simp [e]
  · simp [h g (by omega) hg]
theorem treeOk_spec (h : treeOk ok u p nm n = true) : rootB u p nm n = true ∧ ∀ g, 1 ≤ g → g < n → slotB ok u p nm n g = true := by
  unfold treeOk at h
  rw [Bool.and_eq_true, List.all_eq_true] at h
  refine ⟨h.1, fun g h1 h2 => ?_⟩
  have := h.2 g (List.mem_range.2 h2)
  simpa [show g ≠ 0 by omega] using this
theorem rootB_iff : rootB u p nm n = true ↔ n = 8 ∧ u 0 = true ∧ p 0 = -1 ∧ nm 0 = ByteArray.empty := by simp [rootB, and_assoc]
theorem twinB_of {g h : Nat} (h1 : 1 ≤ h) (h2 : h < g) (h3 : u h = true) (h4 : p h = p g) (h5 : nm h = nm g) : twinB u p nm g = true := by
  unfold twinB
  rw [List.any_eq_true]
  exact ⟨h, List.mem_range.2 h2, by simp [h1, h3, h4, h5]⟩
theorem twinB_not {g : Nat} (h : ∀ h, 1 ≤ h → h < g → ¬ (u h = true ∧ p h = p g ∧ nm h = nm g)) : twinB u p nm g = false := by
  unfold twinB
  rw [List.any_eq_false]
  intro k hk
  rw [List.mem_range] at hk
  intro hh
  simp only [Bool.and_eq_true, decide_eq_true_eq] at hh
  exact h k hh.1.1.1 hk ⟨hh.1.1.2, hh.1.2, hh.2⟩
/-- A slot whose link fails: no tree. -/
theorem treeOk_link {g : Nat} (h0 : 1 ≤ g) (hg : g < n) (h : linkB ok u p nm n g = false) : treeOk ok u p nm n = false := by
  refine treeOk_slot h0 hg ?_
  unfold linkB at h
  unfold slotB
  cases hu : u g
  · simp [hu] at h
  · simp only [hu, Bool.not_true, Bool.false_or] at h ⊢
    cases ho : ok (nm g)
    · rfl
    · cases ht : twinB u p nm g
      · simp only [ho, ht, Bool.true_and, Bool.not_false, Bool.and_true] at h ⊢
        have hg' : usedB u n (g : Int) = true := by rw [usedB_nat hg]; exact hu
        rw [dep_step hg' (by omega), Int.toNat_natCast, dep_unused h]
        rfl
      · simp
/-- All links stand, a used slot is too deep: no tree. -/
theorem treeOk_deep {g : Nat} (hg : g < n) (hu : u g = true) (h : dep u p n 4 g < 0) (hn : n = 8) : treeOk ok u p nm n = false := by
  by_cases e : g = 0
  · subst e
    have : usedB u n ((0 : Nat) : Int) = true := by rw [usedB_nat hg]; exact hu
    have h2 := dep_zero (p := p) this 4 (by omega)
    have e2 : ((0 : Nat) : Int) = 0 := rfl
    rw [e2] at h
    omega
  · refine treeOk_slot (by omega) hg ?_
    unfold slotB
    have : inR (dep u p n (n + 1) g) 1 3 = false := by
      refine inR_f (fun hh => ?_)
      have := (dep_four (u := u) (p := p) (n := n) (n + 1) (by omega) g).1 ⟨by omega, hh.2⟩
      omega
    simp [hu, this]
theorem treeOk_links (hr : rootB u p nm n = true) (hl : ∀ g, 1 ≤ g → g < n → linkB ok u p nm n g = true) (hd : ∀ g, g < n → u g = true → 0 ≤ dep u p n 4 g) : treeOk ok u p nm n = true := by
  have hn := (rootB_iff.1 hr).1
  refine treeOk_all hr (fun g h1 h2 => ?_)
  have := hl g h1 h2
  unfold linkB at this
  unfold slotB
  cases hu : u g
  · rfl
  · simp only [hu, Bool.not_true, Bool.false_or, Bool.and_eq_true] at this ⊢
    refine ⟨⟨this.1.1, ?_⟩, this.2⟩
    have hdg := hd g h2 hu
    obtain ⟨d1, d2⟩ := (dep_four (u := u) (p := p) (n := n) (n + 1) (by omega) g).2 hdg
    refine inR_t ?_ d2
    obtain ⟨hu2, h3, _⟩ := dep_parent (u := u) (p := p) (n := n) (g := (g : Int)) (by omega) hdg
    rw [dep_four_eq (n + 1) (by omega) _ hdg, dep_step hu2 (by omega), if_neg (by omega)]
    omega
/-- In a tree every used slot has a depth of at most three. -/
theorem treeOk_dep (h : treeOk ok u p nm n = true) {g : Nat} (hg : g < n) (hu : u g = true) : 0 ≤ dep u p n 4 g := by
  obtain ⟨hr, hs⟩ := treeOk_spec h
  have hn := (rootB_iff.1 hr).1
  by_cases e : g = 0
  · subst e
    have h2 : usedB u n ((0 : Nat) : Int) = true := by rw [usedB_nat hg]; exact hu
    have := dep_zero (p := p) h2 4 (by omega)
    show 0 ≤ dep u p n 4 ((0 : Nat) : Int)
    rw [show ((0 : Nat) : Int) = 0 from rfl, this]
    omega
  · have := hs g (by omega) hg
    unfold slotB at this
    simp only [hu, Bool.not_true, Bool.false_or, Bool.and_eq_true] at this
    obtain ⟨h1, h2⟩ := inR_iff.1 this.1.2
    exact (dep_four (n + 1) (by omega) _).1 ⟨by omega, h2⟩
end
def treeDepth (ok : ByteArray → Bool) (u : Nat → Bool) (p : Nat → Int) (nm : Nat → ByteArray) (n : Nat) (g : Int) : Int :=
  if treeOk ok u p nm n && usedB u n g then dep u p n 4 g else -1
/-- The text of a slot's place below the root. -/
def pathUp (p : Nat → Int) (nm : Nat → ByteArray) : Nat → Int → ByteArray
  | 0, _ => ByteArray.empty
  | k + 1, g => if g = 0 then ByteArray.empty else pathUp p nm k (p g.toNat) ++ ⟨#[47]⟩ ++ nm g.toNat
def treePath (ok : ByteArray → Bool) (u : Nat → Bool) (p : Nat → Int) (nm : Nat → ByteArray) (n : Nat) (g : Int) : ByteArray :=
  if treeOk ok u p nm n && usedB u n g then (if g = 0 then ⟨#[47]⟩ else pathUp p nm 4 g) else ByteArray.empty
end Go.Proofs.YtndbmeedimhohaaGreat
namespace Go.Proofs.YtndbmeedimhohaaGreat
open Go.RowKit
/-- The slice with head A and n groups: which are used, whose kids they are, how they are called. -/
def TRd (w : World) (B : Nat) (A : Option Addr) (n : Nat) (us : Nat → Bool) (pa : Nat → Int) (nm : Nat → ByteArray) : Prop :=
  0 < n → ∃ g o, A = some ⟨g, o, none⟩ ∧ g < B ∧ ∀ i, i < n → w.cell? ⟨g, o + i * 14, none⟩ = some (.bool (us i)) ∧ w.cell? ⟨g, o + i * 14 + 1, none⟩ = some (.int .i64 (pa i)) ∧ w.cell? ⟨g, o + i * 14 + 2, none⟩ = some (.string (nm i))
theorem TRd.below {w w' : World} {B n : Nat} {A : Option Addr} {us : Nat → Bool} {pa : Nat → Int} {nm : Nat → ByteArray} (r : TRd w B A n us pa nm) (hb : Below B w w') : TRd w' B A n us pa nm := fun hn => by
  obtain ⟨g, o, ha, hg, hc⟩ := r hn
  refine ⟨g, o, ha, hg, fun i hi => ?_⟩
  obtain ⟨h0, h1, h2⟩ := hc i hi
  exact ⟨(hb.cell (p := ⟨g, _, none⟩) hg).trans h0, (hb.cell (p := ⟨g, _, none⟩) hg).trans h1, (hb.cell (p := ⟨g, _, none⟩) hg).trans h2⟩
theorem TRd.more {w : World} {B B' n : Nat} {A : Option Addr} {us : Nat → Bool} {pa : Nat → Int} {nm : Nat → ByteArray} (r : TRd w B A n us pa nm) (hB : B ≤ B') : TRd w B' A n us pa nm := fun hn => by
  obtain ⟨g, o, ha, hg, hc⟩ := r hn
  exact ⟨g, o, ha, by omega, hc⟩
theorem TRd.at_ {W w : World} {n : Nat} {A : Option Addr} {us : Nat → Bool} {pa : Nat → Int} {nm : Nat → ByteArray} (r : TRd W W.heap.size A n us pa nm) (hb : Below W.heap.size W w) : TRd w w.heap.size A n us pa nm := (r.below hb).more hb.size
theorem GsRd.trd {w : World} {B n : Nat} {A : Option Addr} {g : Nat → GV} {h : Nat → GH} (r : GsRd w B A n g h) : TRd w B A n (fun i => (g i).us) (fun i => (g i).pa) (fun i => (g i).nm) := fun hn => by
  obtain ⟨b, o, ha, hg, hc⟩ := r.r hn
  exact ⟨b, o, ha, hg, fun i hi => ⟨hc i hi 0 _ rfl, hc i hi 1 _ rfl, hc i hi 2 _ rfl⟩⟩
theorem sUsed_any (A : Option Addr) (n c : Nat) (hn : n ≤ 1048576) (us : Nat → Bool) (pa : Nat → Int) (nm : Nat → ByteArray) (g : Int) (w : World) (hT : TRd w w.heap.size A n us pa nm) :
    Calls Tryz.prog 51 #[.slice A n c, .int .i64 g] w fun e w' => e = .returned (.bool (usedB us n g)) ∧ w = w' := by
  by_cases h1 : 0 ≤ g
  · by_cases h2 : g < n
    · obtain ⟨k, rfl⟩ := Int.eq_ofNat_of_zero_le h1
      have hk : k < n := by omega
      obtain ⟨ga, oa, rfl, hga, hc⟩ := hT (by omega)
      obtain ⟨c0, _, _⟩ := hc k hk
      clear hc hT
      rw [usedB_nat hk]
      go_enter Tryz.func51, Tryz.ntmps51
      go_wp2
      go_ret
      exact ⟨rfl, rfl⟩
    · have : usedB us n g = false := by simp [usedB]; omega
      rw [this]
      clear this hT
      go_enter Tryz.func51, Tryz.ntmps51
      go_wp2
      go_ret
      exact ⟨rfl, rfl⟩
  · have : usedB us n g = false := by simp [usedB]; omega
    rw [this]
    clear this hT
    go_enter Tryz.func51, Tryz.ntmps51
    go_wp2
    go_ret
    exact ⟨rfl, rfl⟩
theorem depEnd {us : Nat → Bool} {pa : Nat → Int} {n : Nat} {D : Int} {k : Nat} {x : Int} (h : D = if dep us pa n (n + 1 - k) x < 0 then -1 else k + dep us pa n (n + 1 - k) x) (hk : k = n + 1) : D = -1 := by
  subst hk
  simpa [dep] using h
theorem depNo {us : Nat → Bool} {pa : Nat → Int} {n : Nat} {D : Int} {k : Nat} {x : Int} (h : D = if dep us pa n (n + 1 - k) x < 0 then -1 else k + dep us pa n (n + 1 - k) x) (hu : usedB us n x = false) : D = -1 := by
  rw [dep_unused hu] at h
  simpa using h
theorem depRoot {us : Nat → Bool} {pa : Nat → Int} {n : Nat} {D : Int} {k : Nat} (h : D = if dep us pa n (n + 1 - k) 0 < 0 then -1 else k + dep us pa n (n + 1 - k) 0) (hk : k < n + 1) (hu : usedB us n 0 = true) : D = k := by
  rw [dep_zero hu _ (by omega)] at h
  simpa using h
theorem depGo {us : Nat → Bool} {pa : Nat → Int} {n : Nat} {D : Int} {k : Nat} {x : Int} (h : D = if dep us pa n (n + 1 - k) x < 0 then -1 else k + dep us pa n (n + 1 - k) x) (hk : k < n + 1) (hu : usedB us n x = true) (hx : x ≠ 0) :
    D = if dep us pa n (n + 1 - (k + 1)) (pa x.toNat) < 0 then -1 else ((k + 1 : Nat) : Int) + dep us pa n (n + 1 - (k + 1)) (pa x.toNat) := by
  rw [show n + 1 - k = (n + 1 - (k + 1)) + 1 by omega, dep_step hu hx] at h
  rw [h]
  have := (dep_lt (u := us) (p := pa) (n := n) (n + 1 - (k + 1)) (pa x.toNat)).2
  split
  · rfl
  · rw [if_neg (by omega)]; omega
set_option maxHeartbeats 1000000 in
theorem sDepth_any (A : Option Addr) (n c : Nat) (hn : n ≤ 1048576) (us : Nat → Bool) (pa : Nat → Int) (nm : Nat → ByteArray) (g : Int) (w : World) (hT : TRd w w.heap.size A n us pa nm) :
    Calls Tryz.prog 71 #[.slice A n c, .int .i64 g] w fun e w' => e = .returned (.int .i64 (dep us pa n (n + 1) g)) ∧ w = w' := by
  have HT := Lib.hid hT
  clear hT
  have h0 : dep us pa n (n + 1) g = if dep us pa n (n + 1 - 0) g < 0 then -1 else ((0 : Nat) : Int) + dep us pa n (n + 1 - 0) g := by
    have := (dep_lt (u := us) (p := pa) (n := n) (n + 1) g).2
    simp only [Nat.sub_zero]
    split <;> omega
  obtain ⟨D, hD0⟩ : ∃ D, D = dep us pa n (n + 1) g := ⟨_, rfl⟩
  rw [← hD0]
  have h0 : D = if dep us pa n (n + 1 - 0) g < 0 then -1 else ((0 : Nat) : Int) + dep us pa n (n + 1 - 0) g := hD0.trans h0
  clear hD0
  have H0 := Lib.hid h0
  clear h0
  go_enter Tryz.func71, Tryz.ntmps71
  go_wp2
  go_loop [1, 5] (fun j i => ∃ (k : Nat) (x : Int), k ≤ n + 1 ∧ i = .int .i64 k ∧ j = .int .i64 x ∧ Hid (D = if dep us pa n (n + 1 - k) x < 0 then -1 else k + dep us pa n (n + 1 - k) x)) (fun _ i => n + 1 - (intOf i).toNat)
  case atStart => exact ⟨0, g, by omega, rfl, rfl, H0⟩
  case round =>
    obtain ⟨k, x, hk, rfl, rfl, HD⟩ := hrel
    clear H0
    by_cases hlt : k < n + 1
    · cases hu : usedB us n x
      · have hD := Lib.hid (depNo HD.out hu)
        go_wp2_with (go_at_call 51; refine (sUsed_any A n c hn us pa nm x w HT.out).mono ?_; rintro e w' ⟨rfl, rfl⟩)
        go_ret
        exact ⟨ret_intB hD.out.symm, rfl⟩
      · by_cases hx : x = 0
        · subst hx
          have hD := Lib.hid (depRoot HD.out hlt hu)
          go_wp2_with (go_at_call 51; refine (sUsed_any A n c hn us pa nm 0 w HT.out).mono ?_; rintro e w' ⟨rfl, rfl⟩)
          go_ret
          exact ⟨ret_intB hD.out.symm, rfl⟩
        · have hD := Lib.hid (depGo HD.out hlt hu hx)
          obtain ⟨h1, h2, _⟩ := usedB_iff.1 hu
          obtain ⟨j, rfl⟩ := Int.eq_ofNat_of_zero_le h1
          obtain ⟨ga, oa, rfl, hga, hc⟩ := HT.out (by omega)
          obtain ⟨_, c1, _⟩ := hc j (by omega)
          clear hc
          go_wp2_with (go_at_call 51; refine (sUsed_any _ n c hn us pa nm j w HT.out).mono ?_; rintro e w' ⟨rfl, rfl⟩)
          go_round
          case rel => exact ⟨k + 1, pa j, by omega, by go_num, rfl, hD⟩
          case measure => simp [intOf]; omega
    · have hD := Lib.hid (depEnd HD.out (by omega))
      go_wp2
      go_ret
      exact ⟨ret_intB hD.out.symm, rfl⟩
end Go.Proofs.YtndbmeedimhohaaGreat

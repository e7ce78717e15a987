/- Bands: BandOk of impl and spec. -/
import Derived.Test.YtndbmeedimhohaaGreatFB2Base
import Derived.Test.YtndbmeedimhohaaGreatFCC
namespace Go.Proofs.YtndbmeedimhohaaGreat
open Go.RowKit
theorem ret_boolB {a b : Bool} (h : a = b) : Ending.returned (.bool a) = .returned (.bool b) := by rw [h]
theorem quietL {P : Program} {f : FuncId} {args : Array Value} {w : World} {n : Nat} {v : Value} (h : Calls P f args (w.drewN n) fun e w' => e = .returned v ∧ w.drewN n = w') : Calls P f args (w.drewN n) fun e w'' => e = .returned v ∧ ∃ m, w'' = w.drewN m :=
  h.mono fun _ _ ⟨he, hm⟩ => ⟨he, n, hm.symm⟩
theorem quietA {P : Program} {f : FuncId} {args : Array Value} {w : World} {a n : Nat} {v : Value} (h : Calls P f args (w.drewN (a + n)) fun e w' => e = .returned v ∧ w.drewN (a + n) = w') : Calls P f args (w.drewN (a + n)) fun e w'' => e = .returned v ∧ ∃ m, w'' = w.drewN (a + m) :=
  h.mono fun _ _ ⟨he, hm⟩ => ⟨he, n, hm.symm⟩

set_option maxHeartbeats 1000000 in
theorem iBandOk_any (q p s : Int) (A A' : Option Addr) (n m c c' : Nat) (hn : (n : Int) ≤ 9223372036854775807) (hm : (m : Int) ≤ 9223372036854775807) (f : Nat → Int) (f' : Nat → Bool) (w W : World) (hb : Below W.heap.size W w)
    (hA : Rw W W.heap.size A n fun i => .int .i64 (f i)) (hA' : Rw W W.heap.size A' m fun i => .bool (f' i)) :
    Calls Tryz.prog 110 #[.agg #[.int .i64 q, .int .i64 p, .int .i64 s, .slice A n c, .slice A' m c']] w fun e w' => e = .returned (.bool (bandOk q p s n m f f')) ∧ Below W.heap.size W w' := by
  have hz := hb.size
  have hbx : ∀ o, Below W.heap.size W (w.alloc o) := fun o => hb.alloc hz o
  cases h1 : inR q 1 10000
  · rw [bandOk_head q p s n m f f' (by simp [h1])]
    go_enter Tryz.func110, Tryz.ntmps110
    go_wp2_with (go_at_call 61; refine (inRange_any _ _ _ _).mono ?_; rintro e w' ⟨rfl, rfl⟩)
    go_ret
    exact ⟨rfl, hbx _⟩
  cases h2 : inR n 1 4
  · rw [bandOk_head q p s n m f f' (by simp [h2])]
    go_enter Tryz.func110, Tryz.ntmps110
    go_wp2_with (go_at_call 61; refine (inRange_any _ _ _ _).mono ?_; rintro e w' ⟨rfl, rfl⟩)
    go_ret
    exact ⟨rfl, hbx _⟩
  by_cases h3 : m = n
  case neg =>
    rw [bandOk_head q p s n m f f' (by simp [h3])]
    have h3' : ((m : Int) != (n : Int)) = true := by rw [bne_iff_ne]; omega
    go_enter Tryz.func110, Tryz.ntmps110
    go_wp2_with (go_at_call 61; refine (inRange_any _ _ _ _).mono ?_; rintro e w' ⟨rfl, rfl⟩)
    go_ret
    exact ⟨rfl, hbx _⟩
  subst h3
  cases h4 : inR p 0 q
  · rw [bandOk_head q p s m m f f' (by simp [h4])]
    go_enter Tryz.func110, Tryz.ntmps110
    go_wp2_with (go_at_call 61; refine (inRange_any _ _ _ _).mono ?_; rintro e w' ⟨rfl, rfl⟩)
    go_ret
    exact ⟨rfl, hbx _⟩
  cases h5 : inR s 0 q
  · rw [bandOk_head q p s m m f f' (by simp [h5])]
    go_enter Tryz.func110, Tryz.ntmps110
    go_wp2_with (go_at_call 61; refine (inRange_any _ _ _ _).mono ?_; rintro e w' ⟨rfl, rfl⟩)
    go_ret
    exact ⟨rfl, hbx _⟩
  obtain ⟨g1, g2⟩ := inR_iff.1 h1
  obtain ⟨g3, g4⟩ := inR_iff.1 h2
  obtain ⟨g5, g6⟩ := inR_iff.1 h4
  obtain ⟨g7, g8⟩ := inR_iff.1 h5
  have HE := Lib.hid (fun (ha : allTo (locOk q p f f') m = true) => bandOk_end q p s m m f f' (by simp [h1, h2, h4, h5]) ha)
  have HL := Lib.hid (fun k hk h => bandOk_loc q p s m m f f' k hk h)
  obtain ⟨ga, oa, rfl, hga, hca⟩ := hA.at_ hb (by omega)
  obtain ⟨gb, ob, rfl, hgb, hcb⟩ := hA'.at_ hb (by omega)
  have HC := Lib.hid hca
  have HC' := Lib.hid hcb
  clear hca hA hcb hA'
  go_enter Tryz.func110, Tryz.ntmps110
  go_wp2_with (go_at_call 61; refine (inRange_any _ _ _ _).mono ?_; rintro e w' ⟨rfl, rfl⟩)
  go_loop [3, 48] (fun t i => ∃ k : Nat, k ≤ m ∧ i = .int .i64 k ∧ t = .int .i64 (p + s + sumTo f k) ∧ Hid (allTo (locOk q p f f') k = true)) (fun _ i => m - (intOf i).toNat)
  case atStart => exact ⟨0, Nat.zero_le _, rfl, by simp [sumTo], rfl⟩
  case round =>
    obtain ⟨k, hk, rfl, rfl, HA⟩ := hrel
    obtain ⟨u1, u2⟩ := sum_ok q p f f' k HA.out (by omega) (by omega) (by omega)
    by_cases hlt : k < m
    · have hcell := HC.out k hlt
      have hcell' := HC'.out k hlt
      cases r1 : inR (f k) 0 q
      · have HN := Lib.hid (HL.out k hlt (locOk_f1 q p f f' k r1))
        go_wp2_with (go_at_call 61; refine (inRange_any _ _ _ _).mono ?_; rintro e w' ⟨rfl, rfl⟩)
        go_ret
        exact ⟨ret_boolB HN.out.symm, hbx _⟩
      obtain ⟨v1, v2⟩ := inR_iff.1 r1
      have HS : Hid (sumTo f (k + 1) = sumTo f k + f k) := rfl
      cases r2 : f' k
      · have HA2 : Hid (allTo (locOk q p f f') (k + 1) = true) := allTo_next _ k HA.out (locOk_t1 q p f f' k r1 r2)
        rw [r2] at hcell'
        go_wp2_with (go_at_call 61; refine (inRange_any _ _ _ _).mono ?_; rintro e w' ⟨rfl, rfl⟩)
        go_round
        case rel => exact ⟨k + 1, by omega, by go_num, by rw [HS.out]; go_num, HA2⟩
        case measure => simp [intOf]; omega
      rw [r2] at hcell'
      by_cases r3 : f k = 0
      · by_cases r4 : p = 0
        · have HA2 : Hid (allTo (locOk q p f f') (k + 1) = true) := allTo_next _ k HA.out (locOk_t2 q p f f' k r1 r3 r4)
          have r3' : (f k != 0) = false := by simp [r3]
          have r4' : (p != 0) = false := by simp [r4]
          clear r3 r4
          go_wp2_with (go_at_call 61; refine (inRange_any _ _ _ _).mono ?_; rintro e w' ⟨rfl, rfl⟩)
          go_round
          case rel => exact ⟨k + 1, by omega, by go_num, by rw [HS.out]; go_num, HA2⟩
          case measure => simp [intOf]; omega
        · have HN := Lib.hid (HL.out k hlt (locOk_f2 q p f f' k r2 (.inr r4)))
          have r3' : (f k != 0) = false := by simp [r3]
          have r4' : (p != 0) = true := by simp [r4]
          clear r3 r4
          go_wp2_with (go_at_call 61; refine (inRange_any _ _ _ _).mono ?_; rintro e w' ⟨rfl, rfl⟩)
          go_ret
          exact ⟨ret_boolB HN.out.symm, hbx _⟩
      · have HN := Lib.hid (HL.out k hlt (locOk_f2 q p f f' k r2 (.inl r3)))
        have r3' : (f k != 0) = true := by simp [r3]
        clear r3
        go_wp2_with (go_at_call 61; refine (inRange_any _ _ _ _).mono ?_; rintro e w' ⟨rfl, rfl⟩)
        go_ret
        exact ⟨ret_boolB HN.out.symm, hbx _⟩
    · obtain rfl : k = m := by omega
      go_wp2
      go_ret
      exact ⟨ret_boolB (HE.out HA.out).symm, hbx _⟩
set_option maxHeartbeats 1000000 in
theorem sBandOk_any (q p s : Int) (A A' : Option Addr) (n m c c' : Nat) (hn : (n : Int) ≤ 9223372036854775807) (hm : (m : Int) ≤ 9223372036854775807) (f : Nat → Int) (f' : Nat → Bool) (w W : World) (hb : Below W.heap.size W w)
    (hA : Rw W W.heap.size A n fun i => .int .i64 (f i)) (hA' : Rw W W.heap.size A' m fun i => .bool (f' i)) :
    Calls Tryz.prog 76 #[.agg #[.int .i64 q, .int .i64 p, .int .i64 s, .slice A n c, .slice A' m c']] w fun e w' => e = .returned (.bool (bandOk q p s n m f f')) ∧ Below W.heap.size W w' := by
  have hz := hb.size
  have hbx : ∀ o, Below W.heap.size W (w.alloc o) := fun o => hb.alloc hz o
  cases h1 : inR q 1 10000
  · rw [bandOk_head q p s n m f f' (by simp [h1])]
    go_enter Tryz.func76, Tryz.ntmps76
    go_wp2_with (go_at_call 39; refine (l1In_any _ _ _ _).mono ?_; rintro e w' ⟨rfl, rfl⟩)
    go_ret
    exact ⟨rfl, hbx _⟩
  cases h2 : inR n 1 4
  · rw [bandOk_head q p s n m f f' (by simp [h2])]
    go_enter Tryz.func76, Tryz.ntmps76
    go_wp2_with (go_at_call 39; refine (l1In_any _ _ _ _).mono ?_; rintro e w' ⟨rfl, rfl⟩)
    go_ret
    exact ⟨rfl, hbx _⟩
  by_cases h3 : m = n
  case neg =>
    rw [bandOk_head q p s n m f f' (by simp [h3])]
    have h3' : ((m : Int) != (n : Int)) = true := by rw [bne_iff_ne]; omega
    go_enter Tryz.func76, Tryz.ntmps76
    go_wp2_with (go_at_call 39; refine (l1In_any _ _ _ _).mono ?_; rintro e w' ⟨rfl, rfl⟩)
    go_ret
    exact ⟨rfl, hbx _⟩
  subst h3
  cases h4 : inR p 0 q
  · rw [bandOk_head q p s m m f f' (by simp [h4])]
    go_enter Tryz.func76, Tryz.ntmps76
    go_wp2_with (go_at_call 39; refine (l1In_any _ _ _ _).mono ?_; rintro e w' ⟨rfl, rfl⟩)
    go_ret
    exact ⟨rfl, hbx _⟩
  cases h5 : inR s 0 q
  · rw [bandOk_head q p s m m f f' (by simp [h5])]
    go_enter Tryz.func76, Tryz.ntmps76
    go_wp2_with (go_at_call 39; refine (l1In_any _ _ _ _).mono ?_; rintro e w' ⟨rfl, rfl⟩)
    go_ret
    exact ⟨rfl, hbx _⟩
  obtain ⟨g1, g2⟩ := inR_iff.1 h1
  obtain ⟨g3, g4⟩ := inR_iff.1 h2
  obtain ⟨g5, g6⟩ := inR_iff.1 h4
  obtain ⟨g7, g8⟩ := inR_iff.1 h5
  have HE := Lib.hid (fun (ha : allTo (locOk q p f f') m = true) => bandOk_end q p s m m f f' (by simp [h1, h2, h4, h5]) ha)
  have HL := Lib.hid (fun k hk h => bandOk_loc q p s m m f f' k hk h)
  obtain ⟨ga, oa, rfl, hga, hca⟩ := hA.at_ hb (by omega)
  obtain ⟨gb, ob, rfl, hgb, hcb⟩ := hA'.at_ hb (by omega)
  have HC := Lib.hid hca
  have HC' := Lib.hid hcb
  clear hca hA hcb hA'
  go_enter Tryz.func76, Tryz.ntmps76
  go_wp2_with (go_at_call 39; refine (l1In_any _ _ _ _).mono ?_; rintro e w' ⟨rfl, rfl⟩)
  go_loopw [3, 4] (fun t i wr => ∃ k : Nat, k ≤ m ∧ i = .int .i64 k ∧ t = .int .i64 (p + s + sumTo f k) ∧ Hid (allTo (locOk q p f f') k = true) ∧ ∃ d, wr = (w.alloc (.cells #[.int .i64 q, .int .i64 p, .int .i64 s, .slice (some ⟨ga, oa, none⟩) m c, .slice (some ⟨gb, ob, none⟩) m c'] 65)).drewN d) (fun _ i _ => m - (intOf i).toNat)
  case atStart => exact ⟨0, Nat.zero_le _, rfl, by simp [sumTo], rfl, 0, rfl⟩
  case round =>
    obtain ⟨k, hk, rfl, rfl, HA, d, rfl⟩ := hrel
    obtain ⟨u1, u2⟩ := sum_ok q p f f' k HA.out (by omega) (by omega) (by omega)
    have hbd : ∀ o n, Below W.heap.size W ((w.alloc o).drewN n) := fun o n => below_drewN (hb.alloc hz o) n
    by_cases hlt : k < m
    · have hcell := HC.out k hlt
      have hcell' := HC'.out k hlt
      cases r1 : inR (f k) 0 q
      · have HN := Lib.hid (HL.out k hlt (locOk_f1 q p f f' k r1))
        go_wp2
        go_quiet ((go_at_call 39; exact quietA (l1In_any _ _ _ _)))
        go_wp2
        go_ret
        exact ⟨ret_boolB HN.out.symm, by first | exact hbd _ _ | exact below_drewN (hbd _ _) _⟩
      obtain ⟨v1, v2⟩ := inR_iff.1 r1
      have HS : Hid (sumTo f (k + 1) = sumTo f k + f k) := rfl
      cases r2 : f' k
      · have HA2 : Hid (allTo (locOk q p f f') (k + 1) = true) := allTo_next _ k HA.out (locOk_t1 q p f f' k r1 r2)
        rw [r2] at hcell'
        go_wp2
        go_quiet ((go_at_call 39; exact quietA (l1In_any _ _ _ _)))
        go_wp2
        go_roundw
        case rel => exact ⟨k + 1, by omega, by go_num, by rw [HS.out]; go_num, HA2, _, rfl⟩
        case measure => simp [intOf]; omega
      rw [r2] at hcell'
      by_cases r3 : f k = 0
      · by_cases r4 : p = 0
        · have HA2 : Hid (allTo (locOk q p f f') (k + 1) = true) := allTo_next _ k HA.out (locOk_t2 q p f f' k r1 r3 r4)
          have r3' : ¬ (0 < f k) := by omega
          have r4' : ¬ (0 < p) := by omega
          have r3b : decide (0 < f k) = false := by simp; omega
          have r4b : decide (0 < p) = false := by simp; omega
          clear r3 r4
          go_wp2
          go_quiet ((go_at_call 39; exact quietA (l1In_any _ _ _ _)))
          go_wp2
          go_roundw
          case rel => exact ⟨k + 1, by omega, by go_num, by rw [HS.out]; go_num, HA2, _, rfl⟩
          case measure => simp [intOf]; omega
        · have HN := Lib.hid (HL.out k hlt (locOk_f2 q p f f' k r2 (.inr r4)))
          have r3' : ¬ (0 < f k) := by omega
          have r4' : 0 < p := by omega
          have r3b : decide (0 < f k) = false := by simp; omega
          have r4b : decide (0 < p) = true := by simp; omega
          clear r3 r4
          go_wp2
          go_quiet ((go_at_call 39; exact quietA (l1In_any _ _ _ _)))
          go_wp2
          go_ret
          exact ⟨ret_boolB HN.out.symm, by first | exact hbd _ _ | exact below_drewN (hbd _ _) _⟩
      · have HN := Lib.hid (HL.out k hlt (locOk_f2 q p f f' k r2 (.inl r3)))
        have r3' : 0 < f k := by omega
        have r3b : decide (0 < f k) = true := by simp; omega
        clear r3
        go_wp2
        go_quiet ((go_at_call 39; exact quietA (l1In_any _ _ _ _)))
        go_wp2
        go_ret
        exact ⟨ret_boolB HN.out.symm, by first | exact hbd _ _ | exact below_drewN (hbd _ _) _⟩
    · obtain rfl : k = m := by omega
      go_wp2
      go_ret
      exact ⟨ret_boolB (HE.out HA.out).symm, hbd _ _⟩
end Go.Proofs.YtndbmeedimhohaaGreat

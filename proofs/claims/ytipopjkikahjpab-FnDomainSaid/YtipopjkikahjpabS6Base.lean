/- Scheduling domains: neighbors, DomainSpan, DomainNear of impl and spec. -/
import Derived.Test.YtipopjkikahjpabS3Base
import Derived.Test.YtipopjkikahjpabMem
import Derived.Laws.CopyOwn
import Derived.RegionTactic
import Derived.ChangeAlike
import Derived.BigRegion
namespace Go.Proofs.Ytipopjkikahjpab
open Go.RowKit
def near (c l k : Int) : Bool := k / 2 ^ (l + 1).toNat == c / 2 ^ (l + 1).toNat
def spanAt (c l k : Int) : Array Value := #[.bool (decide (0 < k) && near c l 0), .bool (decide (1 < k) && near c l 1), .bool (decide (2 < k) && near c l 2), .bool (decide (3 < k) && near c l 3)]
theorem spanAt_set (c l k : Int) (h0 : 0 ≤ k) (h3 : k ≤ 3) : (spanAt c l k).setIfInBounds k.toNat (.bool (near c l k)) = spanAt c l (k + 1) := by
  have : k = 0 ∨ k = 1 ∨ k = 2 ∨ k = 3 := by omega
  rcases this with h | h | h | h <;> subst h <;> simp [spanAt] <;> rfl
theorem spanAt_get (c l k : Int) (h0 : 0 ≤ k) (h3 : k ≤ 3) : (spanAt c l k)[k.toNat]? = some (.bool false) := by
  have : k = 0 ∨ k = 1 ∨ k = 2 ∨ k = 3 := by omega
  rcases this with h | h | h | h <;> subst h <;> simp [spanAt]
set_option maxHeartbeats 400000 in
theorem neighbors_any (n c l : Int) (hn1 : 1 ≤ n) (hn4 : n ≤ 4) (_hc0 : 0 ≤ c) (_hc3 : c ≤ 3) (hl0 : 0 ≤ l) (hl1 : l ≤ 1) (w W : World) (hb : Below W.heap.size W w) :
    Calls Try.prog 25 #[.int .i64 n, .int .i64 c, .int .i64 l] w fun e w' => e = .returned (.agg (spanAt c l n)) ∧ Below W.heap.size W w' := by
  have hz := hb.size
  go_enter Try.func25, Try.ntmps25
  go_wp2
  go_loopw [10] (fun i wr => ∃ k : Int, 0 ≤ k ∧ k ≤ n ∧ i = .int .i64 k ∧ Bk wr (w.heap.size + 1) 33 (spanAt c l k) ∧ Bk wr w.heap.size 33 (spanAt c l 0) ∧ Below W.heap.size W wr) (fun i _ => (n - intOf i).toNat)
  case atStart =>
    refine ⟨0, Int.le_refl _, by omega, rfl, ?_, ?_, ?_⟩
    · have := Bk.new (w.alloc (.cells (spanAt c l 0) 33)) 33 (spanAt c l 0)
      rw [World.size_alloc] at this
      exact this
    · exact (Bk.new w 33 (spanAt c l 0)).alloc _
    · exact (hb.alloc hz _).alloc (by simp; omega) _
  case round =>
    obtain ⟨k, hk1, hk2, rfl, hB, hB0, hbr⟩ := hrel
    have hz2 := hbr.size
    by_cases hlt : k < n
    · have hg := (hB.cell k.toNat).trans (spanAt_get c l k hk1 (by omega))
      have hf := hB.free k.toNat
      have hB' := hB.put k.toNat (.bool (near c l k))
      rw [spanAt_set c l k hk1 (by omega)] at hB'
      have hB0' := hB0.off (p := ⟨w.heap.size + 1, k.toNat, none⟩) (by simp) (.bool (near c l k))
      have HB := Lib.hid hB'
      have HB0 := Lib.hid hB0'
      clear hB hB0 hB' hB0'
      go_wp2
      go_region
      go_wp2
      go_roundw
      case rel => exact ⟨k + 1, by omega, by omega, rfl, HB.out.drew, HB0.out.drew, (hbr.setCell (by simp; omega) _).drew⟩
      case measure => simp [intOf]; omega
    · obtain rfl : k = n := by omega
      have hs0 : (spanAt c l 0).size = (spanAt c l k).size := rfl
      go_wp2_with (first
        | refine wpList_load_row rfl 33 _ rfl (w.heap.size + 1) rfl 33 _ (0, 0) _ hB Try.underlying33 rfl (by kernel_rfl) ?_
        | refine wpList_store_row rfl 33 _ _ rfl w.heap.size (spanAt c l k) rfl rfl 33 _ hB0 (by kernel_rfl) hs0 (by kernel_rfl) ?_)
      refine bodyPost_ret (results_cell_row rfl _ _ w.heap.size 33 (spanAt c l k) (0, 0) _ rfl (setRow_heap _ _ _ _ _ _ hB0) Try.underlying33 rfl (by kernel_rfl)) rfl ⟨rfl, below_setRow hbr hz _⟩
def spanBit (n c l j : Int) : Bool := decide (j < n) && near c l j
def spanU (n c l : Int) : Nat → Int
  | 0 => 0
  | k + 1 => spanU n c l k + bitIf (spanBit n c l k) (2 ^ k)
def spanI (n c l k : Int) : Int := spanU n c l k.toNat
theorem spanI_succ (n c l k : Int) (h : 0 ≤ k) : spanI n c l (k + 1) = spanI n c l k + bitIf (spanBit n c l k) (2 ^ k.toNat) := by
  unfold spanI
  rw [show (k + 1).toNat = k.toNat + 1 by omega]
  simp only [spanU]
  rw [show ((k.toNat : Nat) : Int) = k by omega]
theorem spanU_b (n c l : Int) (k : Nat) : 0 ≤ spanU n c l k ∧ spanU n c l k < 2 ^ k := by
  induction k with
  | zero => simp [spanU]
  | succ k ih =>
    have := bitIf_cases (spanBit n c l k) (2 ^ k) (Int.pow_nonneg (by omega))
    simp only [spanU, Int.pow_succ]
    omega
theorem spanI_b (n c l k : Int) (h4 : k ≤ 4) : 0 ≤ spanI n c l k ∧ spanI n c l k ≤ 15 := by
  have := spanU_b n c l k.toNat
  have h : k.toNat = 0 ∨ k.toNat = 1 ∨ k.toNat = 2 ∨ k.toNat = 3 ∨ k.toNat = 4 := by omega
  unfold spanI
  rcases h with h | h | h | h | h <;> rw [h] at this ⊢ <;> simp at this <;> omega
def domainSpan (n c l : Int) : Int := if inR n 1 4 && inR c 0 (n - 1) && inR l 0 (levels n - 1) then spanI n c l 4 else 0
theorem spanI_n (n c l k : Int) (hn : n ≤ k) (h0 : 0 ≤ k) : spanI n c l (k + 1) = spanI n c l k := by
  rw [spanI_succ n c l k h0]
  have : spanBit n c l k = false := by simp [spanBit]; omega
  simp [this, bitIf]
theorem spanI_last (n c l : Int) (hn1 : 1 ≤ n) (hn : n ≤ 4) : spanI n c l n = spanI n c l 4 := by
  have h : n = 1 ∨ n = 2 ∨ n = 3 ∨ n = 4 := by omega
  rcases h with h | h | h | h <;> subst h
  · rw [← spanI_n 1 c l 1 (by omega) (by omega), ← spanI_n 1 c l (1 + 1) (by omega) (by omega), ← spanI_n 1 c l (1 + 1 + 1) (by omega) (by omega)]; rfl
  · rw [← spanI_n 2 c l 2 (by omega) (by omega), ← spanI_n 2 c l (2 + 1) (by omega) (by omega)]; rfl
  · rw [← spanI_n 3 c l 3 (by omega) (by omega)]; rfl
  · rfl
theorem levels_b (n : Int) : 0 ≤ levels n ∧ levels n ≤ 2 := by unfold levels; repeat' split
                                                               all_goals omega
theorem domainSpan_no (n c l : Int) (h : (inR n 1 4 && inR c 0 (n - 1) && inR l 0 (levels n - 1)) = false) : domainSpan n c l = 0 := by simp only [domainSpan, h]; rfl
theorem domainSpan_yes (n c l : Int) (h1 : inR n 1 4 = true) (h2 : inR c 0 (n - 1) = true) (h3 : inR l 0 (levels n - 1) = true) : domainSpan n c l = spanI n c l 4 := by simp [domainSpan, h1, h2, h3]
theorem ret_int6 {k : IntKind} {a b : Int} (h : a = b) : Ending.returned (.int k a) = .returned (.int k b) := by rw [h]
set_option maxHeartbeats 400000 in
theorem sDomainSpan_any (n c l : Int) (w : World) :
    Calls Try.prog 7 #[.int .i64 n, .int .i64 c, .int .i64 l] w fun e w' => e = .returned (.int .i64 (domainSpan n c l)) ∧ w = w' := by
  cases h1 : inR n 1 4
  · rw [domainSpan_no n c l (by simp [h1])]
    go_enter Try.func7, Try.ntmps7
    go_wp2_with (go_at_call 23; refine (l1In_any _ _ _ _).mono ?_; rintro e w' ⟨rfl, rfl⟩)
    go_ret
    exact ⟨rfl, rfl⟩
  obtain ⟨g1, g2⟩ := inR_iff.1 h1
  cases h2 : inR c 0 (n - 1)
  · rw [domainSpan_no n c l (by simp [h2])]
    go_enter Try.func7, Try.ntmps7
    go_wp2_with (go_at_call 23; refine (l1In_any _ _ _ _).mono ?_; rintro e w' ⟨rfl, rfl⟩)
    go_ret
    exact ⟨rfl, rfl⟩
  obtain ⟨g3, g4⟩ := inR_iff.1 h2
  obtain ⟨v1, v2⟩ := levels_b n
  cases h3 : inR l 0 (levels n - 1)
  · rw [domainSpan_no n c l (by simp [h3])]
    go_enter Try.func7, Try.ntmps7
    go_wp2_with (first | (go_at_call 23; refine (l1In_any _ _ _ _).mono ?_; rintro e w' ⟨rfl, rfl⟩) | (go_at_call 19; refine (sDomainLevels_any _ _).mono ?_; rintro e w' ⟨rfl, rfl⟩))
    go_ret
    exact ⟨rfl, rfl⟩
  obtain ⟨g5, g6⟩ := inR_iff.1 h3
  have hfin : domainSpan n c l = spanI n c l n := (domainSpan_yes n c l h1 h2 h3).trans (spanI_last n c l g1 g2).symm
  rw [hfin]
  clear hfin
  go_enter Try.func7, Try.ntmps7
  go_wp2_with (first | (go_at_call 23; refine (l1In_any _ _ _ _).mono ?_; rintro e w' ⟨rfl, rfl⟩) | (go_at_call 19; refine (sDomainLevels_any _ _).mono ?_; rintro e w' ⟨rfl, rfl⟩))
  go_loop [7, 8] (fun m i => ∃ k : Int, 0 ≤ k ∧ k ≤ n ∧ i = .int .i64 k ∧ m = .int .i64 (spanI n c l k)) (fun _ i => (n - intOf i).toNat)
  case atStart => exact ⟨0, by omega, by omega, rfl, rfl⟩
  case round =>
    obtain ⟨k, hk0, hk, rfl, rfl⟩ := hrel
    obtain ⟨b1, b2⟩ := spanI_b n c l k (by omega)
    by_cases hlt : k < n
    · have hs := spanI_succ n c l k hk0
      have hd : spanBit n c l k = near c l k := by simp [spanBit, hlt]
      rw [hd] at hs
      have hp : k = 0 ∨ k = 1 ∨ k = 2 ∨ k = 3 := by omega
      cases hnr : near c l k
      all_goals
        rw [hnr] at hs
        have hnr' : (k / 2 ^ (l + 1).toNat == c / 2 ^ (l + 1).toNat) = near c l k := rfl
        rw [hnr] at hnr'
        clear hnr hd
        rcases hp with h | h | h | h <;> subst h
        all_goals
          have HS := Lib.hid hs
          clear hs
          try simp only [Int.zero_ediv] at hnr'
          go_wp2
          go_round
          case rel => exact ⟨_, by omega, by omega, rfl, by have := HS.out; simp [bitIf] at this ⊢; omega⟩
          case measure => simp [intOf]; omega
    · obtain rfl : k = n := by omega
      go_wp2
      go_ret
      exact ⟨rfl, rfl⟩
theorem bits_or_small (s : Int) (k : Int) (h0 : 0 ≤ k) (h3 : k ≤ 3) (hs0 : 0 ≤ s) (hs : s < 2 ^ k.toNat) : bits .or .i64 s (2 ^ k.toNat) = s + 2 ^ k.toNat := by
  have : k = 0 ∨ k = 1 ∨ k = 2 ∨ k = 3 := by omega
  rcases this with h | h | h | h <;> subst h <;> simp at hs
  · obtain rfl : s = 0 := by omega
    rfl
  · have : s = 0 ∨ s = 1 := by omega
    rcases this with h | h <;> subst h <;> rfl
  · have : s = 0 ∨ s = 1 ∨ s = 2 ∨ s = 3 := by omega
    rcases this with h | h | h | h <;> subst h <;> rfl
  · have : s = 0 ∨ s = 1 ∨ s = 2 ∨ s = 3 ∨ s = 4 ∨ s = 5 ∨ s = 6 ∨ s = 7 := by omega
    rcases this with h | h | h | h | h | h | h | h <;> subst h <;> rfl
theorem spanI_lt (n c l k : Int) : spanI n c l k < 2 ^ k.toNat := (spanU_b n c l k.toNat).2
theorem spanAt_index (n c l k : Int) (h0 : 0 ≤ k) (h3 : k ≤ 3) (w : World) : (Instr.index 33 (.agg (spanAt c l n)) (.int .i64 k)).run Try.prog w = .ok (.bool (spanBit n c l k)) w := by
  have : k = 0 ∨ k = 1 ∨ k = 2 ∨ k = 3 := by omega
  rcases this with h | h | h | h <;> (rw [h]; clear h h0 h3; show _ = _; kernel_rfl)
set_option maxHeartbeats 400000 in
theorem iDomainSpan_any (n c l : Int) (w W : World) (hb : Below W.heap.size W w) :
    Calls Try.prog 8 #[.int .i64 n, .int .i64 c, .int .i64 l] w fun e w' => e = .returned (.int .i64 (domainSpan n c l)) ∧ Below W.heap.size W w' := by
  cases h1 : inR n 1 4
  · rw [domainSpan_no n c l (by simp [h1])]
    go_enter Try.func8, Try.ntmps8
    go_wp2_with (go_at_call 24; refine (inRange_any _ _ _ _).mono ?_; rintro e w' ⟨rfl, rfl⟩)
    go_ret
    exact ⟨rfl, hb⟩
  obtain ⟨g1, g2⟩ := inR_iff.1 h1
  cases h2 : inR c 0 (n - 1)
  · rw [domainSpan_no n c l (by simp [h2])]
    go_enter Try.func8, Try.ntmps8
    go_wp2_with (go_at_call 24; refine (inRange_any _ _ _ _).mono ?_; rintro e w' ⟨rfl, rfl⟩)
    go_ret
    exact ⟨rfl, hb⟩
  obtain ⟨g3, g4⟩ := inR_iff.1 h2
  obtain ⟨v1, v2⟩ := levels_b n
  cases h3 : inR l 0 (levels n - 1)
  · rw [domainSpan_no n c l (by simp [h3])]
    go_enter Try.func8, Try.ntmps8
    go_wp2_with (first | (go_at_call 24; refine (inRange_any _ _ _ _).mono ?_; rintro e w' ⟨rfl, rfl⟩) | (go_at_call 18; refine (iDomainLevels_any _ _).mono ?_; rintro e w' ⟨rfl, rfl⟩))
    go_ret
    exact ⟨rfl, hb⟩
  obtain ⟨g5, g6⟩ := inR_iff.1 h3
  have hfin : domainSpan n c l = spanI n c l 4 := domainSpan_yes n c l h1 h2 h3
  rw [hfin]
  clear hfin
  go_enter Try.func8, Try.ntmps8
  go_wp2_with (first | (go_at_call 24; refine (inRange_any _ _ _ _).mono ?_; rintro e w' ⟨rfl, rfl⟩) | (go_at_call 18; refine (iDomainLevels_any _ _).mono ?_; rintro e w' ⟨rfl, rfl⟩) | (go_at_call 25; refine (neighbors_any n c l (by omega) (by omega) (by omega) (by omega) (by omega) (by omega) _ W hb).mono ?_; rintro e w1 ⟨rfl, hb1⟩))
  go_loop [7, 32] (fun m i => ∃ k : Int, 0 ≤ k ∧ k ≤ 4 ∧ i = .int .i64 k ∧ m = .int .i64 (spanI n c l k)) (fun _ i => (4 - intOf i).toNat)
  case atStart => exact ⟨0, by omega, by omega, rfl, rfl⟩
  case round =>
    obtain ⟨k, hk0, hk, rfl, rfl⟩ := hrel
    obtain ⟨b1, b2⟩ := spanI_b n c l k (by omega)
    by_cases hlt : k < 4
    · have hs := spanI_succ n c l k hk0
      have hi := spanAt_index n c l k hk0 (by omega)
      have ho := bits_or_small (spanI n c l k) k hk0 (by omega) b1 (spanI_lt n c l k)
      have hp : k = 0 ∨ k = 1 ∨ k = 2 ∨ k = 3 := by omega
      cases hnr : spanBit n c l k
      all_goals
        rw [hnr] at hs hi
        clear hnr
        rcases hp with h | h | h | h <;> subst h
        all_goals
          have HS := Lib.hid hs
          have HO := Lib.hid ho
          clear hs ho
          go_wp2
          go_round
          case rel => exact ⟨_, by omega, by omega, rfl, by have := HS.out; have h2 := HO.out; simp [bitIf] at this h2 ⊢; omega⟩
          case measure => simp [intOf]
    · obtain rfl : k = 4 := by omega
      go_wp2
      go_ret
      exact ⟨rfl, hb1⟩
def domainNear (n a b : Int) : Int := if decide (0 < levels n) && maskHas (domainSpan n a 0) b then 0 else if decide (1 < levels n) && maskHas (domainSpan n a 1) b then 1 else -1
theorem maskHas_zero (b : Int) : maskHas 0 b = false := by
  cases h : inR b 0 3
  · exact maskHas_no2 _ _ h
  · obtain ⟨g1, g2⟩ := inR_iff.1 h
    rcases upto3 g1 g2 with h | h | h | h <;> subst h <;> rfl
theorem domainNear_no1 (n a b : Int) (h : inR n 1 4 = false) : domainNear n a b = -1 := by
  simp [domainNear, levels_no n h]
theorem domainNear_no2 (n a b : Int) (h : inR a 0 (n - 1) = false) : domainNear n a b = -1 := by
  simp [domainNear, domainSpan_no n a _ (by simp [h]), maskHas_zero]
theorem has_out (n a l b : Int) (hb : inR b 0 (n - 1) = false) : maskHas (domainSpan n a l) b = false := by
  cases h1 : inR n 1 4
  · rw [domainSpan_no n a l (by simp [h1]), maskHas_zero]
  cases h2 : inR a 0 (n - 1)
  · rw [domainSpan_no n a l (by simp [h2]), maskHas_zero]
  cases h3 : inR l 0 (levels n - 1)
  · rw [domainSpan_no n a l (by simp [h3]), maskHas_zero]
  cases h4 : inR b 0 3
  · exact maskHas_no2 _ _ h4
  obtain ⟨a1, a2⟩ := inR_iff.1 h1
  obtain ⟨a3, a4⟩ := inR_iff.1 h2
  obtain ⟨a5, a6⟩ := inR_iff.1 h3
  obtain ⟨a7, a8⟩ := inR_iff.1 h4
  have a9 := inR_false hb
  obtain ⟨v1, v2⟩ := levels_b n
  have hn : n = 1 ∨ n = 2 ∨ n = 3 ∨ n = 4 := by omega
  have ha : a = 0 ∨ a = 1 ∨ a = 2 ∨ a = 3 := by omega
  have hl : l = 0 ∨ l = 1 := by omega
  have hb' : b = 0 ∨ b = 1 ∨ b = 2 ∨ b = 3 := by omega
  clear h1 h2 h3 h4 hb a5 a6 v1 v2
  rcases hn with h | h | h | h <;> subst h <;> rcases hb' with h | h | h | h <;> subst h <;> first | omega | (rcases ha with h | h | h | h <;> subst h <;> rcases hl with h | h <;> subst h <;> first | omega | decide)
theorem domainNear_no3 (n a b : Int) (h : inR b 0 (n - 1) = false) : domainNear n a b = -1 := by
  simp [domainNear, has_out n a _ b h]
theorem has_near (n a l b : Int) (h1 : inR n 1 4 = true) (h2 : inR a 0 (n - 1) = true) (hb : inR b 0 (n - 1) = true) (h3 : inR l 0 (levels n - 1) = true) : maskHas (domainSpan n a l) b = near a l b := by
  obtain ⟨a1, a2⟩ := inR_iff.1 h1
  obtain ⟨a3, a4⟩ := inR_iff.1 h2
  obtain ⟨a7, a8⟩ := inR_iff.1 hb
  obtain ⟨a5, a6⟩ := inR_iff.1 h3
  have hn : n = 1 ∨ n = 2 ∨ n = 3 ∨ n = 4 := by omega
  have ha : a = 0 ∨ a = 1 ∨ a = 2 ∨ a = 3 := by omega
  have hb' : b = 0 ∨ b = 1 ∨ b = 2 ∨ b = 3 := by omega
  obtain ⟨v1, v2⟩ := levels_b n
  have hl : l = 0 ∨ l = 1 := by omega
  clear h1 h2 h3 hb v1 v2
  rcases hn with h | h | h | h <;> subst h <;> rcases hb' with h | h | h | h <;> subst h <;> first | omega | (rcases ha with h | h | h | h <;> subst h <;> first | omega | (rcases hl with h | h <;> subst h <;> first | (exfalso; revert a6; decide) | decide))
theorem spans_eql (n a l b : Int) (h1 : inR n 1 4 = true) (h2 : inR a 0 (n - 1) = true) (hb : inR b 0 (n - 1) = true) (hl : l = 0 ∨ l = 1) (w : World) :
    (binOp .eql 33 (.agg (spanAt a l n)) (.agg (spanAt b l n))).run Try.prog w = .ok (.bool (near a l b)) w := by
  obtain ⟨a1, a2⟩ := inR_iff.1 h1
  obtain ⟨a3, a4⟩ := inR_iff.1 h2
  obtain ⟨a7, a8⟩ := inR_iff.1 hb
  have hn : n = 1 ∨ n = 2 ∨ n = 3 ∨ n = 4 := by omega
  have ha : a = 0 ∨ a = 1 ∨ a = 2 ∨ a = 3 := by omega
  have hb' : b = 0 ∨ b = 1 ∨ b = 2 ∨ b = 3 := by omega
  clear h1 h2 hb
  rcases hn with h | h | h | h <;> subst h <;> rcases hb' with h | h | h | h <;> subst h <;> first | omega | (rcases ha with h | h | h | h <;> subst h <;> first | omega | (rcases hl with h | h <;> (rw [h]; clear h; show _ = _; kernel_rfl)))
set_option maxHeartbeats 1000000 in
theorem iDomainNear_any (n a b : Int) (w W : World) (hb : Below W.heap.size W w) :
    Calls Try.prog 10 #[.int .i64 n, .int .i64 a, .int .i64 b] w fun e w' => e = .returned (.int .i64 (domainNear n a b)) ∧ Below W.heap.size W w' := by
  cases h1 : inR n 1 4
  · rw [domainNear_no1 n a b h1]
    go_enter Try.func10, Try.ntmps10
    go_wp2_with (go_at_call 24; refine (inRange_any _ _ _ _).mono ?_; rintro e w' ⟨rfl, rfl⟩)
    go_ret
    exact ⟨rfl, hb⟩
  obtain ⟨g1, g2⟩ := inR_iff.1 h1
  cases h2 : inR a 0 (n - 1)
  · rw [domainNear_no2 n a b h2]
    go_enter Try.func10, Try.ntmps10
    go_wp2_with (go_at_call 24; refine (inRange_any _ _ _ _).mono ?_; rintro e w' ⟨rfl, rfl⟩)
    go_ret
    exact ⟨rfl, hb⟩
  obtain ⟨g3, g4⟩ := inR_iff.1 h2
  cases h3 : inR b 0 (n - 1)
  · rw [domainNear_no3 n a b h3]
    go_enter Try.func10, Try.ntmps10
    go_wp2_with (go_at_call 24; refine (inRange_any _ _ _ _).mono ?_; rintro e w' ⟨rfl, rfl⟩)
    go_ret
    exact ⟨rfl, hb⟩
  obtain ⟨g5, g6⟩ := inR_iff.1 h3
  obtain ⟨v1, v2⟩ := levels_b n
  have hlv : levels n = 0 ∨ levels n = 1 ∨ levels n = 2 := by omega
  have e0 := fun w => spans_eql n a 0 b h1 h2 h3 (.inl rfl) w
  have e1 := fun w => spans_eql n a 1 b h1 h2 h3 (.inr rfl) w
  have hf0 : 0 < levels n → maskHas (domainSpan n a 0) b = near a 0 b := fun h => has_near n a 0 b h1 h2 h3 (inR_t (by omega) (by omega))
  have hf1 : 1 < levels n → maskHas (domainSpan n a 1) b = near a 1 b := fun h => has_near n a 1 b h1 h2 h3 (inR_t (by omega) (by omega))
  have HF : Hid (∀ r, (domainNear n a b = r ↔ (if decide (0 < levels n) && near a 0 b then 0 else if decide (1 < levels n) && near a 1 b then 1 else -1) = r)) := by
    show ∀ r, _
    intro r
    have : domainNear n a b = (if decide (0 < levels n) && near a 0 b then 0 else if decide (1 < levels n) && near a 1 b then 1 else -1) := by
      unfold domainNear
      by_cases c0 : 0 < levels n
      · rw [hf0 c0]
        by_cases c1 : 1 < levels n
        · rw [hf1 c1]
        · simp [c1]
      · have c1 : ¬ 1 < levels n := by omega
        simp [c0, c1]
    rw [this]
  clear hf0 hf1
  go_enter Try.func10, Try.ntmps10
  go_wp2_with (first | (go_at_call 24; refine (inRange_any _ _ _ _).mono ?_; rintro e w' ⟨rfl, rfl⟩) | (go_at_call 18; refine (iDomainLevels_any _ _).mono ?_; rintro e w' ⟨rfl, rfl⟩))
  rcases hlv with hlv | hlv | hlv
  · refine wp_loop_rounds 1 ?_
    rw [rounds_succ]
    go_wp2
    go_ret
    exact ⟨ret_int6 (((HF.out _).2 (by simp [hlv])).symm), hb⟩
  · cases hn0 : near a 0 b
    all_goals
      have N0 := Lib.hid hn0
      rw [hn0] at e0
      clear hn0
      refine wp_loop_rounds 2 ?_
      repeat any_goals (rw [rounds_succ]; go_wp2_with (go_at_call 25; refine (neighbors_any n _ _ (by omega) (by omega) (by omega) (by omega) (by omega) (by omega) _ W (by assumption)).mono ?_; rintro e w1 ⟨rfl, hb1⟩))
      go_ret
      exact ⟨ret_int6 (((HF.out _).2 (by simp [hlv, N0.out])).symm), by assumption⟩
  · cases hn0 : near a 0 b <;> cases hn1 : near a 1 b
    all_goals
      have N0 := Lib.hid hn0
      have N1 := Lib.hid hn1
      rw [hn0] at e0
      rw [hn1] at e1
      clear hn0 hn1
      refine wp_loop_rounds 3 ?_
      repeat any_goals (rw [rounds_succ]; go_wp2_with (go_at_call 25; refine (neighbors_any n _ _ (by omega) (by omega) (by omega) (by omega) (by omega) (by omega) _ W (by assumption)).mono ?_; rintro e w1 ⟨rfl, hb1⟩))
      go_ret
      exact ⟨ret_int6 (((HF.out _).2 (by simp [hlv, N0.out, N1.out])).symm), by assumption⟩
set_option maxHeartbeats 1000000 in
theorem sDomainNear_any (n a b : Int) (w : World) :
    Calls Try.prog 9 #[.int .i64 n, .int .i64 a, .int .i64 b] w fun e w' => e = .returned (.int .i64 (domainNear n a b)) ∧ w = w' := by
  obtain ⟨v1, v2⟩ := levels_b n
  have hlv : levels n = 0 ∨ levels n = 1 ∨ levels n = 2 := by omega
  unfold domainNear
  rcases hlv with hlv | hlv | hlv <;> cases h0 : maskHas (domainSpan n a 0) b <;> cases h1 : maskHas (domainSpan n a 1) b
  all_goals
    rw [hlv]
    go_enter Try.func9, Try.ntmps9
    go_wp2
    refine wp_loop_rounds 3 ?_
    repeat any_goals (rw [rounds_succ]; go_wp2_with (first | (go_at_call 19; refine (sDomainLevels_any _ _).mono ?_; rintro e w' ⟨rfl, rfl⟩) | (go_at_call 7; refine (sDomainSpan_any _ _ _ _).mono ?_; rintro e w' ⟨rfl, rfl⟩) | (go_at_call 26; refine (sMaskHas_any _ _ _).mono ?_; rintro e w' ⟨rfl, rfl⟩)))
    go_ret
    exact ⟨rfl, rfl⟩
end Go.Proofs.Ytipopjkikahjpab

/- Queues: QueueWait of spec. -/
import Derived.Test.YtjdlfldeoinbiaaQ8Base
namespace Go.Proofs.Ytjdlfldeoinbiaa
open Go.RowKit
set_option maxHeartbeats 2000000 in
theorem sQueueWait_any (fl cu ra at_ u : Int) (A : Option Addr) (n c : Nat) (hn : (n : Int) ≤ 9223372036854775807) (on : Nat → Bool) (v x s : Nat → Int) (w W : World) (hb : Below W.heap.size W w)
    (hA : Rs W W.heap.size A n 4 (ent on v x s)) :
    Calls Try.prog 12 #[.agg #[.int .i64 fl, .int .i64 cu, .int .i64 ra, .slice A n c], .int .i64 at_, .int .i64 u] w fun e w' => e = .returned (.int .i64 (queueWait fl cu ra n on v x s at_ u)) ∧ Below W.heap.size W w' := by
  have hz := hb.size
  have HA := Lib.hid (hA.at_ hb)
  clear hA
  cases h0 : queueOk fl cu ra n on v x s
  · rw [queueWait_no (by simp [h0])]
    go_enter Try.func12, Try.ntmps12
    have kb := Bk.new w 29 #[.int .i64 fl, .int .i64 cu, .int .i64 ra, .slice A n c]
    go_wp2_with (refine wpList_load_row rfl 29 _ rfl w.heap.size rfl 29 _ (0, 0) _ kb Try.underlying29 rfl (by kernel_rfl) ?_)
    refine (sQueueOk_any fl cu ra A n c hn on v x s _ _ (Below.refl _ _) (HA.out.at_ (by go_grown))).mono ?_
    rintro e w1 ⟨rfl, hb1⟩
    have kb1 := kb.below hb1 (by simp)
    have hB1 : Below w.heap.size w w1 := ((Below.refl _ w).alloc (Nat.le_refl _) _).trans (hb1.mono (by simp))
    have hlt1 := kb1.lt
    have hW1 : Below W.heap.size W w1 := bel hb hB1
    obtain ⟨k0, k1, k2, k3⟩ := kb1.four
    have KB := Lib.hid kb1
    clear hb1 kb kb1
    go_wp2_with (go_at_call 24; refine (l1In_any _ _ _ _).mono ?_; rintro e w' ⟨rfl, rfl⟩)
    go_ret
    exact ⟨rfl, hW1⟩
  obtain ⟨a1, a2, a3, a4, a5, a6, a7⟩ := queueOk_facts h0
  cases h2 : inR at_ 0 ((n : Int) - 1)
  · rw [queueWait_no (by simp [h2])]
    go_enter Try.func12, Try.ntmps12
    have kb := Bk.new w 29 #[.int .i64 fl, .int .i64 cu, .int .i64 ra, .slice A n c]
    go_wp2_with (refine wpList_load_row rfl 29 _ rfl w.heap.size rfl 29 _ (0, 0) _ kb Try.underlying29 rfl (by kernel_rfl) ?_)
    refine (sQueueOk_any fl cu ra A n c hn on v x s _ _ (Below.refl _ _) (HA.out.at_ (by go_grown))).mono ?_
    rintro e w1 ⟨rfl, hb1⟩
    have kb1 := kb.below hb1 (by simp)
    have hB1 : Below w.heap.size w w1 := ((Below.refl _ w).alloc (Nat.le_refl _) _).trans (hb1.mono (by simp))
    have hlt1 := kb1.lt
    have hW1 : Below W.heap.size W w1 := bel hb hB1
    obtain ⟨k0, k1, k2, k3⟩ := kb1.four
    have KB := Lib.hid kb1
    clear hb1 kb kb1
    go_wp2_with (go_at_call 24; refine (l1In_any _ _ _ _).mono ?_; rintro e w' ⟨rfl, rfl⟩)
    go_ret
    exact ⟨rfl, hW1⟩
  cases h1 : inR u 1 100000000
  · rw [queueWait_no (by simp [h1])]
    go_enter Try.func12, Try.ntmps12
    have kb := Bk.new w 29 #[.int .i64 fl, .int .i64 cu, .int .i64 ra, .slice A n c]
    go_wp2_with (refine wpList_load_row rfl 29 _ rfl w.heap.size rfl 29 _ (0, 0) _ kb Try.underlying29 rfl (by kernel_rfl) ?_)
    refine (sQueueOk_any fl cu ra A n c hn on v x s _ _ (Below.refl _ _) (HA.out.at_ (by go_grown))).mono ?_
    rintro e w1 ⟨rfl, hb1⟩
    have kb1 := kb.below hb1 (by simp)
    have hB1 : Below w.heap.size w w1 := ((Below.refl _ w).alloc (Nat.le_refl _) _).trans (hb1.mono (by simp))
    have hlt1 := kb1.lt
    have hW1 : Below W.heap.size W w1 := bel hb hB1
    obtain ⟨k0, k1, k2, k3⟩ := kb1.four
    have KB := Lib.hid kb1
    clear hb1 kb kb1
    go_wp2_with (go_at_call 24; refine (l1In_any _ _ _ _).mono ?_; rintro e w' ⟨rfl, rfl⟩)
    go_ret
    exact ⟨rfl, hW1⟩
  obtain ⟨g1, g2⟩ := inR_iff.1 h2
  obtain ⟨g3, g4⟩ := inR_iff.1 h1
  obtain ⟨ga, oa, rfl, hga, hca⟩ := HA.out (by omega)
  have HC := Lib.hid hca
  clear hca
  cases h3 : on at_.toNat
  · rw [queueWait_no (by simp [h3])]
    go_enter Try.func12, Try.ntmps12
    have kb := Bk.new w 29 #[.int .i64 fl, .int .i64 cu, .int .i64 ra, .slice (some ⟨ga, oa, none⟩) n c]
    go_wp2_with (refine wpList_load_row rfl 29 _ rfl w.heap.size rfl 29 _ (0, 0) _ kb Try.underlying29 rfl (by kernel_rfl) ?_)
    refine (sQueueOk_any fl cu ra (some ⟨ga, oa, none⟩) n c hn on v x s _ _ (Below.refl _ _) (HA.out.at_ (by go_grown))).mono ?_
    rintro e w1 ⟨rfl, hb1⟩
    have kb1 := kb.below hb1 (by simp)
    have hB1 : Below w.heap.size w w1 := ((Below.refl _ w).alloc (Nat.le_refl _) _).trans (hb1.mono (by simp))
    have hlt1 := kb1.lt
    have hW1 : Below W.heap.size W w1 := bel hb hB1
    obtain ⟨k0, k1, k2, k3⟩ := kb1.four
    have KB := Lib.hid kb1
    clear hb1 kb kb1
    have hr := rangeAt_below (HC.out at_.toNat (by omega)) hB1 hga
    have d0 := hr 0 _ rfl
    have d1 := hr 1 _ rfl
    have d2 := hr 2 _ rfl
    simp only [Nat.add_zero] at d0
    clear hr
    rw [h3] at d0
    go_wp2_with (go_at_call 24; refine (l1In_any _ _ _ _).mono ?_; rintro e w' ⟨rfl, rfl⟩)
    go_ret
    exact ⟨rfl, hW1⟩
  have HN : Hid (queueWait fl cu ra n on v x s at_ u = u + waitSum (goalOf u (v at_.toNat) (x at_.toNat)) at_ on v x n) := queueWait_yes (by simp [h0, h1, h2, h3])
  obtain ⟨b1, b2, b3, b4, b5, b6, b7⟩ := a7 at_.toNat (by omega)
  have hvs := virtualStep_b u (x at_.toNat)
  go_enter Try.func12, Try.ntmps12
  have kb := Bk.new w 29 #[.int .i64 fl, .int .i64 cu, .int .i64 ra, .slice (some ⟨ga, oa, none⟩) n c]
  go_wp2_with (refine wpList_load_row rfl 29 _ rfl w.heap.size rfl 29 _ (0, 0) _ kb Try.underlying29 rfl (by kernel_rfl) ?_)
  refine (sQueueOk_any fl cu ra (some ⟨ga, oa, none⟩) n c hn on v x s _ _ (Below.refl _ _) (HA.out.at_ (by go_grown))).mono ?_
  rintro e w1 ⟨rfl, hb1⟩
  have kb1 := kb.below hb1 (by simp)
  have hB1 : Below w.heap.size w w1 := ((Below.refl _ w).alloc (Nat.le_refl _) _).trans (hb1.mono (by simp))
  have hlt1 := kb1.lt
  have hW1 : Below W.heap.size W w1 := bel hb hB1
  obtain ⟨k0, k1, k2, k3⟩ := kb1.four
  have KB := Lib.hid kb1
  clear hb1 kb kb1
  have hr := rangeAt_below (HC.out at_.toNat (by omega)) hB1 hga
  have d0 := hr 0 _ rfl
  have d1 := hr 1 _ rfl
  have d2 := hr 2 _ rfl
  simp only [Nat.add_zero] at d0
  clear hr
  rw [h3] at d0
  go_wp2_with (go_at_call 24; refine (l1In_any _ _ _ _).mono ?_; rintro e w' ⟨rfl, rfl⟩)
  go_quiet ((first | (go_at_call 24; exact quietQ (l1In_any _ _ _ _)) | (go_at_call 27; exact quietQ (sVirtualStep_any _ _ _)) | (go_at_call 36; exact quietQ (sVirtualUnits_any _ _ _))))
  have HWR : Hid (IntKind.i64.wrap (v at_.toNat + virtualStep u (x at_.toNat)) = goalOf u (v at_.toNat) (x at_.toNat)) := wrap_in (by omega) (by omega)
  have HWR2 : Hid (v at_.toNat + virtualStep u (x at_.toNat) = goalOf u (v at_.toNat) (x at_.toNat)) := rfl
  have hgb : 0 ≤ goalOf u (v at_.toNat) (x at_.toNat) ∧ goalOf u (v at_.toNat) (x at_.toNat) ≤ 123279256000000000 := by unfold goalOf; omega
  first
    | rw [HWR.out]
    | rw [HWR2.out]
  generalize hG : goalOf u (v at_.toNat) (x at_.toNat) = G at *
  clear d0 d1 d2 HWR HWR2 hG
  go_wp2
  go_loopw [8, 9] (fun t i wr => ∃ k : Nat, k ≤ n ∧ i = .int .i64 k ∧ t = .int .i64 (u + waitSum G at_ on v x k) ∧ ∃ d, wr = w1.drewN d) (fun _ i _ => n - (intOf i).toNat)
  case atStart => exact ⟨0, Nat.zero_le _, rfl, by simp [waitSum, sumTo], _, rfl⟩
  case round =>
    obtain ⟨k, hk, rfl, rfl, d, rfl⟩ := hrel
    obtain ⟨s1, s2⟩ := waitSum_b G at_ on v x k (by omega)
    by_cases hlt : k < n
    · have hr := rangeAt_below (HC.out k hlt) hB1 hga
      have d0 := hr 0 _ rfl
      have d1 := hr 1 _ rfl
      have d2 := hr 2 _ rfl
      simp only [Nat.add_zero] at d0
      clear hr
      have HS := Lib.hid (waitSum_succ G at_ on v x k)
      by_cases e1 : (k : Int) = at_
      · have e1' : ((k : Int) != at_) = false := by simp [e1]
        have HS2 : Hid (waitSum G at_ on v x (k + 1) = waitSum G at_ on v x k) := HS.out.trans (by rw [waitAt_no (fun h => h.1 e1)]; omega)
        clear e1
        go_wp2
        go_roundw
        case rel => exact ⟨k + 1, by omega, by go_num, by rw [HS2.out], _, rfl⟩
        case measure => simp [intOf]; omega
      have e1' : ((k : Int) != at_) = true := by simp [e1]
      cases e2 : on k
      · have HS2 : Hid (waitSum G at_ on v x (k + 1) = waitSum G at_ on v x k) := HS.out.trans (by rw [waitAt_no (fun h => by rw [e2] at h; exact absurd h.2 (by decide))]; omega)
        rw [e2] at d0
        clear e1
        go_wp2
        go_roundw
        case rel => exact ⟨k + 1, by omega, by go_num, by rw [HS2.out], _, rfl⟩
        case measure => simp [intOf]; omega
      have HS2 : Hid (waitSum G at_ on v x (k + 1) = waitSum G at_ on v x k + (149 + virtualUnits (G - v k) (x k))) := HS.out.trans (by rw [waitAt_yes e1 e2]; omega)
      obtain ⟨u1, u2⟩ := virtualUnits_b (G - v k) (x k)
      obtain ⟨c1, c2, c3, c4, c5, c6, c7⟩ := a7 k hlt
      rw [e2] at d0
      clear e1
      go_wp2
      go_quiet ((first | (go_at_call 24; exact quietA (l1In_any _ _ _ _)) | (go_at_call 27; exact quietA (sVirtualStep_any _ _ _)) | (go_at_call 36; exact quietA (sVirtualUnits_any _ _ _))))
      go_wp2
      go_roundw
      case rel => exact ⟨k + 1, by omega, by go_num, by rw [HS2.out]; go_num, _, rfl⟩
      case measure => simp [intOf]; omega
    · obtain rfl : k = n := by omega
      go_wp2
      go_ret
      exact ⟨ret_intB HN.out.symm, below_drewN hW1 _⟩
end Go.Proofs.Ytjdlfldeoinbiaa

/- Queues: QueueWait of impl and spec. -/
import Derived.Test.YtjdlfldeoinbiaaQ6Base
namespace Go.Proofs.Ytjdlfldeoinbiaa
open Go.RowKit
def waitAt (goal at_ : Int) (on : Nat → Bool) (v x : Nat → Int) (j : Nat) : Int := if (j : Int) ≠ at_ ∧ on j = true then virtualUnits (goal - v j) (x j) + 149 else 0
theorem waitAt_no {goal at_ : Int} {on : Nat → Bool} {v x : Nat → Int} {j : Nat} (h : ¬ ((j : Int) ≠ at_ ∧ on j = true)) : waitAt goal at_ on v x j = 0 := if_neg h
theorem waitAt_yes {goal at_ : Int} {on : Nat → Bool} {v x : Nat → Int} {j : Nat} (h1 : (j : Int) ≠ at_) (h2 : on j = true) : waitAt goal at_ on v x j = virtualUnits (goal - v j) (x j) + 149 := if_pos ⟨h1, h2⟩
theorem virtualUnits_b (a b : Int) : 0 ≤ virtualUnits a b ∧ virtualUnits a b ≤ 400000000000000000 := by
  unfold virtualUnits
  cases h1 : inR b 1 20 <;> cases h2 : inR a 1 300000000000000000
  case true.true =>
    obtain ⟨g1, g2⟩ := inR_iff.1 h1
    obtain ⟨g3, g4⟩ := inR_iff.1 h2
    obtain ⟨m1, m2, m3⟩ := stepOf_up a b g3 g4 g1 g2
    obtain ⟨m4, m5⟩ := stepOf_b b g1 g2
    have h3 := Int.ediv_nonneg m1 (by omega : 0 ≤ stepOf b)
    have h4 := Int.ediv_le_self (stepOf b) m1
    simp
    omega
  all_goals simp
theorem waitAt_b (goal at_ : Int) (on : Nat → Bool) (v x : Nat → Int) (j : Nat) : 0 ≤ waitAt goal at_ on v x j ∧ waitAt goal at_ on v x j ≤ 400000000000000149 := by
  have := virtualUnits_b (goal - v j) (x j)
  unfold waitAt
  split <;> omega
def waitSum (goal at_ : Int) (on : Nat → Bool) (v x : Nat → Int) (k : Nat) : Int := sumTo (waitAt goal at_ on v x) k
theorem waitSum_b (goal at_ : Int) (on : Nat → Bool) (v x : Nat → Int) (k : Nat) (hk : (k : Int) ≤ 20) : 0 ≤ waitSum goal at_ on v x k ∧ waitSum goal at_ on v x k ≤ 8000000000000002980 := by
  have h := sumTo_b (waitAt goal at_ on v x) 400000000000000149 k (fun i _ => waitAt_b goal at_ on v x i)
  unfold waitSum
  omega
theorem waitSum_succ (goal at_ : Int) (on : Nat → Bool) (v x : Nat → Int) (k : Nat) : waitSum goal at_ on v x (k + 1) = waitSum goal at_ on v x k + waitAt goal at_ on v x k := rfl
def goalOf (u : Int) (v x : Int) : Int := v + virtualStep u x
theorem virtualStep_b (u x : Int) : 0 ≤ virtualStep u x ∧ virtualStep u x ≤ 23279256000000000 := by
  unfold virtualStep
  cases h1 : inR x 1 20 <;> cases h2 : inR u 0 100000000
  case true.true =>
    obtain ⟨g1, g2⟩ := inR_iff.1 h1
    obtain ⟨g3, g4⟩ := inR_iff.1 h2
    exact stepOf_mul u x g3 g4 g1 g2
  all_goals simp
def queueWait (fl cu ra : Int) (n : Nat) (on : Nat → Bool) (v x s : Nat → Int) (at_ u : Int) : Int :=
  if queueOk fl cu ra n on v x s && inR at_ 0 ((n : Int) - 1) && inR u 1 100000000 && on at_.toNat then u + waitSum (goalOf u (v at_.toNat) (x at_.toNat)) at_ on v x n else 0
theorem queueWait_no {fl cu ra : Int} {n : Nat} {on : Nat → Bool} {v x s : Nat → Int} {at_ u : Int} (h : (queueOk fl cu ra n on v x s && inR at_ 0 ((n : Int) - 1) && inR u 1 100000000 && on at_.toNat) = false) : queueWait fl cu ra n on v x s at_ u = 0 := by
  unfold queueWait
  rw [h]; rfl
theorem queueWait_yes {fl cu ra : Int} {n : Nat} {on : Nat → Bool} {v x s : Nat → Int} {at_ u : Int} (h : (queueOk fl cu ra n on v x s && inR at_ 0 ((n : Int) - 1) && inR u 1 100000000 && on at_.toNat) = true) : queueWait fl cu ra n on v x s at_ u = u + waitSum (goalOf u (v at_.toNat) (x at_.toNat)) at_ on v x n := by
  unfold queueWait
  rw [h]; rfl
set_option maxHeartbeats 2000000 in
theorem iQueueWait_any (fl cu ra at_ u : Int) (A : Option Addr) (n c : Nat) (hn : (n : Int) ≤ 9223372036854775807) (on : Nat → Bool) (v x s : Nat → Int) (w W : World) (hb : Below W.heap.size W w)
    (hA : Rs W W.heap.size A n 4 (ent on v x s)) :
    Calls Try.prog 13 #[.agg #[.int .i64 fl, .int .i64 cu, .int .i64 ra, .slice A n c], .int .i64 at_, .int .i64 u] w fun e w' => e = .returned (.int .i64 (queueWait fl cu ra n on v x s at_ u)) ∧ Below W.heap.size W w' := by
  have hz := hb.size
  have HA := Lib.hid (hA.at_ hb)
  clear hA
  cases h0 : queueOk fl cu ra n on v x s
  · rw [queueWait_no (by simp [h0])]
    go_enter Try.func13, Try.ntmps13
    have kb := Bk.new w 29 #[.int .i64 fl, .int .i64 cu, .int .i64 ra, .slice A n c]
    go_wp2_with (refine wpList_load_row rfl 29 _ rfl w.heap.size rfl 29 _ (0, 0) _ kb Try.underlying29 rfl (by kernel_rfl) ?_)
    refine (iQueueOk_any fl cu ra A n c hn on v x s _ _ (Below.refl _ _) (HA.out.at_ (by go_grown))).mono ?_
    rintro e w1 ⟨rfl, hb1⟩
    have kb1 := kb.below hb1 (by simp)
    have hB1 : Below w.heap.size w w1 := ((Below.refl _ w).alloc (Nat.le_refl _) _).trans (hb1.mono (by simp))
    have hlt1 := kb1.lt
    have hW1 : Below W.heap.size W w1 := bel hb hB1
    obtain ⟨k0, k1, k2, k3⟩ := kb1.four
    have KB := Lib.hid kb1
    clear hb1 kb kb1
    go_wp2_with (go_at_call 29; refine (inRange_any _ _ _ _).mono ?_; rintro e w' ⟨rfl, rfl⟩)
    go_ret
    exact ⟨rfl, hW1⟩
  cases h1 : inR u 1 100000000
  · rw [queueWait_no (by simp [h1])]
    go_enter Try.func13, Try.ntmps13
    have kb := Bk.new w 29 #[.int .i64 fl, .int .i64 cu, .int .i64 ra, .slice A n c]
    go_wp2_with (refine wpList_load_row rfl 29 _ rfl w.heap.size rfl 29 _ (0, 0) _ kb Try.underlying29 rfl (by kernel_rfl) ?_)
    refine (iQueueOk_any fl cu ra A n c hn on v x s _ _ (Below.refl _ _) (HA.out.at_ (by go_grown))).mono ?_
    rintro e w1 ⟨rfl, hb1⟩
    have kb1 := kb.below hb1 (by simp)
    have hB1 : Below w.heap.size w w1 := ((Below.refl _ w).alloc (Nat.le_refl _) _).trans (hb1.mono (by simp))
    have hlt1 := kb1.lt
    have hW1 : Below W.heap.size W w1 := bel hb hB1
    obtain ⟨k0, k1, k2, k3⟩ := kb1.four
    have KB := Lib.hid kb1
    clear hb1 kb kb1
    go_wp2_with (go_at_call 29; refine (inRange_any _ _ _ _).mono ?_; rintro e w' ⟨rfl, rfl⟩)
    go_ret
    exact ⟨rfl, hW1⟩
  obtain ⟨a1, a2, a3, a4, a5, a6, a7⟩ := queueOk_facts h0
  cases h2 : inR at_ 0 ((n : Int) - 1)
  · rw [queueWait_no (by simp [h2])]
    go_enter Try.func13, Try.ntmps13
    have kb := Bk.new w 29 #[.int .i64 fl, .int .i64 cu, .int .i64 ra, .slice A n c]
    go_wp2_with (refine wpList_load_row rfl 29 _ rfl w.heap.size rfl 29 _ (0, 0) _ kb Try.underlying29 rfl (by kernel_rfl) ?_)
    refine (iQueueOk_any fl cu ra A n c hn on v x s _ _ (Below.refl _ _) (HA.out.at_ (by go_grown))).mono ?_
    rintro e w1 ⟨rfl, hb1⟩
    have kb1 := kb.below hb1 (by simp)
    have hB1 : Below w.heap.size w w1 := ((Below.refl _ w).alloc (Nat.le_refl _) _).trans (hb1.mono (by simp))
    have hlt1 := kb1.lt
    have hW1 : Below W.heap.size W w1 := bel hb hB1
    obtain ⟨k0, k1, k2, k3⟩ := kb1.four
    have KB := Lib.hid kb1
    clear hb1 kb kb1
    go_wp2_with (first | (go_at_call 29; refine (inRange_any _ _ _ _).mono ?_; rintro e w' ⟨rfl, rfl⟩) | (go_at_call 33; refine (entry_no fl cu ra at_ _ n c w.heap.size (by omega) h2 _ KB.out).mono ?_; rintro e w' ⟨rfl, rfl⟩))
    go_ret
    exact ⟨rfl, hW1⟩
  obtain ⟨g1, g2⟩ := inR_iff.1 h2
  obtain ⟨g3, g4⟩ := inR_iff.1 h1
  obtain ⟨ga, oa, rfl, hga, hca⟩ := HA.out (by omega)
  have HC := Lib.hid hca
  clear hca
  cases h3 : on at_.toNat
  · rw [queueWait_no (by simp [h3])]
    go_enter Try.func13, Try.ntmps13
    have kb := Bk.new w 29 #[.int .i64 fl, .int .i64 cu, .int .i64 ra, .slice (some ⟨ga, oa, none⟩) n c]
    go_wp2_with (refine wpList_load_row rfl 29 _ rfl w.heap.size rfl 29 _ (0, 0) _ kb Try.underlying29 rfl (by kernel_rfl) ?_)
    refine (iQueueOk_any fl cu ra (some ⟨ga, oa, none⟩) n c hn on v x s _ _ (Below.refl _ _) (HA.out.at_ (by go_grown))).mono ?_
    rintro e w1 ⟨rfl, hb1⟩
    have kb1 := kb.below hb1 (by simp)
    have hB1 : Below w.heap.size w w1 := ((Below.refl _ w).alloc (Nat.le_refl _) _).trans (hb1.mono (by simp))
    have hlt1 := kb1.lt
    have hW1 : Below W.heap.size W w1 := bel hb hB1
    obtain ⟨k0, k1, k2, k3⟩ := kb1.four
    have KB := Lib.hid kb1
    clear hb1 kb kb1
    have hr := rangeAt_below (HC.out at_.toNat (by omega)) hB1 hga
    have d0 := hr 0 _ rfl
    have d1 := hr 1 _ rfl
    have d2 := hr 2 _ rfl
    simp only [Nat.add_zero] at d0
    clear hr
    rw [h3] at d0
    go_wp2_with (first | (go_at_call 29; refine (inRange_any _ _ _ _).mono ?_; rintro e w' ⟨rfl, rfl⟩) | (go_at_call 33; refine (entry_at fl cu ra at_ ga oa n c w.heap.size (by omega) h2 _ KB.out).mono ?_; rintro e w' ⟨rfl, rfl⟩))
    go_ret
    exact ⟨rfl, hW1⟩
  have HN : Hid (queueWait fl cu ra n on v x s at_ u = u + waitSum (goalOf u (v at_.toNat) (x at_.toNat)) at_ on v x n) := queueWait_yes (by simp [h0, h1, h2, h3])
  obtain ⟨b1, b2, b3, b4, b5, b6, b7⟩ := a7 at_.toNat (by omega)
  have hvs := virtualStep_b u (x at_.toNat)
  go_enter Try.func13, Try.ntmps13
  have kb := Bk.new w 29 #[.int .i64 fl, .int .i64 cu, .int .i64 ra, .slice (some ⟨ga, oa, none⟩) n c]
  go_wp2_with (refine wpList_load_row rfl 29 _ rfl w.heap.size rfl 29 _ (0, 0) _ kb Try.underlying29 rfl (by kernel_rfl) ?_)
  refine (iQueueOk_any fl cu ra (some ⟨ga, oa, none⟩) n c hn on v x s _ _ (Below.refl _ _) (HA.out.at_ (by go_grown))).mono ?_
  rintro e w1 ⟨rfl, hb1⟩
  have kb1 := kb.below hb1 (by simp)
  have hB1 : Below w.heap.size w w1 := ((Below.refl _ w).alloc (Nat.le_refl _) _).trans (hb1.mono (by simp))
  have hlt1 := kb1.lt
  have hW1 : Below W.heap.size W w1 := bel hb hB1
  obtain ⟨k0, k1, k2, k3⟩ := kb1.four
  have KB := Lib.hid kb1
  clear hb1 kb kb1
  have hr := rangeAt_below (HC.out at_.toNat (by omega)) hB1 hga
  have d0 := hr 0 _ rfl
  have d1 := hr 1 _ rfl
  have d2 := hr 2 _ rfl
  simp only [Nat.add_zero] at d0
  clear hr
  rw [h3] at d0
  have hgw : ga < w1.heap.size := by omega
  have HKS : Hid (∀ w', Below w1.heap.size w1 w' → (fun w' => Below w1.heap.size w1 w' ∧ w'.cell? ⟨ga, oa + at_.toNat * 4 + 1, none⟩ = some (.int .i64 (v at_.toNat)) ∧ w'.cell? ⟨ga, oa + at_.toNat * 4 + 2, none⟩ = some (.int .i64 (x at_.toNat))) w') := fun w' h => ⟨h, (h.cell (p := ⟨ga, _, none⟩) hgw).trans d1, (h.cell (p := ⟨ga, _, none⟩) hgw).trans d2⟩
  have HKT : Hid (∀ a b, (fun w' => Below w1.heap.size w1 w' ∧ w'.cell? ⟨ga, oa + at_.toNat * 4 + 1, none⟩ = some (.int .i64 (v at_.toNat)) ∧ w'.cell? ⟨ga, oa + at_.toNat * 4 + 2, none⟩ = some (.int .i64 (x at_.toNat))) a → Below a.heap.size a b → (fun w' => Below w1.heap.size w1 w' ∧ w'.cell? ⟨ga, oa + at_.toNat * 4 + 1, none⟩ = some (.int .i64 (v at_.toNat)) ∧ w'.cell? ⟨ga, oa + at_.toNat * 4 + 2, none⟩ = some (.int .i64 (x at_.toNat))) b) := fun a b h hab => HKS.out b (bel h.1 hab)
  go_wp2_with (first | (go_at_call 29; refine (inRange_any _ _ _ _).mono ?_; rintro e w' ⟨rfl, rfl⟩) | (go_at_call 33; refine (entry_at fl cu ra at_ ga oa n c w.heap.size (by omega) h2 _ KB.out).mono ?_; rintro e w' ⟨rfl, rfl⟩))
  go_region_held3 (fun w' => Below w1.heap.size w1 w' ∧ w'.cell? ⟨ga, oa + at_.toNat * 4 + 1, none⟩ = some (.int .i64 (v at_.toNat)) ∧ w'.cell? ⟨ga, oa + at_.toNat * 4 + 2, none⟩ = some (.int .i64 (x at_.toNat))) (first | exact HKS.out _ (Below.refl _ _).drew | exact HKT.out _ _ (by assumption) hb2) (first | (go_at_call 34; refine (iVirtualStep_any _ _ _ _ (Below.refl _ _)).mono ?_; rintro e w2 ⟨rfl, hb2⟩))
  have HWR : Hid (IntKind.i64.wrap (v at_.toNat + virtualStep u (x at_.toNat)) = goalOf u (v at_.toNat) (x at_.toNat)) := wrap_in (by omega) (by omega)
  have hgb : 0 ≤ goalOf u (v at_.toNat) (x at_.toNat) ∧ goalOf u (v at_.toNat) (x at_.toNat) ≤ 123279256000000000 := by unfold goalOf; omega
  rw [HWR.out]
  have HB2 : Hid (Below w.heap.size w w2) := bel (A := w) hB1 (bel (Below.refl _ w1).drew hb2)
  have kb2 := KB.out.drew.below hb2 hlt1
  obtain ⟨j0, j1, j2, j3⟩ := kb2.four
  generalize hG : goalOf u (v at_.toNat) (x at_.toNat) = G at *
  clear HKS HKT hb2 k0 k1 k2 k3 d0 d1 d2 kb2 HWR hG
  go_wp2
  go_loopw [9, 46] (fun t i wr => ∃ k : Nat, k ≤ n ∧ i = .int .i64 k ∧ t = .int .i64 (u + waitSum G at_ on v x k) ∧ Hid (Below w.heap.size w wr)) (fun _ i _ => n - (intOf i).toNat)
  case atStart => exact ⟨0, Nat.zero_le _, rfl, by simp [waitSum, sumTo], HB2⟩
  case round =>
    obtain ⟨k, hk, rfl, rfl, HB⟩ := hrel
    obtain ⟨s1, s2⟩ := waitSum_b G at_ on v x k (by omega)
    have hzr := HB.out.size
    by_cases hlt : k < n
    · have hr : Hid (wr.rangeAt ga (oa + k * 4) [.bool (on k), .int .i64 (v k), .int .i64 (x k), .int .i64 (s k)]) := rangeAt_below (HC.out k hlt) HB.out hga
      have HS := Lib.hid (waitSum_succ G at_ on v x k)
      by_cases e1 : (k : Int) = at_
      · have e1' : ((k : Int) != at_) = false := by simp [e1]
        have HS2 : Hid (waitSum G at_ on v x (k + 1) = waitSum G at_ on v x k) := HS.out.trans (by rw [waitAt_no (fun h => h.1 e1)]; omega)
        clear e1
        go_wp2_with (refine wpList_load_mid rfl 49 _ rfl ga (oa + k * 4) rfl _ _ hr.out Try.underlying49 rfl (by kernel_rfl) ?_)
        go_roundw
        case rel => exact ⟨k + 1, by omega, by go_num, by rw [HS2.out], HB.out.alloc hzr _⟩
        case measure => simp [intOf]; omega
      have e1' : ((k : Int) != at_) = true := by simp [e1]
      cases e2 : on k
      · have HS2 : Hid (waitSum G at_ on v x (k + 1) = waitSum G at_ on v x k) := HS.out.trans (by rw [waitAt_no (fun h => by rw [e2] at h; exact absurd h.2 (by decide))]; omega)
        rw [e2] at hr
        clear e1
        go_wp2_with (refine wpList_load_mid rfl 49 _ rfl ga (oa + k * 4) rfl _ _ hr.out Try.underlying49 rfl (by kernel_rfl) ?_)
        go_roundw
        case rel => exact ⟨k + 1, by omega, by go_num, by rw [HS2.out], HB.out.alloc hzr _⟩
        case measure => simp [intOf]; omega
      have HS2 : Hid (waitSum G at_ on v x (k + 1) = waitSum G at_ on v x k + (149 + virtualUnits (G - v k) (x k))) := HS.out.trans (by rw [waitAt_yes e1 e2]; omega)
      obtain ⟨u1, u2⟩ := virtualUnits_b (G - v k) (x k)
      obtain ⟨c1, c2, c3, c4, c5, c6, c7⟩ := a7 k hlt
      rw [e2] at hr
      clear e1
      go_wp2_with (refine wpList_load_mid rfl 49 _ rfl ga (oa + k * 4) rfl _ _ hr.out Try.underlying49 rfl (by kernel_rfl) ?_)
      go_wp2_with (go_at_call 37; refine (iVirtualUnits_any _ _ _ _ (Below.refl _ _)).mono ?_; rintro e w3 ⟨rfl, hb3⟩)
      go_roundw
      case rel => exact ⟨k + 1, by omega, by go_num, by rw [HS2.out]; go_num, bel (HB.out.alloc hzr _) hb3⟩
      case measure => simp [intOf]; omega
    · obtain rfl : k = n := by omega
      go_wp2
      go_ret
      exact ⟨ret_intB HN.out.symm, bel hb HB.out⟩
end Go.Proofs.Ytjdlfldeoinbiaa

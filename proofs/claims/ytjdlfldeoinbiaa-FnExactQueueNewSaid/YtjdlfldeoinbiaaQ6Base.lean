/- Queues: QueueOk of spec. -/
import Derived.Test.YtjdlfldeoinbiaaQ5Base
namespace Go.Proofs.Ytjdlfldeoinbiaa
open Go.RowKit
set_option maxHeartbeats 1000000 in
theorem sQueueOk_any (fl cu ra : Int) (A : Option Addr) (n c : Nat) (hn : (n : Int) ≤ 9223372036854775807) (on : Nat → Bool) (v x s : Nat → Int) (w W : World) (hb : Below W.heap.size W w)
    (hA : Rs W W.heap.size A n 4 (ent on v x s)) :
    Calls Try.prog 8 #[.agg #[.int .i64 fl, .int .i64 cu, .int .i64 ra, .slice A n c]] w fun e w' => e = .returned (.bool (queueOk fl cu ra n on v x s)) ∧ Below W.heap.size W w' := by
  have hz := hb.size
  have hbx : ∀ o, Below W.heap.size W (w.alloc o) := fun o => hb.alloc hz o
  cases h1 : inR n 1 20
  · rw [queueOk_head (by simp [h1])]
    go_enter Try.func8, Try.ntmps8
    go_wp2_with (first | (go_at_call 24; refine (l1In_any _ _ _ _).mono ?_; rintro e w' ⟨rfl, rfl⟩) | (go_at_call 25; refine (l4Time_any _ _).mono ?_; rintro e w' ⟨rfl, rfl⟩))
    go_ret
    exact ⟨rfl, hbx _⟩
  cases h2 : timeB fl
  · rw [queueOk_head (by simp [h2])]
    go_enter Try.func8, Try.ntmps8
    go_wp2_with (first | (go_at_call 24; refine (l1In_any _ _ _ _).mono ?_; rintro e w' ⟨rfl, rfl⟩) | (go_at_call 25; refine (l4Time_any _ _).mono ?_; rintro e w' ⟨rfl, rfl⟩))
    go_ret
    exact ⟨rfl, hbx _⟩
  obtain ⟨g1, g2⟩ := inR_iff.1 h1
  cases h3 : inR cu (-1) ((n : Int) - 1)
  · rw [queueOk_cu h3]
    go_enter Try.func8, Try.ntmps8
    go_wp2_with (first | (go_at_call 24; refine (l1In_any _ _ _ _).mono ?_; rintro e w' ⟨rfl, rfl⟩) | (go_at_call 25; refine (l4Time_any _ _).mono ?_; rintro e w' ⟨rfl, rfl⟩))
    go_ret
    exact ⟨rfl, hbx _⟩
  obtain ⟨g3, g4⟩ := timeB_t h2
  obtain ⟨g5, g6⟩ := inR_iff.1 h3
  obtain ⟨ga, oa, rfl, hga, hca⟩ := hA.at_ hb (by omega)
  have HC := Lib.hid hca
  have HL : Hid (∀ k, k < n → entOk fl on v x s k = false → queueOk fl cu ra n on v x s = false) := fun k hk h => queueOk_ent k hk h
  have HE : Hid (allTo (entOk fl on v x s) n = true → queueOk fl cu ra n on v x s = curOk fl cu ra on v x) := fun ha => queueOk_end h1 h2 h3 ha
  clear hca hA
  go_enter Try.func8, Try.ntmps8
  go_wp2_with (first | (go_at_call 24; refine (l1In_any _ _ _ _).mono ?_; rintro e w' ⟨rfl, rfl⟩) | (go_at_call 25; refine (l4Time_any _ _).mono ?_; rintro e w' ⟨rfl, rfl⟩))
  go_loopw [3] (fun i wr => ∃ k : Nat, k ≤ n ∧ i = .int .i64 k ∧ Hid (allTo (entOk fl on v x s) k = true) ∧ Hid (Bk wr w.heap.size 29 #[.int .i64 fl, .int .i64 cu, .int .i64 ra, .slice (some ⟨ga, oa, none⟩) n c]) ∧ Hid (Below w.heap.size w wr)) (fun i _ => n - (intOf i).toNat)
  case atStart => exact ⟨0, Nat.zero_le _, rfl, rfl, (Bk.new w _ _), ((Below.refl _ w).alloc (Nat.le_refl _) _)⟩
  case round =>
    obtain ⟨k, hk, rfl, HA, HK, HB⟩ := hrel
    obtain ⟨k0, k1, k2, k3⟩ := HK.out.four
    have HW : Below W.heap.size W wr := bel hb HB.out
    have hzW := HW.size
    have hltz := HK.out.lt
    by_cases hlt : k < n
    · have hr := rangeAt_below (HC.out k hlt) HB.out hga
      have d0 := hr 0 _ rfl
      have d1 := hr 1 _ rfl
      have d2 := hr 2 _ rfl
      have d3 := hr 3 _ rfl
      simp only [Nat.add_zero] at d0
      have hgw : ga < wr.heap.size := by omega
      have KS : ∀ w', Below wr.heap.size wr w' → (fun w' => Below wr.heap.size wr w' ∧ w'.cell? ⟨w.heap.size, 0, none⟩ = some (.int .i64 fl) ∧ w'.cell? ⟨w.heap.size, 3, none⟩ = some (.slice (some ⟨ga, oa, none⟩) n c) ∧ w'.cell? ⟨ga, oa + k * 4, none⟩ = some (.bool (on k)) ∧ w'.cell? ⟨ga, oa + k * 4 + 1, none⟩ = some (.int .i64 (v k)) ∧ w'.cell? ⟨ga, oa + k * 4 + 2, none⟩ = some (.int .i64 (x k)) ∧ w'.cell? ⟨ga, oa + k * 4 + 3, none⟩ = some (.int .i64 (s k))) w' := fun w' h => ⟨h, (h.cell (p := ⟨_, _, none⟩) hltz).trans k0, (h.cell (p := ⟨_, _, none⟩) hltz).trans k3, (h.cell (p := ⟨ga, _, none⟩) hgw).trans d0, (h.cell (p := ⟨ga, _, none⟩) hgw).trans d1, (h.cell (p := ⟨ga, _, none⟩) hgw).trans d2, (h.cell (p := ⟨ga, _, none⟩) hgw).trans d3⟩
      have KT : ∀ a b, (fun w' => Below wr.heap.size wr w' ∧ w'.cell? ⟨w.heap.size, 0, none⟩ = some (.int .i64 fl) ∧ w'.cell? ⟨w.heap.size, 3, none⟩ = some (.slice (some ⟨ga, oa, none⟩) n c) ∧ w'.cell? ⟨ga, oa + k * 4, none⟩ = some (.bool (on k)) ∧ w'.cell? ⟨ga, oa + k * 4 + 1, none⟩ = some (.int .i64 (v k)) ∧ w'.cell? ⟨ga, oa + k * 4 + 2, none⟩ = some (.int .i64 (x k)) ∧ w'.cell? ⟨ga, oa + k * 4 + 3, none⟩ = some (.int .i64 (s k))) a → Below a.heap.size a b → (fun w' => Below wr.heap.size wr w' ∧ w'.cell? ⟨w.heap.size, 0, none⟩ = some (.int .i64 fl) ∧ w'.cell? ⟨w.heap.size, 3, none⟩ = some (.slice (some ⟨ga, oa, none⟩) n c) ∧ w'.cell? ⟨ga, oa + k * 4, none⟩ = some (.bool (on k)) ∧ w'.cell? ⟨ga, oa + k * 4 + 1, none⟩ = some (.int .i64 (v k)) ∧ w'.cell? ⟨ga, oa + k * 4 + 2, none⟩ = some (.int .i64 (x k)) ∧ w'.cell? ⟨ga, oa + k * 4 + 3, none⟩ = some (.int .i64 (s k))) b := fun a b h hab => KS b (bel h.1 hab)
      have HKS := Lib.hid KS
      have HKT := Lib.hid KT
      clear KS KT hr
      cases r1 : entB fl (on k) (v k) (x k) (s k)
      · have HN := Lib.hid (HL.out k hlt r1)
        go_wp2
        go_region_held3 (fun w' => Below wr.heap.size wr w' ∧ w'.cell? ⟨w.heap.size, 0, none⟩ = some (.int .i64 fl) ∧ w'.cell? ⟨w.heap.size, 3, none⟩ = some (.slice (some ⟨ga, oa, none⟩) n c) ∧ w'.cell? ⟨ga, oa + k * 4, none⟩ = some (.bool (on k)) ∧ w'.cell? ⟨ga, oa + k * 4 + 1, none⟩ = some (.int .i64 (v k)) ∧ w'.cell? ⟨ga, oa + k * 4 + 2, none⟩ = some (.int .i64 (x k)) ∧ w'.cell? ⟨ga, oa + k * 4 + 3, none⟩ = some (.int .i64 (s k))) (first | exact HKS.out _ (Below.refl _ _).drew | exact HKT.out _ _ (by assumption) hb1) (first | (go_at_call 26; refine (l4Entry_any _ _ _ _ _ g3 g4 _ _ (Below.refl _ _)).mono ?_; rintro e w1 ⟨rfl, hb1⟩))
        all_goals
          go_wp2
          go_ret
          exact ⟨ret_boolQ HN.out.symm, bel HW.drew hb1⟩
      · have HA2 : Hid (allTo (entOk fl on v x s) (k + 1) = true) := allTo_next _ k HA.out r1
        go_wp2
        go_region_held3 (fun w' => Below wr.heap.size wr w' ∧ w'.cell? ⟨w.heap.size, 0, none⟩ = some (.int .i64 fl) ∧ w'.cell? ⟨w.heap.size, 3, none⟩ = some (.slice (some ⟨ga, oa, none⟩) n c) ∧ w'.cell? ⟨ga, oa + k * 4, none⟩ = some (.bool (on k)) ∧ w'.cell? ⟨ga, oa + k * 4 + 1, none⟩ = some (.int .i64 (v k)) ∧ w'.cell? ⟨ga, oa + k * 4 + 2, none⟩ = some (.int .i64 (x k)) ∧ w'.cell? ⟨ga, oa + k * 4 + 3, none⟩ = some (.int .i64 (s k))) (first | exact HKS.out _ (Below.refl _ _).drew | exact HKT.out _ _ (by assumption) hb1) (first | (go_at_call 26; refine (l4Entry_any _ _ _ _ _ g3 g4 _ _ (Below.refl _ _)).mono ?_; rintro e w1 ⟨rfl, hb1⟩))
        all_goals
          go_wp2
          go_roundw
          case rel => exact ⟨k + 1, by omega, by go_num, HA2, HK.out.drew.below hb1 hltz, bel HB.out.drew hb1⟩
          case measure => simp [intOf]; omega
    · obtain rfl : k = n := by omega
      have HE2 := Lib.hid (HE.out HA.out)
      by_cases e1 : cu = -1
      · have HN := Lib.hid (HE2.out.trans (curOk_no e1))
        have e1' : decide (cu < 0) = true := by simp [e1]
        have e2 : cu < 0 := by omega
        clear e1
        go_wp2
        go_ret
        exact ⟨ret_boolQ HN.out.symm, HW⟩
      have e2 : ¬ cu < 0 := by omega
      have e1' : decide (cu < 0) = false := by simp [e2]
      have hr : Hid (wr.rangeAt ga (oa + cu.toNat * 4) [.bool (on cu.toNat), .int .i64 (v cu.toNat), .int .i64 (x cu.toNat), .int .i64 (s cu.toNat)]) := rangeAt_below (HC.out cu.toNat (by omega)) HB.out hga
      obtain ⟨b1, b2, b3, b4, b5, b6, b7⟩ := entB_facts (allTo_at _ cu.toNat k (by omega) HA.out)
      have HE3 := Lib.hid (HE2.out.trans (curOk_some e1))
      clear e1
      cases r1 : on cu.toNat
      · have HN := Lib.hid (HE3.out.trans (curB_f1 r1))
        rw [r1] at hr
        go_wp2_with (refine wpList_load_mid rfl 49 _ rfl ga (oa + cu.toNat * 4) rfl _ _ hr.out Try.underlying49 rfl (by kernel_rfl) ?_)
        go_quiet (fail)
        go_wp2
        go_ret
        exact ⟨ret_boolQ HN.out.symm, below_drewN (HW.alloc hzW _) _⟩
      rw [r1] at hr
      cases r2 : inR ra 1 149
      · have HN := Lib.hid (HE3.out.trans (curB_f2 r2))
        go_wp2_with (refine wpList_load_mid rfl 49 _ rfl ga (oa + cu.toNat * 4) rfl _ _ hr.out Try.underlying49 rfl (by kernel_rfl) ?_)
        go_quiet ((first | (go_at_call 24; exact quietQ (l1In_any _ _ _ _)) | (go_at_call 27; exact quietQ (sVirtualStep_any _ _ _))))
        go_wp2
        go_ret
        exact ⟨ret_boolQ HN.out.symm, below_drewN (HW.alloc hzW _) _⟩
      have HN := Lib.hid (HE3.out.trans (curB_e r1 r2))
      go_wp2_with (refine wpList_load_mid rfl 49 _ rfl ga (oa + cu.toNat * 4) rfl _ _ hr.out Try.underlying49 rfl (by kernel_rfl) ?_)
      go_quiet ((first | (go_at_call 24; exact quietQ (l1In_any _ _ _ _)) | (go_at_call 27; exact quietQ (sVirtualStep_any _ _ _))))
      go_wp2
      go_ret
      exact ⟨ret_boolQ HN.out.symm, below_drewN (HW.alloc hzW _) _⟩
end Go.Proofs.Ytjdlfldeoinbiaa

/- Queues: QueueOk of impl and spec. -/
import Derived.Test.YtjdlfldeoinbiaaQ3Base
namespace Go.Proofs.Ytjdlfldeoinbiaa
open Go.RowKit
theorem wrap_in {a : Int} (h1 : -9223372036854775808 ≤ a) (h2 : a ≤ 9223372036854775807) : IntKind.i64.wrap a = a := by rw [IntKind.wrap_i64]; omega
set_option maxHeartbeats 1000000 in
theorem iQueueOk_any (fl cu ra : Int) (A : Option Addr) (n c : Nat) (hn : (n : Int) ≤ 9223372036854775807) (on : Nat → Bool) (v x s : Nat → Int) (w W : World) (hb : Below W.heap.size W w)
    (hA : Rs W W.heap.size A n 4 (ent on v x s)) :
    Calls Try.prog 10 #[.agg #[.int .i64 fl, .int .i64 cu, .int .i64 ra, .slice A n c]] w fun e w' => e = .returned (.bool (queueOk fl cu ra n on v x s)) ∧ Below W.heap.size W w' := by
  have hz := hb.size
  have hbx : ∀ o, Below W.heap.size W (w.alloc o) := fun o => hb.alloc hz o
  cases h1 : inR n 1 20
  · rw [queueOk_head (by simp [h1])]
    go_enter Try.func10, Try.ntmps10
    go_wp2_with (go_at_call 29; refine (inRange_any _ _ _ _).mono ?_; rintro e w' ⟨rfl, rfl⟩)
    go_ret
    exact ⟨rfl, hbx _⟩
  cases h2 : timeB fl
  · rw [queueOk_head (by simp [h2])]
    go_enter Try.func10, Try.ntmps10
    go_wp2_with (first | (go_at_call 29; refine (inRange_any _ _ _ _).mono ?_; rintro e w' ⟨rfl, rfl⟩) | (go_at_call 30; refine (timeOk_one _ _ _ _ _ (by simp)).mono ?_; rintro e w' ⟨rfl, rfl⟩))
    go_ret
    exact ⟨rfl, (hbx _).alloc (by simp; omega) _⟩
  obtain ⟨g1, g2⟩ := inR_iff.1 h1
  obtain ⟨g3, g4⟩ := timeB_t h2
  obtain ⟨ga, oa, rfl, hga, hca⟩ := hA.at_ hb (by omega)
  have HC := Lib.hid hca
  have HL : Hid (∀ k, k < n → entOk fl on v x s k = false → queueOk fl cu ra n on v x s = false) := fun k hk h => queueOk_ent k hk h
  have HE : Hid (allTo (entOk fl on v x s) n = true → queueOk fl cu ra n on v x s = (inR cu (-1) ((n : Int) - 1) && curOk fl cu ra on v x)) := fun ha => by
    cases h3 : inR cu (-1) ((n : Int) - 1)
    · rw [queueOk_cu h3]; rfl
    · rw [queueOk_end h1 h2 h3 ha]; rfl
  clear hca hA
  go_enter Try.func10, Try.ntmps10
  go_wp2_with (first | (go_at_call 29; refine (inRange_any _ _ _ _).mono ?_; rintro e w' ⟨rfl, rfl⟩) | (go_at_call 30; refine (timeOk_one _ _ _ _ _ (by simp)).mono ?_; rintro e w' ⟨rfl, rfl⟩))
  go_loopw [21] (fun i wr => ∃ k : Nat, k ≤ n ∧ i = .int .i64 k ∧ Hid (allTo (entOk fl on v x s) k = true) ∧ Hid (Bk wr w.heap.size 29 #[.int .i64 fl, .int .i64 cu, .int .i64 ra, .slice (some ⟨ga, oa, none⟩) n c]) ∧ Hid (Below w.heap.size w wr)) (fun i _ => n - (intOf i).toNat)
  case atStart => exact ⟨0, Nat.zero_le _, rfl, rfl, (Bk.new w _ _).alloc _, ((Below.refl _ w).alloc (Nat.le_refl _) _).alloc (by simp) _⟩
  case round =>
    obtain ⟨k, hk, rfl, HA, HK, HB⟩ := hrel
    obtain ⟨k0, k1, k2, k3⟩ := HK.out.four
    by_cases hlt : k < n
    · have hr : Hid (wr.rangeAt ga (oa + k * 4) [.bool (on k), .int .i64 (v k), .int .i64 (x k), .int .i64 (s k)]) := rangeAt_below (HC.out k hlt) HB.out hga
      have HW : Below W.heap.size W wr := bel hb HB.out
      have hzW := HW.size
      have hltz := HK.out.lt
      cases r1 : inR (x k) 1 20
      · have HN := Lib.hid (HL.out k hlt (entB_f1 r1))
        go_wp2_with (refine wpList_load_mid rfl 49 _ rfl ga (oa + k * 4) rfl _ _ hr.out Try.underlying49 rfl (by kernel_rfl) ?_)
        go_wp2_with (first | (go_at_call 29; refine (inRange_any _ _ _ _).mono ?_; rintro e w' ⟨rfl, rfl⟩) | (go_at_call 31; refine (weightOk_any _ _).mono ?_; rintro e w' ⟨rfl, rfl⟩) | (go_at_call 30; refine (timeOk_two _ _ _ _ _ _ (by simp)).mono ?_; rintro e w' ⟨rfl, rfl⟩) | (go_at_call 32; refine (placed_any _ _ _ b3 b4 g3 g4 _ _ (Below.refl _ _)).mono ?_; rintro e w1 ⟨rfl, hb1⟩))
        go_ret
        exact ⟨ret_boolQ HN.out.symm, by go_grown⟩
      cases r2 : time2 (v k) (s k)
      · have HN := Lib.hid (HL.out k hlt (entB_f2 r2))
        go_wp2_with (refine wpList_load_mid rfl 49 _ rfl ga (oa + k * 4) rfl _ _ hr.out Try.underlying49 rfl (by kernel_rfl) ?_)
        go_wp2_with (first | (go_at_call 29; refine (inRange_any _ _ _ _).mono ?_; rintro e w' ⟨rfl, rfl⟩) | (go_at_call 31; refine (weightOk_any _ _).mono ?_; rintro e w' ⟨rfl, rfl⟩) | (go_at_call 30; refine (timeOk_two _ _ _ _ _ _ (by simp)).mono ?_; rintro e w' ⟨rfl, rfl⟩) | (go_at_call 32; refine (placed_any _ _ _ b3 b4 g3 g4 _ _ (Below.refl _ _)).mono ?_; rintro e w1 ⟨rfl, hb1⟩))
        go_ret
        exact ⟨ret_boolQ HN.out.symm, by go_grown⟩
      obtain ⟨b3, b4, b5, b6⟩ := time2_t r2
      cases r3 : on k
      · have HA2 : Hid (allTo (entOk fl on v x s) (k + 1) = true) := allTo_next _ k HA.out (entB_t1 r1 r2 r3)
        rw [r3] at hr
        go_wp2_with (refine wpList_load_mid rfl 49 _ rfl ga (oa + k * 4) rfl _ _ hr.out Try.underlying49 rfl (by kernel_rfl) ?_)
        go_wp2_with (first | (go_at_call 29; refine (inRange_any _ _ _ _).mono ?_; rintro e w' ⟨rfl, rfl⟩) | (go_at_call 31; refine (weightOk_any _ _).mono ?_; rintro e w' ⟨rfl, rfl⟩) | (go_at_call 30; refine (timeOk_two _ _ _ _ _ _ (by simp)).mono ?_; rintro e w' ⟨rfl, rfl⟩) | (go_at_call 32; refine (placed_any _ _ _ b3 b4 g3 g4 _ _ (Below.refl _ _)).mono ?_; rintro e w1 ⟨rfl, hb1⟩))
        go_roundw
        case rel => exact ⟨k + 1, by omega, by go_num, HA2, (HK.out.alloc _).alloc _, (HB.out.alloc HB.out.size _).alloc (by have := HB.out.size; simp; omega) _⟩
        case measure => simp [intOf]; omega
      rw [r3] at hr
      cases r4 : placedB (v k) fl (x k)
      · have HN := Lib.hid (HL.out k hlt (entB_f3 r3 r4))
        go_wp2_with (refine wpList_load_mid rfl 49 _ rfl ga (oa + k * 4) rfl _ _ hr.out Try.underlying49 rfl (by kernel_rfl) ?_)
        go_wp2_with (first | (go_at_call 29; refine (inRange_any _ _ _ _).mono ?_; rintro e w' ⟨rfl, rfl⟩) | (go_at_call 31; refine (weightOk_any _ _).mono ?_; rintro e w' ⟨rfl, rfl⟩) | (go_at_call 30; refine (timeOk_two _ _ _ _ _ _ (by simp)).mono ?_; rintro e w' ⟨rfl, rfl⟩) | (go_at_call 32; refine (placed_any _ _ _ b3 b4 g3 g4 _ _ (Below.refl _ _)).mono ?_; rintro e w1 ⟨rfl, hb1⟩))
        go_ret
        exact ⟨ret_boolQ HN.out.symm, bel (by go_grown) hb1⟩
      · have HA2 : Hid (allTo (entOk fl on v x s) (k + 1) = true) := allTo_next _ k HA.out (entB_t2 r1 r2 r4)
        go_wp2_with (refine wpList_load_mid rfl 49 _ rfl ga (oa + k * 4) rfl _ _ hr.out Try.underlying49 rfl (by kernel_rfl) ?_)
        go_wp2_with (first | (go_at_call 29; refine (inRange_any _ _ _ _).mono ?_; rintro e w' ⟨rfl, rfl⟩) | (go_at_call 31; refine (weightOk_any _ _).mono ?_; rintro e w' ⟨rfl, rfl⟩) | (go_at_call 30; refine (timeOk_two _ _ _ _ _ _ (by simp)).mono ?_; rintro e w' ⟨rfl, rfl⟩) | (go_at_call 32; refine (placed_any _ _ _ b3 b4 g3 g4 _ _ (Below.refl _ _)).mono ?_; rintro e w1 ⟨rfl, hb1⟩))
        go_roundw
        case rel => exact ⟨k + 1, by omega, by go_num, HA2, ((HK.out.alloc _).alloc _).below hb1 (by have := HK.out.lt; simp; omega), bel ((HB.out.alloc HB.out.size _).alloc (by have := HB.out.size; simp; omega) _) hb1⟩
        case measure => simp [intOf]; omega
    · obtain rfl : k = n := by omega
      have HE2 := Lib.hid (HE.out HA.out)
      have HW : Below W.heap.size W wr := bel hb HB.out
      have hzW := HW.size
      have hltz := HK.out.lt
      by_cases e1 : cu = -1
      · have HN : Hid (queueOk fl cu ra k on v x s = (ra == 0)) := HE2.out.trans (by rw [curOk_no e1, e1, inR_t (by omega) (by omega)]; rfl)
        have e1' : (cu == -1) = true := by simp [e1]
        clear e1
        go_wp2
        go_ret
        exact ⟨ret_boolQ HN.out.symm, HW⟩
      have e1' : (cu == -1) = false := by simp [e1]
      cases e2 : inR cu 0 ((k : Int) - 1)
      · have HN : Hid (queueOk fl cu ra k on v x s = false) := HE2.out.trans (by rw [inR_f (by have := inR_false e2; omega)]; rfl)
        clear e1
        go_wp2_with (go_at_call 33; refine (entry_no fl cu ra cu _ k c w.heap.size (by omega) e2 _ HK.out).mono ?_; rintro e w' ⟨rfl, rfl⟩)
        go_quiet (fail)
        go_wp2
        go_ret
        exact ⟨ret_boolQ HN.out.symm, below_drewN HW _⟩
      obtain ⟨e3, e4⟩ := inR_iff.1 e2
      have hr := rangeAt_below (HC.out cu.toNat (by omega)) HB.out hga
      have d0 := hr 0 _ rfl
      have d1 := hr 1 _ rfl
      have d2 := hr 2 _ rfl
      simp only [Nat.add_zero] at d0
      obtain ⟨b1, b2, b3, b4, b5, b6, b7⟩ := entB_facts (allTo_at _ cu.toNat k (by omega) HA.out)
      have HE3 : Hid (queueOk fl cu ra k on v x s = curB fl cu ra on v x) := HE2.out.trans (by rw [curOk_some e1, inR_t (by omega) (by omega)]; rfl)
      clear e1 hr
      cases r1 : on cu.toNat
      · have HN := Lib.hid (HE3.out.trans (curB_f1 r1))
        rw [r1] at d0
        go_wp2_with (go_at_call 33; refine (entry_at fl cu ra cu ga oa k c w.heap.size (by omega) e2 _ HK.out).mono ?_; rintro e w' ⟨rfl, rfl⟩)
        go_quiet (fail)
        go_wp2
        go_ret
        exact ⟨ret_boolQ HN.out.symm, below_drewN HW _⟩
      rw [r1] at d0
      cases r2 : inR ra 1 149
      · have HN := Lib.hid (HE3.out.trans (curB_f2 r2))
        go_wp2_with (go_at_call 33; refine (entry_at fl cu ra cu ga oa k c w.heap.size (by omega) e2 _ HK.out).mono ?_; rintro e w' ⟨rfl, rfl⟩)
        go_quiet ((go_at_call 29; exact quietQ (inRange_any _ _ _ _)))
        go_wp2
        go_ret
        exact ⟨ret_boolQ HN.out.symm, below_drewN HW _⟩
      have HN := Lib.hid (HE3.out.trans (curB_e r1 r2))
      have HWR : Hid (IntKind.i64.wrap (v cu.toNat - fl) = v cu.toNat - fl) := wrap_in (by omega) (by omega)
      have hgw : ga < wr.heap.size := by omega
      have KS : ∀ w', Below wr.heap.size wr w' → (fun w' => Below wr.heap.size wr w' ∧ w'.cell? ⟨w.heap.size, 0, none⟩ = some (.int .i64 fl) ∧ w'.cell? ⟨w.heap.size, 2, none⟩ = some (.int .i64 ra) ∧ w'.cell? ⟨ga, oa + cu.toNat * 4, none⟩ = some (.bool true) ∧ w'.cell? ⟨ga, oa + cu.toNat * 4 + 1, none⟩ = some (.int .i64 (v cu.toNat)) ∧ w'.cell? ⟨ga, oa + cu.toNat * 4 + 2, none⟩ = some (.int .i64 (x cu.toNat))) w' := fun w' h => ⟨h, (h.cell (p := ⟨_, _, none⟩) hltz).trans k0, (h.cell (p := ⟨_, _, none⟩) hltz).trans k2, (h.cell (p := ⟨ga, _, none⟩) hgw).trans d0, (h.cell (p := ⟨ga, _, none⟩) hgw).trans d1, (h.cell (p := ⟨ga, _, none⟩) hgw).trans d2⟩
      have KT : ∀ a b, (fun w' => Below wr.heap.size wr w' ∧ w'.cell? ⟨w.heap.size, 0, none⟩ = some (.int .i64 fl) ∧ w'.cell? ⟨w.heap.size, 2, none⟩ = some (.int .i64 ra) ∧ w'.cell? ⟨ga, oa + cu.toNat * 4, none⟩ = some (.bool true) ∧ w'.cell? ⟨ga, oa + cu.toNat * 4 + 1, none⟩ = some (.int .i64 (v cu.toNat)) ∧ w'.cell? ⟨ga, oa + cu.toNat * 4 + 2, none⟩ = some (.int .i64 (x cu.toNat))) a → Below a.heap.size a b → (fun w' => Below wr.heap.size wr w' ∧ w'.cell? ⟨w.heap.size, 0, none⟩ = some (.int .i64 fl) ∧ w'.cell? ⟨w.heap.size, 2, none⟩ = some (.int .i64 ra) ∧ w'.cell? ⟨ga, oa + cu.toNat * 4, none⟩ = some (.bool true) ∧ w'.cell? ⟨ga, oa + cu.toNat * 4 + 1, none⟩ = some (.int .i64 (v cu.toNat)) ∧ w'.cell? ⟨ga, oa + cu.toNat * 4 + 2, none⟩ = some (.int .i64 (x cu.toNat))) b := fun a b h hab => KS b (bel h.1 hab)
      have HKS := Lib.hid KS
      have HKT := Lib.hid KT
      clear KS KT
      go_wp2_with (go_at_call 33; refine (entry_at fl cu ra cu ga oa k c w.heap.size (by omega) e2 _ HK.out).mono ?_; rintro e w' ⟨rfl, rfl⟩)
      go_region_held3 (fun w' => Below wr.heap.size wr w' ∧ w'.cell? ⟨w.heap.size, 0, none⟩ = some (.int .i64 fl) ∧ w'.cell? ⟨w.heap.size, 2, none⟩ = some (.int .i64 ra) ∧ w'.cell? ⟨ga, oa + cu.toNat * 4, none⟩ = some (.bool true) ∧ w'.cell? ⟨ga, oa + cu.toNat * 4 + 1, none⟩ = some (.int .i64 (v cu.toNat)) ∧ w'.cell? ⟨ga, oa + cu.toNat * 4 + 2, none⟩ = some (.int .i64 (x cu.toNat))) (first | exact HKS.out _ (Below.refl _ _).drew | exact HKT.out _ _ (by assumption) hb1) (first | (go_at_call 29; refine (inRange_any _ _ _ _).mono ?_; rintro e w' ⟨rfl, rfl⟩) | (go_at_call 34; refine (iVirtualStep_any _ _ _ _ (Below.refl _ _)).mono ?_; rintro e w1 ⟨rfl, hb1⟩))
      all_goals
        go_wp2
        go_ret
        exact ⟨ret_boolQ (by rw [HWR.out]; exact HN.out.symm), bel HW.drew hb1⟩
end Go.Proofs.Ytjdlfldeoinbiaa

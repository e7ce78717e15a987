/- Queues: l4Entry and QueueOk of spec. -/
import Derived.Test.YtjdlfldeoinbiaaQ4Base
namespace Go.Proofs.Ytjdlfldeoinbiaa
open Go.RowKit
set_option maxHeartbeats 400000 in
theorem l4Entry_any (b : Bool) (v x s fl : Int) (h3 : 0 ≤ fl) (h4 : fl ≤ 100000000000000000) (w W : World) (hb : Below W.heap.size W w) :
    Calls Try.prog 26 #[.agg #[.bool b, .int .i64 v, .int .i64 x, .int .i64 s], .int .i64 fl] w fun e w' => e = .returned (.bool (entB fl b v x s)) ∧ Below W.heap.size W w' := by
  have hz := hb.size
  have hbx : ∀ o, Below W.heap.size W (w.alloc o) := fun o => hb.alloc hz o
  cases r1 : inR x 1 20
  · rw [entB_f1 r1]
    go_enter Try.func26, Try.ntmps26
    go_wp2_with (first | (go_at_call 42; refine (l1Weight_any _ _).mono ?_; rintro e w' ⟨rfl, rfl⟩) | (go_at_call 25; refine (l4Time_any _ _).mono ?_; rintro e w' ⟨rfl, rfl⟩))
    go_ret
    exact ⟨rfl, hbx _⟩
  cases r2 : timeB v
  · rw [entB_f2 (by simp [time2, r2])]
    go_enter Try.func26, Try.ntmps26
    go_wp2_with (first | (go_at_call 42; refine (l1Weight_any _ _).mono ?_; rintro e w' ⟨rfl, rfl⟩) | (go_at_call 25; refine (l4Time_any _ _).mono ?_; rintro e w' ⟨rfl, rfl⟩))
    go_ret
    exact ⟨rfl, hbx _⟩
  cases r3 : timeB s
  · rw [entB_f2 (by simp [time2, r3])]
    go_enter Try.func26, Try.ntmps26
    go_wp2_with (first | (go_at_call 42; refine (l1Weight_any _ _).mono ?_; rintro e w' ⟨rfl, rfl⟩) | (go_at_call 25; refine (l4Time_any _ _).mono ?_; rintro e w' ⟨rfl, rfl⟩))
    go_ret
    exact ⟨rfl, hbx _⟩
  have r4 : time2 v s = true := by simp [time2, r2, r3]
  obtain ⟨b1, b2, b3, b4⟩ := time2_t r4
  cases b
  · rw [entB_t1 r1 r4 rfl]
    go_enter Try.func26, Try.ntmps26
    go_wp2_with (first | (go_at_call 42; refine (l1Weight_any _ _).mono ?_; rintro e w' ⟨rfl, rfl⟩) | (go_at_call 25; refine (l4Time_any _ _).mono ?_; rintro e w' ⟨rfl, rfl⟩))
    go_quiet ((go_at_call 43; exact quietA (sLagMost_any _ _)))
    go_wp2
    go_ret
    exact ⟨rfl, below_drewN (hbx _) _⟩
  · have HE : Hid (entB fl true v x s = placedB v fl x) := by simp [Hid, entB, r1, r4]
    by_cases r5 : fl ≤ v
    · have HN := Lib.hid (HE.out.trans (placedB_e r5))
      have r5' : decide (fl ≤ v) = true := by simp [r5]
      go_enter Try.func26, Try.ntmps26
      go_wp2_with (first | (go_at_call 42; refine (l1Weight_any _ _).mono ?_; rintro e w' ⟨rfl, rfl⟩) | (go_at_call 25; refine (l4Time_any _ _).mono ?_; rintro e w' ⟨rfl, rfl⟩))
      go_quiet ((go_at_call 43; exact quietQ (sLagMost_any _ _)))
      go_wp2
      go_ret
      exact ⟨ret_boolQ HN.out.symm, below_drewN (hbx _) _⟩
    · have HN := Lib.hid (HE.out.trans (placedB_f1 r5))
      have r5' : decide (fl ≤ v) = false := by simp [r5]
      go_enter Try.func26, Try.ntmps26
      go_wp2_with (first | (go_at_call 42; refine (l1Weight_any _ _).mono ?_; rintro e w' ⟨rfl, rfl⟩) | (go_at_call 25; refine (l4Time_any _ _).mono ?_; rintro e w' ⟨rfl, rfl⟩))
      go_quiet ((go_at_call 43; exact quietQ (sLagMost_any _ _)))
      go_wp2
      go_ret
      exact ⟨ret_boolQ HN.out.symm, below_drewN (hbx _) _⟩
end Go.Proofs.Ytjdlfldeoinbiaa

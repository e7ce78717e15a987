/- Queues: l4Least and QueuePick of spec; the order of the pile; its top. -/
import Derived.Test.YtjdlfldeoinbiaaQ6Base
import Derived.Test.YtjdlfldeoinbiaaQPPlain
namespace Go.Proofs.Ytjdlfldeoinbiaa
open Go.RowKit
set_option maxHeartbeats 1000000 in
theorem l4Least_any (fl cu ra : Int) (A : Option Addr) (n c : Nat) (hn : (n : Int) ≤ 1048576) (on : Nat → Bool) (v x s : Nat → Int) (w W : World) (hb : Below W.heap.size W w)
    (hA : Rs W W.heap.size A n 4 (ent on v x s)) :
    Calls Try.prog 40 #[.agg #[.int .i64 fl, .int .i64 cu, .int .i64 ra, .slice A n c]] w fun e w' => e = .returned (.int .i64 (leastTo on v n)) ∧ Below W.heap.size W w' := by
  have hz := hb.size
  rcases Nat.eq_zero_or_pos n with h0 | h0
  · subst h0
    go_enter Try.func40, Try.ntmps40
    go_wp2
    refine wp_loop_rounds 1 ?_
    rw [rounds_succ]
    go_wp2
    go_ret
    exact ⟨rfl, hb.alloc hz _⟩
  obtain ⟨ga, oa, rfl, hga, hca⟩ := hA.at_ hb h0
  have HC := Lib.hid hca
  clear hca hA
  have kb := Lib.hid (Bk.new w 29 #[.int .i64 fl, .int .i64 cu, .int .i64 ra, .slice (some ⟨ga, oa, none⟩) n c])
  go_enter Try.func40, Try.ntmps40
  go_wp2
  have hB1 : Below w.heap.size w (w.alloc (.cells #[.int .i64 fl, .int .i64 cu, .int .i64 ra, .slice (some ⟨ga, oa, none⟩) n c] 29)) := (Below.refl _ w).alloc (Nat.le_refl _) _
  have hW1 := bel hb hB1
  have hlt1 : w.heap.size < (w.alloc (.cells #[.int .i64 fl, .int .i64 cu, .int .i64 ra, .slice (some ⟨ga, oa, none⟩) n c] 29)).heap.size := by simp
  generalize hw1 : w.alloc (.cells #[.int .i64 fl, .int .i64 cu, .int .i64 ra, .slice (some ⟨ga, oa, none⟩) n c] 29) = w1 at *
  obtain ⟨k0, k1, k2, k3⟩ := kb.out.four
  clear hw1
  go_loopw [3, 4] (fun t i wr => ∃ k : Nat, k ≤ n ∧ i = .int .i64 k ∧ t = .int .i64 (leastTo on v k) ∧ ∃ d, wr = w1.drewN d) (fun _ i _ => n - (intOf i).toNat)
  case atStart => exact ⟨0, Nat.zero_le _, rfl, rfl, 0, rfl⟩
  case round =>
    obtain ⟨k, hk, rfl, rfl, d, rfl⟩ := hrel
    obtain ⟨s1, s2⟩ := leastTo_b on v k
    by_cases hlt : k < n
    · have hr := rangeAt_below (HC.out k hlt) hB1 hga
      have d0 := hr 0 _ rfl
      have d1 := hr 1 _ rfl
      simp only [Nat.add_zero] at d0
      clear hr
      cases r1 : on k
      · have HS := Lib.hid (leastTo_no on v k r1)
        rw [r1] at d0
        go_wp2
        go_quiet (fail)
        go_wp2
        go_roundw
        case rel => exact ⟨k + 1, by omega, by go_num, by rw [HS.out], _, rfl⟩
        case measure => simp [intOf]; omega
      rw [r1] at d0
      by_cases r2 : leastTo on v k < 0
      · have HS := Lib.hid (leastTo_first on v k r1 r2)
        have r2' : decide (leastTo on v k < 0) = true := by simp [r2]
        go_wp2
        go_quiet (fail)
        go_wp2
        go_roundw
        case rel => exact ⟨k + 1, by omega, by go_num, by rw [HS.out], _, rfl⟩
        case measure => simp [intOf]; omega
      have r2' : decide (leastTo on v k < 0) = false := by simp [r2]
      have hr := rangeAt_below (HC.out (leastTo on v k).toNat (by omega)) hB1 hga
      have e1 := hr 1 _ rfl
      clear hr
      by_cases r3 : v k < v (leastTo on v k).toNat
      · have HS := Lib.hid (leastTo_less on v k r1 r3)
        have r3' : decide (v k < v (leastTo on v k).toNat) = true := by simp [r3]
        go_wp2
        go_quiet (fail)
        go_wp2
        go_roundw
        case rel => exact ⟨k + 1, by omega, by go_num, by rw [HS.out], _, rfl⟩
        case measure => simp [intOf]; omega
      · have HS := Lib.hid (leastTo_stay on v k r2 r3)
        have r3' : decide (v k < v (leastTo on v k).toNat) = false := by simp [r3]
        go_wp2
        go_quiet (fail)
        go_wp2
        go_roundw
        case rel => exact ⟨k + 1, by omega, by go_num, by rw [HS.out], _, rfl⟩
        case measure => simp [intOf]; omega
    · obtain rfl : k = n := by omega
      go_wp2
      go_ret
      exact ⟨rfl, below_drewN hW1 _⟩
end Go.Proofs.Ytjdlfldeoinbiaa

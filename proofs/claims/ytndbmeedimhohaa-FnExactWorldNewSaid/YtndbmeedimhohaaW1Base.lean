/- Worlds: processors and tasks: copying, sizes, equality (printed by mkw1.py). -/
import Derived.Test.YtndbmeedimhohaaS1Base
import Derived.Test.YtndbmeedimhohaaZ1Base
import Derived.Test.YtndbmeedimhohaaMem3
import Derived.Deep.RegionWith
namespace Go.Proofs.Ytndbmeedimhohaa
open Go.RowKit

set_option maxHeartbeats 400000 in
theorem eqCpu_t (x0 : Bool) (x1 : Int) (x2 : Int) (x3 : Int) (x4 : Int) (w W : World) (hb : Below W.heap.size W w) :
    Calls Try.prog 23 #[.agg #[.bool (x0), .int .i64 (x1), .int .i64 (x2), .int .i64 (x3), .int .i64 (x4)], .agg #[.bool (x0), .int .i64 (x1), .int .i64 (x2), .int .i64 (x3), .int .i64 (x4)]] w fun e w' => e = .returned (.bool true) ∧ Below W.heap.size W w' := by
  have hz := hb.size
  go_enter Try.func23, Try.ntmps23
  go_wp2
  go_ret
  exact ⟨rfl, by go_grown⟩
set_option maxHeartbeats 1000000 in
theorem eqCpuS_t (A A' : Option Addr) (n c c' : Nat) (hn : n ≤ 1048576) (x0 : Nat → Bool) (x1 : Nat → Int) (x2 : Nat → Int) (x3 : Nat → Int) (x4 : Nat → Int) (w W : World) (hb : Below W.heap.size W w) (hA : Rs W W.heap.size A n 5 (fun i => [.bool (x0 i), .int .i64 (x1 i), .int .i64 (x2 i), .int .i64 (x3 i), .int .i64 (x4 i)])) (hA' : Rs W W.heap.size A' n 5 (fun i => [.bool (x0 i), .int .i64 (x1 i), .int .i64 (x2 i), .int .i64 (x3 i), .int .i64 (x4 i)])) :
    Calls Try.prog 13 #[.slice A n c, .slice A' n c'] w fun e w' => e = .returned (.bool true) ∧ Below w.heap.size w w' := by
  rcases Nat.eq_zero_or_pos n with h0 | h0
  · subst h0
    go_enter Try.func13, Try.ntmps13
    go_wp2
    refine wp_loop_rounds 1 ?_
    rw [rounds_succ]
    go_wp2
    go_ret
    exact ⟨rfl, Below.refl _ _⟩
  · obtain ⟨ga, oa, rfl, hga, hca⟩ := hA.at_ hb h0
    obtain ⟨ga', oa', rfl, hga', hca'⟩ := hA'.at_ hb h0
    have HC := Lib.hid hca
    have HC' := Lib.hid hca'
    clear hca hA hca' hA'
    go_enter Try.func13, Try.ntmps13
    go_wp2
    go_loopw [5] (fun i wr => ∃ k : Nat, k ≤ n ∧ i = .int .i64 k ∧ Below w.heap.size w wr) (fun i _ => n - (intOf i).toNat)
    case atStart => exact ⟨0, Nat.zero_le _, rfl, Below.refl _ _⟩
    case round =>
      obtain ⟨k, hk, rfl, hbr⟩ := hrel
      by_cases hlt : k < n
      · have hr := rangeAt_below (HC.out k hlt) hbr hga
        have hr' := rangeAt_below (HC'.out k hlt) hbr hga'
        have c0 := hr 0 _ rfl
        have c1 := hr 1 _ rfl
        have c2 := hr 2 _ rfl
        have c3 := hr 3 _ rfl
        have c4 := hr 4 _ rfl
        have d0 := hr' 0 _ rfl
        have d1 := hr' 1 _ rfl
        have d2 := hr' 2 _ rfl
        have d3 := hr' 3 _ rfl
        have d4 := hr' 4 _ rfl
        simp only [Nat.add_zero] at c0 d0
        have hBr := Lib.hid hbr
        have hzr := hbr.size
        clear HC HC' hr hr' hbr
        go_wp2
        go_region_with (go_at_call 23; refine (eqCpu_t _ _ _ _ _ _ _ (Below.refl _ _)).mono ?_; rintro e w1 ⟨rfl, hb1⟩)
        all_goals
          go_wp2
          go_roundw
          case rel => exact ⟨k + 1, by omega, by go_num, hBr.out.trans (((Below.refl _ wr).drew.trans hb1).mono hzr)⟩
          case measure => simp [intOf]; omega
      · obtain rfl : k = n := by omega
        go_wp2
        go_ret
        exact ⟨rfl, hbr⟩

set_option maxHeartbeats 400000 in
theorem eqTask_t (x0 : Int) (x1 : Int) (x2 : Int) (x3 : Int) (x4 : Int) (x5 : Int) (x6 : Int) (x7 : Int) (x8 : Int) (w W : World) (hb : Below W.heap.size W w) :
    Calls Try.prog 24 #[.agg #[.int .i64 (x0), .int .i64 (x1), .int .i64 (x2), .int .i64 (x3), .int .i64 (x4), .int .i64 (x5), .int .i64 (x6), .int .i64 (x7), .int .i64 (x8)], .agg #[.int .i64 (x0), .int .i64 (x1), .int .i64 (x2), .int .i64 (x3), .int .i64 (x4), .int .i64 (x5), .int .i64 (x6), .int .i64 (x7), .int .i64 (x8)]] w fun e w' => e = .returned (.bool true) ∧ Below W.heap.size W w' := by
  have hz := hb.size
  go_enter Try.func24, Try.ntmps24
  go_wp2
  go_ret
  exact ⟨rfl, by go_grown⟩
set_option maxHeartbeats 1000000 in
theorem eqTaskS_t (A A' : Option Addr) (n c c' : Nat) (hn : n ≤ 1048576) (x0 : Nat → Int) (x1 : Nat → Int) (x2 : Nat → Int) (x3 : Nat → Int) (x4 : Nat → Int) (x5 : Nat → Int) (x6 : Nat → Int) (x7 : Nat → Int) (x8 : Nat → Int) (w W : World) (hb : Below W.heap.size W w) (hA : Rs W W.heap.size A n 9 (fun i => [.int .i64 (x0 i), .int .i64 (x1 i), .int .i64 (x2 i), .int .i64 (x3 i), .int .i64 (x4 i), .int .i64 (x5 i), .int .i64 (x6 i), .int .i64 (x7 i), .int .i64 (x8 i)])) (hA' : Rs W W.heap.size A' n 9 (fun i => [.int .i64 (x0 i), .int .i64 (x1 i), .int .i64 (x2 i), .int .i64 (x3 i), .int .i64 (x4 i), .int .i64 (x5 i), .int .i64 (x6 i), .int .i64 (x7 i), .int .i64 (x8 i)])) :
    Calls Try.prog 14 #[.slice A n c, .slice A' n c'] w fun e w' => e = .returned (.bool true) ∧ Below w.heap.size w w' := by
  rcases Nat.eq_zero_or_pos n with h0 | h0
  · subst h0
    go_enter Try.func14, Try.ntmps14
    go_wp2
    refine wp_loop_rounds 1 ?_
    rw [rounds_succ]
    go_wp2
    go_ret
    exact ⟨rfl, Below.refl _ _⟩
  · obtain ⟨ga, oa, rfl, hga, hca⟩ := hA.at_ hb h0
    obtain ⟨ga', oa', rfl, hga', hca'⟩ := hA'.at_ hb h0
    have HC := Lib.hid hca
    have HC' := Lib.hid hca'
    clear hca hA hca' hA'
    go_enter Try.func14, Try.ntmps14
    go_wp2
    go_loopw [5] (fun i wr => ∃ k : Nat, k ≤ n ∧ i = .int .i64 k ∧ Below w.heap.size w wr) (fun i _ => n - (intOf i).toNat)
    case atStart => exact ⟨0, Nat.zero_le _, rfl, Below.refl _ _⟩
    case round =>
      obtain ⟨k, hk, rfl, hbr⟩ := hrel
      by_cases hlt : k < n
      · have hr := rangeAt_below (HC.out k hlt) hbr hga
        have hr' := rangeAt_below (HC'.out k hlt) hbr hga'
        have c0 := hr 0 _ rfl
        have c1 := hr 1 _ rfl
        have c2 := hr 2 _ rfl
        have c3 := hr 3 _ rfl
        have c4 := hr 4 _ rfl
        have c5 := hr 5 _ rfl
        have c6 := hr 6 _ rfl
        have c7 := hr 7 _ rfl
        have c8 := hr 8 _ rfl
        have d0 := hr' 0 _ rfl
        have d1 := hr' 1 _ rfl
        have d2 := hr' 2 _ rfl
        have d3 := hr' 3 _ rfl
        have d4 := hr' 4 _ rfl
        have d5 := hr' 5 _ rfl
        have d6 := hr' 6 _ rfl
        have d7 := hr' 7 _ rfl
        have d8 := hr' 8 _ rfl
        simp only [Nat.add_zero] at c0 d0
        have hBr := Lib.hid hbr
        have hzr := hbr.size
        clear HC HC' hr hr' hbr
        go_wp2
        go_region_with (go_at_call 24; refine (eqTask_t _ _ _ _ _ _ _ _ _ _ _ (Below.refl _ _)).mono ?_; rintro e w1 ⟨rfl, hb1⟩)
        all_goals
          go_wp2
          go_roundw
          case rel => exact ⟨k + 1, by omega, by go_num, hBr.out.trans (((Below.refl _ wr).drew.trans hb1).mono hzr)⟩
          case measure => simp [intOf]; omega
      · obtain rfl : k = n := by omega
        go_wp2
        go_ret
        exact ⟨rfl, hbr⟩
end Go.Proofs.Ytndbmeedimhohaa

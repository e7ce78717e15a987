/- Queues: QueueOk of impl and spec. -/
import Derived.Test.YtjdlfldeoinbiaaQ2Base
import Derived.Test.YtjdlfldeoinbiaaS2Base
import Derived.Test.YtjdlfldeoinbiaaQ3Plain
import Derived.Deep.RegionHeld3
namespace Go.Proofs.Ytjdlfldeoinbiaa
open Go.RowKit
theorem ret_boolQ {a b : Bool} (h : a = b) : Ending.returned (.bool a) = .returned (.bool b) := by rw [h]
theorem quietA {P : Program} {f : FuncId} {args : Array Value} {w : World} {a n : Nat} {v : Value} (h : Calls P f args (w.drewN (a + n)) fun e w' => e = .returned v ∧ w.drewN (a + n) = w') : Calls P f args (w.drewN (a + n)) fun e w'' => e = .returned v ∧ ∃ m, w'' = w.drewN (a + m) :=
  h.mono fun _ _ ⟨he, hm⟩ => ⟨he, n, hm.symm⟩
theorem quietQ {P : Program} {f : FuncId} {args : Array Value} {w : World} {n : Nat} {v : Value} (h : Calls P f args (w.drewN n) fun e w' => e = .returned v ∧ w.drewN n = w') : Calls P f args (w.drewN n) fun e w'' => e = .returned v ∧ ∃ m, w'' = w.drewN m :=
  h.mono fun _ _ ⟨he, hm⟩ => ⟨he, n, hm.symm⟩
theorem timeOk_any (A : Option Addr) (n c : Nat) (hn : (n : Int) ≤ 9223372036854775807) (f : Nat → Int) (w : World) (hA : Rw w w.heap.size A n fun i => .int .i64 (f i)) :
    Calls Try.prog 30 #[.slice A n c] w fun e w' => e = .returned (.bool (allTo (fun i => timeB (f i)) n)) ∧ w = w' := by
  rcases Nat.eq_zero_or_pos n with h0 | h0
  · subst h0
    go_enter Try.func30, Try.ntmps30
    go_wp2
    refine wp_loop_rounds 1 ?_
    rw [rounds_succ]
    go_wp2
    go_ret
    exact ⟨rfl, rfl⟩
  · obtain ⟨ga, oa, rfl, hga, hca⟩ := hA h0
    have HC := Lib.hid hca
    clear hca hA
    go_enter Try.func30, Try.ntmps30
    go_wp2
    go_loop [7] (fun i => ∃ k : Nat, k ≤ n ∧ i = .int .i64 k ∧ Hid (allTo (fun i => timeB (f i)) k = true)) (fun i => n - (intOf i).toNat)
    case atStart => exact ⟨0, Nat.zero_le _, rfl, rfl⟩
    case round =>
      obtain ⟨k, hk, rfl, HA⟩ := hrel
      by_cases hlt : k < n
      · have hc := HC.out k hlt
        cases ht : inR (f k) 0 100000000000000000
        · have HN := Lib.hid (allTo_false (fun i => timeB (f i)) k n hlt ht)
          go_wp2_with (go_at_call 29; refine (inRange_any _ _ _ _).mono ?_; rintro e w' ⟨rfl, rfl⟩)
          go_ret
          exact ⟨ret_boolQ HN.out.symm, rfl⟩
        · have HN : Hid (allTo (fun i => timeB (f i)) (k + 1) = true) := allTo_next _ k HA.out ht
          go_wp2_with (go_at_call 29; refine (inRange_any _ _ _ _).mono ?_; rintro e w' ⟨rfl, rfl⟩)
          go_round
          case rel => exact ⟨k + 1, by omega, by go_num, HN⟩
          case measure => simp [intOf]; omega
      · obtain rfl : k = n := by omega
        go_wp2
        go_ret
        exact ⟨ret_boolQ HA.out.symm, rfl⟩
theorem rwOne (w : World) (t : TypeId) (a : Value) : Rw (w.alloc (.cells #[a] t)) (w.alloc (.cells #[a] t)).heap.size (some ⟨w.heap.size, 0, none⟩) 1 (fun _ => a) := fun _ =>
  ⟨w.heap.size, 0, rfl, by simp, fun i hi => by
    obtain rfl : i = 0 := by omega
    exact (Bk.new w t #[a]).cell 0⟩
theorem rwTwo (w : World) (t : TypeId) (a b : Int) : Rw (w.alloc (.cells #[.int .i64 a, .int .i64 b] t)) (w.alloc (.cells #[.int .i64 a, .int .i64 b] t)).heap.size (some ⟨w.heap.size, 0, none⟩) 2 (fun i => .int .i64 (if i = 0 then a else b)) := fun _ =>
  ⟨w.heap.size, 0, rfl, by simp, fun i hi => by
    have h := (Bk.new w t #[.int .i64 a, .int .i64 b]).cell i
    rw [Nat.zero_add]
    rcases (by omega : i = 0 ∨ i = 1) with e | e <;> subst e <;> exact h⟩
theorem timeOk_one (w : World) (t : TypeId) (a : Int) (c g : Nat) (hg : w.heap.size = g) :
    Calls Try.prog 30 #[.slice (some ⟨g, 0, none⟩) 1 c] (w.alloc (.cells #[.int .i64 a] t)) fun e w' => e = .returned (.bool (timeB a)) ∧ w.alloc (.cells #[.int .i64 a] t) = w' := by
  subst hg
  exact (timeOk_any _ 1 c (by omega) (fun _ => a) _ (rwOne w t _)).mono fun _ _ ⟨h1, h2⟩ => ⟨h1.trans (ret_boolQ (by simp [allTo])), h2⟩
theorem timeOk_two (w : World) (t : TypeId) (a b : Int) (c g : Nat) (hg : w.heap.size = g) :
    Calls Try.prog 30 #[.slice (some ⟨g, 0, none⟩) 2 c] (w.alloc (.cells #[.int .i64 a, .int .i64 b] t)) fun e w' => e = .returned (.bool (time2 a b)) ∧ w.alloc (.cells #[.int .i64 a, .int .i64 b] t) = w' := by
  subst hg
  exact (timeOk_any _ 2 c (by omega) (fun i => if i = 0 then a else b) _ (rwTwo w t _ _)).mono fun _ _ ⟨h1, h2⟩ => ⟨h1.trans (ret_boolQ (by simp [allTo, time2])), h2⟩
theorem placed_any (v fl x : Int) (h1 : 0 ≤ v) (h2 : v ≤ 100000000000000000) (h3 : 0 ≤ fl) (h4 : fl ≤ 100000000000000000) (w W : World) (hb : Below W.heap.size W w) :
    Calls Try.prog 32 #[.int .i64 v, .int .i64 fl, .int .i64 x] w fun e w' => e = .returned (.bool (placedB v fl x)) ∧ Below W.heap.size W w' := by
  by_cases h : fl ≤ v
  · rw [placedB_e h]
    go_enter Try.func32, Try.ntmps32
    go_wp2_with (go_at_call 45; refine (iLagMost_any _ _ W hb).mono ?_; rintro e w1 ⟨rfl, hb1⟩)
    go_ret
    exact ⟨rfl, hb1⟩
  · rw [placedB_f1 h]
    go_enter Try.func32, Try.ntmps32
    go_wp2
    go_ret
    exact ⟨rfl, hb⟩
theorem l4Time_any (a : Int) (w : World) :
    Calls Try.prog 25 #[.int .i64 a] w fun e w' => e = .returned (.bool (timeB a)) ∧ w = w' := by
  go_enter Try.func25, Try.ntmps25
  go_wp2_with (go_at_call 24; refine (l1In_any _ _ _ _).mono ?_; rintro e w' ⟨rfl, rfl⟩)
  go_ret
  exact ⟨rfl, rfl⟩
theorem entry_no (fl cu ra at_ : Int) (A : Option Addr) (n c g : Nat) (hn : (n : Int) ≤ 1048576) (h : inR at_ 0 ((n : Int) - 1) = false) (w : World) (hk : Bk w g 29 #[.int .i64 fl, .int .i64 cu, .int .i64 ra, .slice A n c]) :
    Calls Try.prog 33 #[.pointer (some ⟨g, 0, none⟩), .int .i64 at_] w fun e w' => e = .returned (.pointer none) ∧ w = w' := by
  obtain ⟨_, _, _, c3⟩ := hk.four
  go_enter Try.func33, Try.ntmps33
  go_wp2_with (go_at_call 29; refine (inRange_any _ _ _ _).mono ?_; rintro e w' ⟨rfl, rfl⟩)
  go_ret
  exact ⟨rfl, rfl⟩
theorem entry_at (fl cu ra at_ : Int) (b o n c g : Nat) (hn : (n : Int) ≤ 1048576) (h : inR at_ 0 ((n : Int) - 1) = true) (w : World) (hk : Bk w g 29 #[.int .i64 fl, .int .i64 cu, .int .i64 ra, .slice (some ⟨b, o, none⟩) n c]) :
    Calls Try.prog 33 #[.pointer (some ⟨g, 0, none⟩), .int .i64 at_] w fun e w' => e = .returned (.pointer (some ⟨b, o + at_.toNat * 4, none⟩)) ∧ w = w' := by
  obtain ⟨_, _, _, c3⟩ := hk.four
  obtain ⟨g1, g2⟩ := inR_iff.1 h
  go_enter Try.func33, Try.ntmps33
  go_wp2_with (go_at_call 29; refine (inRange_any _ _ _ _).mono ?_; rintro e w' ⟨rfl, rfl⟩)
  go_ret
  exact ⟨rfl, rfl⟩
end Go.Proofs.Ytjdlfldeoinbiaa

/- Queues: copying, sizes, equality of entries. -/
import Derived.Test.YtjdlfldeoinbiaaS1Base
import Derived.Test.YtjdlfldeoinbiaaZ1Base
import Derived.Test.YtjdlfldeoinbiaaMem3
import Derived.Deep.RegionWith
namespace Go.Proofs.Ytjdlfldeoinbiaa
open Go.RowKit

set_option maxHeartbeats 400000 in
theorem toEntry_any (x0 : Bool) (x1 : Int) (x2 : Int) (x3 : Int) (w W : World) (hb : Below W.heap.size W w) :
    Calls Try.prog 44 #[.agg #[.bool (x0), .int .i64 (x1), .int .i64 (x2), .int .i64 (x3)]] w fun e w' => e = .returned (.agg #[.bool (x0), .int .i64 (x1), .int .i64 (x2), .int .i64 (x3)]) ∧ Below W.heap.size W w' := by
  have hz := hb.size
  go_enter Try.func44, Try.ntmps44
  go_wp2
  go_returns
  exact ⟨rfl, by go_grown⟩
set_option maxHeartbeats 400000 in
theorem eqEntry_t (x0 : Bool) (x1 : Int) (x2 : Int) (x3 : Int) (w W : World) (hb : Below W.heap.size W w) :
    Calls Try.prog 47 #[.agg #[.bool (x0), .int .i64 (x1), .int .i64 (x2), .int .i64 (x3)], .agg #[.bool (x0), .int .i64 (x1), .int .i64 (x2), .int .i64 (x3)]] w fun e w' => e = .returned (.bool true) ∧ Below W.heap.size W w' := by
  have hz := hb.size
  go_enter Try.func47, Try.ntmps47
  go_wp2
  go_ret
  exact ⟨rfl, by go_grown⟩
theorem szEntryS_any (A : Option Addr) (n c : Nat) (l : Int) (h0 : 0 ≤ l) (hl : l ≤ 1048576) (hn : (n : Int) ≤ 9223372036854775807) (w : World) :
    Calls Try.prog 23 #[.slice A n c, .int .i64 l] w fun e w' => e = .returned (.int .i64 (szN l n)) ∧ w = w' := by
  by_cases h : l - n < 0
  · rw [szN_neg l n h]
    go_enter Try.func23, Try.ntmps23
    go_wp2
    go_ret
    exact ⟨rfl, rfl⟩
  · rw [szN_pos l n h]
    go_enter Try.func23, Try.ntmps23
    go_wp2
    go_ret
    exact ⟨rfl, rfl⟩
theorem oneEntry (x0 : Bool) (x1 : Int) (x2 : Int) (x3 : Int) : (#[.bool (x0), .int .i64 (x1), .int .i64 (x2), .int .i64 (x3)] : Array Value).all (·.oneCell') = true := by kernel_rfl
theorem sizeEntry : (Try.prog.info? 49).map (·.size) = some 4 := by kernel_rfl
theorem make_Entry (n : Nat) (hn : n ≤ 1048576) (w : World) : ∃ cs : Array Value, cs.size = n * 4 ∧ (Instr.makeSlice 27 (.int .i64 (n : Int)) (.int .i64 (n : Int))).run Try.prog w = .ok (.slice (some ⟨w.heap.size, 0, none⟩) n n) (w.alloc (.cells cs 49)) := by
  have hinfo : (Try.prog.info? 49).map (fun i => (i.zero, i.size, i.bytes)) = some (some (.agg #[.bool false, .int .i64 0, .int .i64 0, .int .i64 0]), 4, 32) := by kernel_rfl
  obtain ⟨i0, hi, hz0, hz1, hz2⟩ := info_parts hinfo
  have := run_make (P := Try.prog) w 27 49 i0 _ Try.underlying27 hi hz0 .i64 .i64 n n (by omega) (by omega) (by
    rw [hz2]
    omega) (by omega)
  rw [hz1] at this
  exact ⟨madeCells #[.bool false, .int .i64 0, .int .i64 0, .int .i64 0] (n * 4), size_madeCells _ _, by simpa [Value.cells] using this⟩
set_option maxHeartbeats 1000000 in
theorem toEntryS_any (A : Option Addr) (n c : Nat) (hn : n ≤ 1048576) (x0 : Nat → Bool) (x1 : Nat → Int) (x2 : Nat → Int) (x3 : Nat → Int) (w W : World) (hb : Below W.heap.size W w) (hA : Rs W W.heap.size A n 4 (fun i => [.bool (x0 i), .int .i64 (x1 i), .int .i64 (x2 i), .int .i64 (x3 i)])) :
    Calls Try.prog 28 #[.slice A n c] w fun e w' => e = .returned (.slice (some ⟨w.heap.size, 0, none⟩) n n) ∧ OwnS w' w.heap.size n 4 (fun i => [.bool (x0 i), .int .i64 (x1 i), .int .i64 (x2 i), .int .i64 (x3 i)]) ∧ Below w.heap.size w w' := by
  have hz := hb.size
  have hA' := hA.at_ hb
  obtain ⟨mk, hms, hmk⟩ := make_Entry n hn w
  rcases Nat.eq_zero_or_pos n with h0 | h0
  · subst h0
    have hmk0 : (Instr.makeSlice 27 (.int .i64 0) (.int .i64 0)).run Try.prog w = .ok (.slice (some ⟨w.heap.size, 0, none⟩) 0 0) (w.alloc (.cells mk 49)) := hmk
    clear hmk hA hA'
    have HM := Lib.hid hms
    clear hms
    go_enter Try.func28, Try.ntmps28
    go_wp2
    refine wp_loop_rounds 1 ?_
    rw [rounds_succ]
    go_wp2
    go_ret
    exact ⟨rfl, (Fill.new _ HM.out).done, (Below.refl _ _).alloc (Nat.le_refl _) _⟩
  · obtain ⟨ga, oa, rfl, hga, hca⟩ := hA' h0
    have HC := Lib.hid hca
    have HM := Lib.hid hms
    clear hca hA hA' hms
    go_enter Try.func28, Try.ntmps28
    go_wp2
    go_loopw [4] (fun i wr => ∃ k : Nat, k ≤ n ∧ i = .int .i64 k ∧ Hid (Fill wr w.heap.size n 4 k (fun i => [.bool (x0 i), .int .i64 (x1 i), .int .i64 (x2 i), .int .i64 (x3 i)])) ∧ Below w.heap.size w wr) (fun i _ => n - (intOf i).toNat)
    case atStart => exact ⟨0, Nat.zero_le _, rfl, Fill.new _ HM.out, (Below.refl _ _).alloc (Nat.le_refl _) _⟩
    case round =>
      obtain ⟨k, hk, rfl, HB, hbr⟩ := hrel
      by_cases hlt : k < n
      · have hr := Lib.hid (rangeAt_below (HC.out k hlt) hbr hga)
        go_wp2_with (refine wpList_load_mid rfl 59 _ rfl ga (oa + k * 4) rfl _ _ hr.out Try.underlying59 rfl (by kernel_rfl) ?_)
        refine (toEntry_any _ _ _ _ _ _ (Below.refl _ _)).mono ?_
        rintro e w1 ⟨rfl, hb1⟩
        have HF := HB.out.below hb1 HB.out.1
        have hth : w1.there w.heap.size (k * 4) (#[.bool (x0 k), .int .i64 (x1 k), .int .i64 (x2 k), .int .i64 (x3 k)] : Array Value).size := HF.there_at hlt
        have HN := Lib.hid (HF.step hlt (fun i => rfl))
        have hB1 := hbr.trans (hb1.mono hbr.size)
        clear HB hb1 HM HC hr
        have HT := Lib.hid hth
        have HONE := Lib.hid (oneEntry (x0 k) (x1 k) (x2 k) (x3 k))
        clear HF hth
        have hgoal : ∀ (ops : Array Oper) (Q : Exit → Act → World → Prop) (rest : List Oper) (op : Oper) (a : Act) (hgd : op.guard = none) (ho : op.op = .store 49 (.tmp 21) (.tmp 20)) (hx : a.eval (.tmp 21) = .pointer (some ⟨w.heap.size, k * 4, none⟩)) (hy : a.eval (.tmp 20) = .agg #[.bool (x0 k), .int .i64 (x1 k), .int .i64 (x2 k), .int .i64 (x3 k)]) (h : wpList Try.prog ops Q rest (a.put op.dst undef) (w1.setCells w.heap.size (k * 4) [.bool (x0 k), .int .i64 (x1 k), .int .i64 (x2 k), .int .i64 (x3 k)])), wpList Try.prog ops Q (op :: rest) a w1 :=
          fun ops Q rest op a hgd ho hx hy h => wpList_store_mid hgd _ _ _ ho w.heap.size (k * 4) #[.bool (x0 k), .int .i64 (x1 k), .int .i64 (x2 k), .int .i64 (x3 k)] hx hy HT.out sizeEntry HONE.out h
        have HG := Lib.hid hgoal
        clear hgoal HT HONE
        go_wp2_with (refine HG.out _ _ _ _ _ rfl rfl rfl rfl ?_)
        go_roundw
        case rel => exact ⟨k + 1, by omega, by go_num, HN, below_setCells _ (Nat.le_refl _) _ _ _ hB1⟩
        case measure => simp [intOf]; omega
      · obtain rfl : k = n := by omega
        go_wp2
        go_ret
        exact ⟨rfl, HB.out, hbr⟩
set_option maxHeartbeats 1000000 in
theorem eqEntryS_t (A A' : Option Addr) (n c c' : Nat) (hn : n ≤ 1048576) (x0 : Nat → Bool) (x1 : Nat → Int) (x2 : Nat → Int) (x3 : Nat → Int) (w W : World) (hb : Below W.heap.size W w) (hA : Rs W W.heap.size A n 4 (fun i => [.bool (x0 i), .int .i64 (x1 i), .int .i64 (x2 i), .int .i64 (x3 i)])) (hA' : Rs W W.heap.size A' n 4 (fun i => [.bool (x0 i), .int .i64 (x1 i), .int .i64 (x2 i), .int .i64 (x3 i)])) :
    Calls Try.prog 35 #[.slice A n c, .slice A' n c'] w fun e w' => e = .returned (.bool true) ∧ Below w.heap.size w w' := by
  rcases Nat.eq_zero_or_pos n with h0 | h0
  · subst h0
    go_enter Try.func35, Try.ntmps35
    go_wp2
    refine wp_loop_rounds 1 ?_
    rw [rounds_succ]
    go_wp2
    go_ret
    exact ⟨rfl, Below.refl _ _⟩
  · obtain ⟨ga, oa, rfl, hga, hca⟩ := hA.at_ hb h0
    obtain ⟨ga', oa', rfl, hga', hca'⟩ := hA'.at_ hb h0
    have HC := Lib.hid hca
    have HC' := Lib.hid hca'
    clear hca hA hca' hA'
    go_enter Try.func35, Try.ntmps35
    go_wp2
    go_loopw [5] (fun i wr => ∃ k : Nat, k ≤ n ∧ i = .int .i64 k ∧ Below w.heap.size w wr) (fun i _ => n - (intOf i).toNat)
    case atStart => exact ⟨0, Nat.zero_le _, rfl, Below.refl _ _⟩
    case round =>
      obtain ⟨k, hk, rfl, hbr⟩ := hrel
      by_cases hlt : k < n
      · have hr := rangeAt_below (HC.out k hlt) hbr hga
        have hr' := rangeAt_below (HC'.out k hlt) hbr hga'
        have c0 := hr 0 _ rfl
        have c1 := hr 1 _ rfl
        have c2 := hr 2 _ rfl
        have c3 := hr 3 _ rfl
        have d0 := hr' 0 _ rfl
        have d1 := hr' 1 _ rfl
        have d2 := hr' 2 _ rfl
        have d3 := hr' 3 _ rfl
        simp only [Nat.add_zero] at c0 d0
        have hBr := Lib.hid hbr
        have hzr := hbr.size
        clear HC HC' hr hr' hbr
        go_wp2
        go_region_with (go_at_call 47; refine (eqEntry_t _ _ _ _ _ _ (Below.refl _ _)).mono ?_; rintro e w1 ⟨rfl, hb1⟩)
        all_goals
          go_wp2
          go_roundw
          case rel => exact ⟨k + 1, by omega, by go_num, hBr.out.trans (((Below.refl _ wr).drew.trans hb1).mono hzr)⟩
          case measure => simp [intOf]; omega
      · obtain rfl : k = n := by omega
        go_wp2
        go_ret
        exact ⟨rfl, hbr⟩
end Go.Proofs.Ytjdlfldeoinbiaa

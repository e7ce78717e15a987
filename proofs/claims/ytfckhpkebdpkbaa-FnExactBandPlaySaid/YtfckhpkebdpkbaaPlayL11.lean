/-
  Operations on bands: copying, sizes, equality.
-/
import Derived.Test.YtfckhpkebdpkbaaPlayL4
import Derived.Test.YtfckhpkebdpkbaaPlayL3
import Derived.Deep.RegionWith
namespace Go.Proofs.Ytfckhpkebdpkbaa
open Go.RowKit

set_option maxHeartbeats 400000 in
theorem toBandOp_any (x0 : Int) (x1 : Int) (x2 : Int) (w W : World) (hb : Below W.heap.size W w) :
    Calls Try.prog 25 #[.agg #[.int .i64 (x0), .int .i64 (x1), .int .i64 (x2)]] w fun e w' => e = .returned (.agg #[.int .i64 (x0), .int .i64 (x1), .int .i64 (x2)]) ∧ Below W.heap.size W w' := by
  have hz := hb.size
  go_enter Try.func25, Try.ntmps25
  go_wp2
  go_returns
  exact ⟨rfl, by go_grown⟩
set_option maxHeartbeats 400000 in
theorem eqBandOp_t (x0 : Int) (x1 : Int) (x2 : Int) (w W : World) (hb : Below W.heap.size W w) :
    Calls Try.prog 34 #[.agg #[.int .i64 (x0), .int .i64 (x1), .int .i64 (x2)], .agg #[.int .i64 (x0), .int .i64 (x1), .int .i64 (x2)]] w fun e w' => e = .returned (.bool true) ∧ Below W.heap.size W w' := by
  have hz := hb.size
  go_enter Try.func34, Try.ntmps34
  go_wp2
  go_ret
  exact ⟨rfl, by go_grown⟩
theorem szBandOpS_any (A : Option Addr) (n c : Nat) (l : Int) (h0 : 0 ≤ l) (hl : l ≤ 1048576) (hn : (n : Int) ≤ 9223372036854775807) (w : World) :
    Calls Try.prog 5 #[.slice A n c, .int .i64 l] w fun e w' => e = .returned (.int .i64 (szN l n)) ∧ w = w' := by
  by_cases h : l - n < 0
  · rw [szN_neg l n h]
    go_enter Try.func5, Try.ntmps5
    go_wp2
    go_ret
    exact ⟨rfl, rfl⟩
  · rw [szN_pos l n h]
    go_enter Try.func5, Try.ntmps5
    go_wp2
    go_ret
    exact ⟨rfl, rfl⟩
theorem oneBandOp (x0 : Int) (x1 : Int) (x2 : Int) : (#[.int .i64 (x0), .int .i64 (x1), .int .i64 (x2)] : Array Value).all (·.oneCell') = true := by kernel_rfl
theorem sizeBandOp : (Try.prog.info? 48).map (·.size) = some 3 := by kernel_rfl
theorem make_BandOp (n : Nat) (hn : n ≤ 1048576) (w : World) : ∃ cs : Array Value, cs.size = n * 3 ∧ (Instr.makeSlice 33 (.int .i64 (n : Int)) (.int .i64 (n : Int))).run Try.prog w = .ok (.slice (some ⟨w.heap.size, 0, none⟩) n n) (w.alloc (.cells cs 48)) := by
  have hinfo : (Try.prog.info? 48).map (fun i => (i.zero, i.size, i.bytes)) = some (some (.agg #[.int .i64 0, .int .i64 0, .int .i64 0]), 3, 24) := by kernel_rfl
  obtain ⟨i0, hi, hz0, hz1, hz2⟩ := info_parts hinfo
  have := run_make (P := Try.prog) w 33 48 i0 _ Try.underlying33 hi hz0 .i64 .i64 n n (by omega) (by omega) (by
    rw [hz2]
    omega) (by omega)
  rw [hz1] at this
  exact ⟨madeCells #[.int .i64 0, .int .i64 0, .int .i64 0] (n * 3), size_madeCells _ _, by simpa [Value.cells] using this⟩
set_option maxHeartbeats 1000000 in
theorem toBandOpS_any (A : Option Addr) (n c : Nat) (hn : n ≤ 1048576) (x0 : Nat → Int) (x1 : Nat → Int) (x2 : Nat → Int) (w W : World) (hb : Below W.heap.size W w) (hA : Rs W W.heap.size A n 3 (fun i => [.int .i64 (x0 i), .int .i64 (x1 i), .int .i64 (x2 i)])) :
    Calls Try.prog 8 #[.slice A n c] w fun e w' => e = .returned (.slice (some ⟨w.heap.size, 0, none⟩) n n) ∧ OwnS w' w.heap.size n 3 (fun i => [.int .i64 (x0 i), .int .i64 (x1 i), .int .i64 (x2 i)]) ∧ Below w.heap.size w w' := by
  have hz := hb.size
  have hA' := hA.at_ hb
  obtain ⟨mk, hms, hmk⟩ := make_BandOp n hn w
  rcases Nat.eq_zero_or_pos n with h0 | h0
  · subst h0
    have hmk0 : (Instr.makeSlice 33 (.int .i64 0) (.int .i64 0)).run Try.prog w = .ok (.slice (some ⟨w.heap.size, 0, none⟩) 0 0) (w.alloc (.cells mk 48)) := hmk
    clear hmk hA hA'
    have HM := Lib.hid hms
    clear hms
    go_enter Try.func8, Try.ntmps8
    go_wp2
    refine wp_loop_rounds 1 ?_
    rw [rounds_succ]
    go_wp2
    go_ret
    exact ⟨rfl, (Fill.new _ HM.out).done, (Below.refl _ _).alloc (Nat.le_refl _) _⟩
  · obtain ⟨ga, oa, rfl, hga, hca⟩ := hA' h0
    have HC := Lib.hid hca
    have HM := Lib.hid hms
    clear hca hA hA' hms
    go_enter Try.func8, Try.ntmps8
    go_wp2
    go_loopw [4] (fun i wr => ∃ k : Nat, k ≤ n ∧ i = .int .i64 k ∧ Hid (Fill wr w.heap.size n 3 k (fun i => [.int .i64 (x0 i), .int .i64 (x1 i), .int .i64 (x2 i)])) ∧ Below w.heap.size w wr) (fun i _ => n - (intOf i).toNat)
    case atStart => exact ⟨0, Nat.zero_le _, rfl, Fill.new _ HM.out, (Below.refl _ _).alloc (Nat.le_refl _) _⟩
    case round =>
      obtain ⟨k, hk, rfl, HB, hbr⟩ := hrel
      by_cases hlt : k < n
      · have hr := Lib.hid (rangeAt_below (HC.out k hlt) hbr hga)
        go_wp2_with (refine wpList_load_mid rfl 52 _ rfl ga (oa + k * 3) rfl _ _ hr.out Try.underlying52 rfl (by kernel_rfl) ?_)
        refine (toBandOp_any _ _ _ _ _ (Below.refl _ _)).mono ?_
        rintro e w1 ⟨rfl, hb1⟩
        have HF := HB.out.below hb1 HB.out.1
        have hth : w1.there w.heap.size (k * 3) (#[.int .i64 (x0 k), .int .i64 (x1 k), .int .i64 (x2 k)] : Array Value).size := HF.there_at hlt
        have HN := Lib.hid (HF.step hlt (fun i => rfl))
        have hB1 := hbr.trans (hb1.mono hbr.size)
        clear HB hb1 HM HC hr
        have HT := Lib.hid hth
        have HONE := Lib.hid (oneBandOp (x0 k) (x1 k) (x2 k))
        clear HF hth
        have hgoal : ∀ (ops : Array Oper) (Q : Exit → Act → World → Prop) (rest : List Oper) (op : Oper) (a : Act) (hgd : op.guard = none) (ho : op.op = .store 48 (.tmp 21) (.tmp 20)) (hx : a.eval (.tmp 21) = .pointer (some ⟨w.heap.size, k * 3, none⟩)) (hy : a.eval (.tmp 20) = .agg #[.int .i64 (x0 k), .int .i64 (x1 k), .int .i64 (x2 k)]) (h : wpList Try.prog ops Q rest (a.put op.dst undef) (w1.setCells w.heap.size (k * 3) [.int .i64 (x0 k), .int .i64 (x1 k), .int .i64 (x2 k)])), wpList Try.prog ops Q (op :: rest) a w1 :=
          fun ops Q rest op a hgd ho hx hy h => wpList_store_mid hgd _ _ _ ho w.heap.size (k * 3) #[.int .i64 (x0 k), .int .i64 (x1 k), .int .i64 (x2 k)] hx hy HT.out sizeBandOp HONE.out h
        have HG := Lib.hid hgoal
        clear hgoal HT HONE
        go_wp2_with (refine HG.out _ _ _ _ _ rfl rfl rfl rfl ?_)
        go_roundw
        case rel => exact ⟨k + 1, by omega, by go_num, HN, below_setCells _ (Nat.le_refl _) _ _ _ hB1⟩
        case measure => simp [intOf]; omega
      · obtain rfl : k = n := by omega
        go_wp2
        go_ret
        exact ⟨rfl, HB.out, hbr⟩
set_option maxHeartbeats 1000000 in
theorem eqBandOpS_t (A A' : Option Addr) (n c c' : Nat) (hn : n ≤ 1048576) (x0 : Nat → Int) (x1 : Nat → Int) (x2 : Nat → Int) (w W : World) (hb : Below W.heap.size W w) (hA : Rs W W.heap.size A n 3 (fun i => [.int .i64 (x0 i), .int .i64 (x1 i), .int .i64 (x2 i)])) (hA' : Rs W W.heap.size A' n 3 (fun i => [.int .i64 (x0 i), .int .i64 (x1 i), .int .i64 (x2 i)])) :
    Calls Try.prog 12 #[.slice A n c, .slice A' n c'] w fun e w' => e = .returned (.bool true) ∧ Below w.heap.size w w' := by
  rcases Nat.eq_zero_or_pos n with h0 | h0
  · subst h0
    go_enter Try.func12, Try.ntmps12
    go_wp2
    refine wp_loop_rounds 1 ?_
    rw [rounds_succ]
    go_wp2
    go_ret
    exact ⟨rfl, Below.refl _ _⟩
  · obtain ⟨ga, oa, rfl, hga, hca⟩ := hA.at_ hb h0
    obtain ⟨ga', oa', rfl, hga', hca'⟩ := hA'.at_ hb h0
    have HC := Lib.hid hca
    have HC' := Lib.hid hca'
    clear hca hA hca' hA'
    go_enter Try.func12, Try.ntmps12
    go_wp2
    go_loopw [5] (fun i wr => ∃ k : Nat, k ≤ n ∧ i = .int .i64 k ∧ Below w.heap.size w wr) (fun i _ => n - (intOf i).toNat)
    case atStart => exact ⟨0, Nat.zero_le _, rfl, Below.refl _ _⟩
    case round =>
      obtain ⟨k, hk, rfl, hbr⟩ := hrel
      by_cases hlt : k < n
      · have hr := rangeAt_below (HC.out k hlt) hbr hga
        have hr' := rangeAt_below (HC'.out k hlt) hbr hga'
        have c0 := hr 0 _ rfl
        have c1 := hr 1 _ rfl
        have c2 := hr 2 _ rfl
        have d0 := hr' 0 _ rfl
        have d1 := hr' 1 _ rfl
        have d2 := hr' 2 _ rfl
        simp only [Nat.add_zero] at c0 d0
        have hBr := Lib.hid hbr
        have hzr := hbr.size
        clear HC HC' hr hr' hbr
        go_wp2
        go_region_with (go_at_call 34; refine (eqBandOp_t _ _ _ _ _ (Below.refl _ _)).mono ?_; rintro e w1 ⟨rfl, hb1⟩)
        all_goals
          go_wp2
          go_roundw
          case rel => exact ⟨k + 1, by omega, by go_num, hBr.out.trans (((Below.refl _ wr).drew.trans hb1).mono hzr)⟩
          case measure => simp [intOf]; omega
      · obtain rfl : k = n := by omega
        go_wp2
        go_ret
        exact ⟨rfl, hbr⟩

end Go.Proofs.Ytfckhpkebdpkbaa

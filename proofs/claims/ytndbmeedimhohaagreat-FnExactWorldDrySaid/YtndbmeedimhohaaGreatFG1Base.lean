/- Trees: shelves: copying, sizes, equality. -/
import Derived.Test.YtndbmeedimhohaaGreatFCA
import Derived.Deep.RegionWith
namespace Go.Proofs.YtndbmeedimhohaaGreat
open Go.RowKit

set_option maxHeartbeats 400000 in
theorem toShelf_any (x0 : Int) (x1 : Bool) (x2 : Int) (x3 : Int) (x4 : Int) (w W : World) (hb : Below W.heap.size W w) :
    Calls Tryz.prog 120 #[.agg #[.int .i64 (x0), .bool (x1), .int .i64 (x2), .int .i64 (x3), .int .i64 (x4)]] w fun e w' => e = .returned (.agg #[.int .i64 (x0), .bool (x1), .int .i64 (x2), .int .i64 (x3), .int .i64 (x4)]) ∧ Below W.heap.size W w' := by
  have hz := hb.size
  go_enter Tryz.func120, Tryz.ntmps120
  go_wp2
  go_returns
  exact ⟨rfl, by go_grown⟩
set_option maxHeartbeats 400000 in
theorem eqShelf_t (x0 : Int) (x1 : Bool) (x2 : Int) (x3 : Int) (x4 : Int) (w W : World) (hb : Below W.heap.size W w) :
    Calls Tryz.prog 123 #[.agg #[.int .i64 (x0), .bool (x1), .int .i64 (x2), .int .i64 (x3), .int .i64 (x4)], .agg #[.int .i64 (x0), .bool (x1), .int .i64 (x2), .int .i64 (x3), .int .i64 (x4)]] w fun e w' => e = .returned (.bool true) ∧ Below W.heap.size W w' := by
  have hz := hb.size
  go_enter Tryz.func123, Tryz.ntmps123
  go_wp2
  go_ret
  exact ⟨rfl, by go_grown⟩
theorem szShelfS_any (A : Option Addr) (n c : Nat) (l : Int) (h0 : 0 ≤ l) (hl : l ≤ 1048576) (hn : (n : Int) ≤ 9223372036854775807) (w : World) :
    Calls Tryz.prog 97 #[.slice A n c, .int .i64 l] w fun e w' => e = .returned (.int .i64 (szN l n)) ∧ w = w' := by
  by_cases h : l - n < 0
  · rw [szN_neg l n h]
    go_enter Tryz.func97, Tryz.ntmps97
    go_wp2
    go_ret
    exact ⟨rfl, rfl⟩
  · rw [szN_pos l n h]
    go_enter Tryz.func97, Tryz.ntmps97
    go_wp2
    go_ret
    exact ⟨rfl, rfl⟩
theorem oneShelf (x0 : Int) (x1 : Bool) (x2 : Int) (x3 : Int) (x4 : Int) : (#[.int .i64 (x0), .bool (x1), .int .i64 (x2), .int .i64 (x3), .int .i64 (x4)] : Array Value).all (·.oneCell') = true := by kernel_rfl
theorem sizeShelf : (Tryz.prog.info? 70).map (·.size) = some 5 := by kernel_rfl
theorem make_Shelf (n : Nat) (hn : n ≤ 1048576) (w : World) : ∃ cs : Array Value, cs.size = n * 5 ∧ (Instr.makeSlice 66 (.int .i64 (n : Int)) (.int .i64 (n : Int))).run Tryz.prog w = .ok (.slice (some ⟨w.heap.size, 0, none⟩) n n) (w.alloc (.cells cs 70)) := by
  have hinfo : (Tryz.prog.info? 70).map (fun i => (i.zero, i.size, i.bytes)) = some (some (.agg #[.int .i64 0, .bool false, .int .i64 0, .int .i64 0, .int .i64 0]), 5, 40) := by kernel_rfl
  obtain ⟨i0, hi, hz0, hz1, hz2⟩ := info_parts hinfo
  have := run_make (P := Tryz.prog) w 66 70 i0 _ Tryz.underlying66 hi hz0 .i64 .i64 n n (by omega) (by omega) (by
    rw [hz2]
    omega) (by omega)
  rw [hz1] at this
  exact ⟨madeCells #[.int .i64 0, .bool false, .int .i64 0, .int .i64 0, .int .i64 0] (n * 5), size_madeCells _ _, by simpa [Value.cells] using this⟩
set_option maxHeartbeats 1000000 in
theorem toShelfS_any (A : Option Addr) (n c : Nat) (hn : n ≤ 1048576) (x0 : Nat → Int) (x1 : Nat → Bool) (x2 : Nat → Int) (x3 : Nat → Int) (x4 : Nat → Int) (w W : World) (hb : Below W.heap.size W w) (hA : Rs W W.heap.size A n 5 (fun i => [.int .i64 (x0 i), .bool (x1 i), .int .i64 (x2 i), .int .i64 (x3 i), .int .i64 (x4 i)])) :
    Calls Tryz.prog 99 #[.slice A n c] w fun e w' => e = .returned (.slice (some ⟨w.heap.size, 0, none⟩) n n) ∧ OwnS w' w.heap.size n 5 (fun i => [.int .i64 (x0 i), .bool (x1 i), .int .i64 (x2 i), .int .i64 (x3 i), .int .i64 (x4 i)]) ∧ Below w.heap.size w w' := by
  have hz := hb.size
  have hA' := hA.at_ hb
  obtain ⟨mk, hms, hmk⟩ := make_Shelf n hn w
  rcases Nat.eq_zero_or_pos n with h0 | h0
  · subst h0
    have hmk0 : (Instr.makeSlice 66 (.int .i64 0) (.int .i64 0)).run Tryz.prog w = .ok (.slice (some ⟨w.heap.size, 0, none⟩) 0 0) (w.alloc (.cells mk 70)) := hmk
    clear hmk hA hA'
    have HM := Lib.hid hms
    clear hms
    go_enter Tryz.func99, Tryz.ntmps99
    go_wp2
    refine wp_loop_rounds 1 ?_
    rw [rounds_succ]
    go_wp2
    go_ret
    exact ⟨rfl, (Fill.new _ HM.out).done, (Below.refl _ _).alloc (Nat.le_refl _) _⟩
  · obtain ⟨ga, oa, rfl, hga, hca⟩ := hA' h0
    have HC := Lib.hid hca
    have HM := Lib.hid hms
    clear hca hA hA' hms
    go_enter Tryz.func99, Tryz.ntmps99
    go_wp2
    go_loopw [4] (fun i wr => ∃ k : Nat, k ≤ n ∧ i = .int .i64 k ∧ Hid (Fill wr w.heap.size n 5 k (fun i => [.int .i64 (x0 i), .bool (x1 i), .int .i64 (x2 i), .int .i64 (x3 i), .int .i64 (x4 i)])) ∧ Below w.heap.size w wr) (fun i _ => n - (intOf i).toNat)
    case atStart => exact ⟨0, Nat.zero_le _, rfl, Fill.new _ HM.out, (Below.refl _ _).alloc (Nat.le_refl _) _⟩
    case round =>
      obtain ⟨k, hk, rfl, HB, hbr⟩ := hrel
      by_cases hlt : k < n
      · have hr := Lib.hid (rangeAt_below (HC.out k hlt) hbr hga)
        go_wp2_with (refine wpList_load_mid rfl 119 _ rfl ga (oa + k * 5) rfl _ _ hr.out Tryz.underlying119 rfl (by kernel_rfl) ?_)
        refine (toShelf_any _ _ _ _ _ _ _ (Below.refl _ _)).mono ?_
        rintro e w1 ⟨rfl, hb1⟩
        have HF := HB.out.below hb1 HB.out.1
        have hth : w1.there w.heap.size (k * 5) (#[.int .i64 (x0 k), .bool (x1 k), .int .i64 (x2 k), .int .i64 (x3 k), .int .i64 (x4 k)] : Array Value).size := HF.there_at hlt
        have HN := Lib.hid (HF.step hlt (fun i => rfl))
        have hB1 := hbr.trans (hb1.mono hbr.size)
        clear HB hb1 HM HC hr
        have HT := Lib.hid hth
        have HONE := Lib.hid (oneShelf (x0 k) (x1 k) (x2 k) (x3 k) (x4 k))
        clear HF hth
        have hgoal : ∀ (ops : Array Oper) (Q : Exit → Act → World → Prop) (rest : List Oper) (op : Oper) (a : Act) (hgd : op.guard = none) (ho : op.op = .store 70 (.tmp 21) (.tmp 20)) (hx : a.eval (.tmp 21) = .pointer (some ⟨w.heap.size, k * 5, none⟩)) (hy : a.eval (.tmp 20) = .agg #[.int .i64 (x0 k), .bool (x1 k), .int .i64 (x2 k), .int .i64 (x3 k), .int .i64 (x4 k)]) (h : wpList Tryz.prog ops Q rest (a.put op.dst undef) (w1.setCells w.heap.size (k * 5) [.int .i64 (x0 k), .bool (x1 k), .int .i64 (x2 k), .int .i64 (x3 k), .int .i64 (x4 k)])), wpList Tryz.prog ops Q (op :: rest) a w1 :=
          fun ops Q rest op a hgd ho hx hy h => wpList_store_mid hgd _ _ _ ho w.heap.size (k * 5) #[.int .i64 (x0 k), .bool (x1 k), .int .i64 (x2 k), .int .i64 (x3 k), .int .i64 (x4 k)] hx hy HT.out sizeShelf HONE.out h
        have HG := Lib.hid hgoal
        clear hgoal HT HONE
        go_wp2_with (refine HG.out _ _ _ _ _ rfl rfl rfl rfl ?_)
        go_roundw
        case rel => exact ⟨k + 1, by omega, by go_num, HN, below_setCells _ (Nat.le_refl _) _ _ _ hB1⟩
        case measure => simp [intOf]; omega
      · obtain rfl : k = n := by omega
        go_wp2
        go_ret
        exact ⟨rfl, HB.out, hbr⟩
set_option maxHeartbeats 1000000 in
theorem eqShelfS_t (A A' : Option Addr) (n c c' : Nat) (hn : n ≤ 1048576) (x0 : Nat → Int) (x1 : Nat → Bool) (x2 : Nat → Int) (x3 : Nat → Int) (x4 : Nat → Int) (w W : World) (hb : Below W.heap.size W w) (hA : Rs W W.heap.size A n 5 (fun i => [.int .i64 (x0 i), .bool (x1 i), .int .i64 (x2 i), .int .i64 (x3 i), .int .i64 (x4 i)])) (hA' : Rs W W.heap.size A' n 5 (fun i => [.int .i64 (x0 i), .bool (x1 i), .int .i64 (x2 i), .int .i64 (x3 i), .int .i64 (x4 i)])) :
    Calls Tryz.prog 101 #[.slice A n c, .slice A' n c'] w fun e w' => e = .returned (.bool true) ∧ Below w.heap.size w w' := by
  rcases Nat.eq_zero_or_pos n with h0 | h0
  · subst h0
    go_enter Tryz.func101, Tryz.ntmps101
    go_wp2
    refine wp_loop_rounds 1 ?_
    rw [rounds_succ]
    go_wp2
    go_ret
    exact ⟨rfl, Below.refl _ _⟩
  · obtain ⟨ga, oa, rfl, hga, hca⟩ := hA.at_ hb h0
    obtain ⟨ga', oa', rfl, hga', hca'⟩ := hA'.at_ hb h0
    have HC := Lib.hid hca
    have HC' := Lib.hid hca'
    clear hca hA hca' hA'
    go_enter Tryz.func101, Tryz.ntmps101
    go_wp2
    go_loopw [5] (fun i wr => ∃ k : Nat, k ≤ n ∧ i = .int .i64 k ∧ Below w.heap.size w wr) (fun i _ => n - (intOf i).toNat)
    case atStart => exact ⟨0, Nat.zero_le _, rfl, Below.refl _ _⟩
    case round =>
      obtain ⟨k, hk, rfl, hbr⟩ := hrel
      by_cases hlt : k < n
      · have hr := rangeAt_below (HC.out k hlt) hbr hga
        have hr' := rangeAt_below (HC'.out k hlt) hbr hga'
        have c0 := hr 0 _ rfl
        have c1 := hr 1 _ rfl
        have c2 := hr 2 _ rfl
        have c3 := hr 3 _ rfl
        have c4 := hr 4 _ rfl
        have d0 := hr' 0 _ rfl
        have d1 := hr' 1 _ rfl
        have d2 := hr' 2 _ rfl
        have d3 := hr' 3 _ rfl
        have d4 := hr' 4 _ rfl
        simp only [Nat.add_zero] at c0 d0
        have hBr := Lib.hid hbr
        have hzr := hbr.size
        clear HC HC' hr hr' hbr
        go_wp2
        go_region_with (go_at_call 123; refine (eqShelf_t _ _ _ _ _ _ _ (Below.refl _ _)).mono ?_; rintro e w1 ⟨rfl, hb1⟩)
        all_goals
          go_wp2
          go_roundw
          case rel => exact ⟨k + 1, by omega, by go_num, hBr.out.trans (((Below.refl _ wr).drew.trans hb1).mono hzr)⟩
          case measure => simp [intOf]; omega
      · obtain rfl : k = n := by omega
        go_wp2
        go_ret
        exact ⟨rfl, hbr⟩
end Go.Proofs.YtndbmeedimhohaaGreat

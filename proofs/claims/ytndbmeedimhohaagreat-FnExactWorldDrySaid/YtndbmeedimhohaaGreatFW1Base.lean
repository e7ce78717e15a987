/- Worlds: processors and tasks: copying, sizes, equality (printed by mkw1.py). -/
import Derived.Test.YtndbmeedimhohaaGreatFCA
import Derived.Deep.RegionWith
namespace Go.Proofs.YtndbmeedimhohaaGreat
open Go.RowKit

set_option maxHeartbeats 400000 in
theorem toCpu_any (x0 : Bool) (x1 : Int) (x2 : Int) (x3 : Int) (x4 : Int) (w W : World) (hb : Below W.heap.size W w) :
    Calls Tryz.prog 58 #[.agg #[.bool (x0), .int .i64 (x1), .int .i64 (x2), .int .i64 (x3), .int .i64 (x4)]] w fun e w' => e = .returned (.agg #[.bool (x0), .int .i64 (x1), .int .i64 (x2), .int .i64 (x3), .int .i64 (x4)]) ∧ Below W.heap.size W w' := by
  have hz := hb.size
  go_enter Tryz.func58, Tryz.ntmps58
  go_wp2
  go_returns
  exact ⟨rfl, by go_grown⟩
set_option maxHeartbeats 400000 in
theorem eqCpu_t (x0 : Bool) (x1 : Int) (x2 : Int) (x3 : Int) (x4 : Int) (w W : World) (hb : Below W.heap.size W w) :
    Calls Tryz.prog 63 #[.agg #[.bool (x0), .int .i64 (x1), .int .i64 (x2), .int .i64 (x3), .int .i64 (x4)], .agg #[.bool (x0), .int .i64 (x1), .int .i64 (x2), .int .i64 (x3), .int .i64 (x4)]] w fun e w' => e = .returned (.bool true) ∧ Below W.heap.size W w' := by
  have hz := hb.size
  go_enter Tryz.func63, Tryz.ntmps63
  go_wp2
  go_ret
  exact ⟨rfl, by go_grown⟩
theorem szCpuS_any (A : Option Addr) (n c : Nat) (l : Int) (h0 : 0 ≤ l) (hl : l ≤ 1048576) (hn : (n : Int) ≤ 9223372036854775807) (w : World) :
    Calls Tryz.prog 21 #[.slice A n c, .int .i64 l] w fun e w' => e = .returned (.int .i64 (szN l n)) ∧ w = w' := by
  by_cases h : l - n < 0
  · rw [szN_neg l n h]
    go_enter Tryz.func21, Tryz.ntmps21
    go_wp2
    go_ret
    exact ⟨rfl, rfl⟩
  · rw [szN_pos l n h]
    go_enter Tryz.func21, Tryz.ntmps21
    go_wp2
    go_ret
    exact ⟨rfl, rfl⟩
theorem oneCpu (x0 : Bool) (x1 : Int) (x2 : Int) (x3 : Int) (x4 : Int) : (#[.bool (x0), .int .i64 (x1), .int .i64 (x2), .int .i64 (x3), .int .i64 (x4)] : Array Value).all (·.oneCell') = true := by kernel_rfl
theorem sizeCpu : (Tryz.prog.info? 61).map (·.size) = some 5 := by kernel_rfl
theorem make_Cpu (n : Nat) (hn : n ≤ 1048576) (w : World) : ∃ cs : Array Value, cs.size = n * 5 ∧ (Instr.makeSlice 29 (.int .i64 (n : Int)) (.int .i64 (n : Int))).run Tryz.prog w = .ok (.slice (some ⟨w.heap.size, 0, none⟩) n n) (w.alloc (.cells cs 61)) := by
  have hinfo : (Tryz.prog.info? 61).map (fun i => (i.zero, i.size, i.bytes)) = some (some (.agg #[.bool false, .int .i64 0, .int .i64 0, .int .i64 0, .int .i64 0]), 5, 40) := by kernel_rfl
  obtain ⟨i0, hi, hz0, hz1, hz2⟩ := info_parts hinfo
  have := run_make (P := Tryz.prog) w 29 61 i0 _ Tryz.underlying29 hi hz0 .i64 .i64 n n (by omega) (by omega) (by
    rw [hz2]
    omega) (by omega)
  rw [hz1] at this
  exact ⟨madeCells #[.bool false, .int .i64 0, .int .i64 0, .int .i64 0, .int .i64 0] (n * 5), size_madeCells _ _, by simpa [Value.cells] using this⟩
set_option maxHeartbeats 1000000 in
theorem toCpuS_any (A : Option Addr) (n c : Nat) (hn : n ≤ 1048576) (x0 : Nat → Bool) (x1 : Nat → Int) (x2 : Nat → Int) (x3 : Nat → Int) (x4 : Nat → Int) (w W : World) (hb : Below W.heap.size W w) (hA : Rs W W.heap.size A n 5 (fun i => [.bool (x0 i), .int .i64 (x1 i), .int .i64 (x2 i), .int .i64 (x3 i), .int .i64 (x4 i)])) :
    Calls Tryz.prog 26 #[.slice A n c] w fun e w' => e = .returned (.slice (some ⟨w.heap.size, 0, none⟩) n n) ∧ OwnS w' w.heap.size n 5 (fun i => [.bool (x0 i), .int .i64 (x1 i), .int .i64 (x2 i), .int .i64 (x3 i), .int .i64 (x4 i)]) ∧ Below w.heap.size w w' := by
  have hz := hb.size
  have hA' := hA.at_ hb
  obtain ⟨mk, hms, hmk⟩ := make_Cpu n hn w
  rcases Nat.eq_zero_or_pos n with h0 | h0
  · subst h0
    have hmk0 : (Instr.makeSlice 29 (.int .i64 0) (.int .i64 0)).run Tryz.prog w = .ok (.slice (some ⟨w.heap.size, 0, none⟩) 0 0) (w.alloc (.cells mk 61)) := hmk
    clear hmk hA hA'
    have HM := Lib.hid hms
    clear hms
    go_enter Tryz.func26, Tryz.ntmps26
    go_wp2
    refine wp_loop_rounds 1 ?_
    rw [rounds_succ]
    go_wp2
    go_ret
    exact ⟨rfl, (Fill.new _ HM.out).done, (Below.refl _ _).alloc (Nat.le_refl _) _⟩
  · obtain ⟨ga, oa, rfl, hga, hca⟩ := hA' h0
    have HC := Lib.hid hca
    have HM := Lib.hid hms
    clear hca hA hA' hms
    go_enter Tryz.func26, Tryz.ntmps26
    go_wp2
    go_loopw [4] (fun i wr => ∃ k : Nat, k ≤ n ∧ i = .int .i64 k ∧ Hid (Fill wr w.heap.size n 5 k (fun i => [.bool (x0 i), .int .i64 (x1 i), .int .i64 (x2 i), .int .i64 (x3 i), .int .i64 (x4 i)])) ∧ Below w.heap.size w wr) (fun i _ => n - (intOf i).toNat)
    case atStart => exact ⟨0, Nat.zero_le _, rfl, Fill.new _ HM.out, (Below.refl _ _).alloc (Nat.le_refl _) _⟩
    case round =>
      obtain ⟨k, hk, rfl, HB, hbr⟩ := hrel
      by_cases hlt : k < n
      · have hr := Lib.hid (rangeAt_below (HC.out k hlt) hbr hga)
        go_wp2_with (refine wpList_load_mid rfl 84 _ rfl ga (oa + k * 5) rfl _ _ hr.out Tryz.underlying84 rfl (by kernel_rfl) ?_)
        refine (toCpu_any _ _ _ _ _ _ _ (Below.refl _ _)).mono ?_
        rintro e w1 ⟨rfl, hb1⟩
        have HF := HB.out.below hb1 HB.out.1
        have hth : w1.there w.heap.size (k * 5) (#[.bool (x0 k), .int .i64 (x1 k), .int .i64 (x2 k), .int .i64 (x3 k), .int .i64 (x4 k)] : Array Value).size := HF.there_at hlt
        have HN := Lib.hid (HF.step hlt (fun i => rfl))
        have hB1 := hbr.trans (hb1.mono hbr.size)
        clear HB hb1 HM HC hr
        have HT := Lib.hid hth
        have HONE := Lib.hid (oneCpu (x0 k) (x1 k) (x2 k) (x3 k) (x4 k))
        clear HF hth
        have hgoal : ∀ (ops : Array Oper) (Q : Exit → Act → World → Prop) (rest : List Oper) (op : Oper) (a : Act) (hgd : op.guard = none) (ho : op.op = .store 61 (.tmp 21) (.tmp 20)) (hx : a.eval (.tmp 21) = .pointer (some ⟨w.heap.size, k * 5, none⟩)) (hy : a.eval (.tmp 20) = .agg #[.bool (x0 k), .int .i64 (x1 k), .int .i64 (x2 k), .int .i64 (x3 k), .int .i64 (x4 k)]) (h : wpList Tryz.prog ops Q rest (a.put op.dst undef) (w1.setCells w.heap.size (k * 5) [.bool (x0 k), .int .i64 (x1 k), .int .i64 (x2 k), .int .i64 (x3 k), .int .i64 (x4 k)])), wpList Tryz.prog ops Q (op :: rest) a w1 :=
          fun ops Q rest op a hgd ho hx hy h => wpList_store_mid hgd _ _ _ ho w.heap.size (k * 5) #[.bool (x0 k), .int .i64 (x1 k), .int .i64 (x2 k), .int .i64 (x3 k), .int .i64 (x4 k)] hx hy HT.out sizeCpu HONE.out h
        have HG := Lib.hid hgoal
        clear hgoal HT HONE
        go_wp2_with (refine HG.out _ _ _ _ _ rfl rfl rfl rfl ?_)
        go_roundw
        case rel => exact ⟨k + 1, by omega, by go_num, HN, below_setCells _ (Nat.le_refl _) _ _ _ hB1⟩
        case measure => simp [intOf]; omega
      · obtain rfl : k = n := by omega
        go_wp2
        go_ret
        exact ⟨rfl, HB.out, hbr⟩
set_option maxHeartbeats 1000000 in
theorem eqCpuS_t (A A' : Option Addr) (n c c' : Nat) (hn : n ≤ 1048576) (x0 : Nat → Bool) (x1 : Nat → Int) (x2 : Nat → Int) (x3 : Nat → Int) (x4 : Nat → Int) (w W : World) (hb : Below W.heap.size W w) (hA : Rs W W.heap.size A n 5 (fun i => [.bool (x0 i), .int .i64 (x1 i), .int .i64 (x2 i), .int .i64 (x3 i), .int .i64 (x4 i)])) (hA' : Rs W W.heap.size A' n 5 (fun i => [.bool (x0 i), .int .i64 (x1 i), .int .i64 (x2 i), .int .i64 (x3 i), .int .i64 (x4 i)])) :
    Calls Tryz.prog 32 #[.slice A n c, .slice A' n c'] w fun e w' => e = .returned (.bool true) ∧ Below w.heap.size w w' := by
  rcases Nat.eq_zero_or_pos n with h0 | h0
  · subst h0
    go_enter Tryz.func32, Tryz.ntmps32
    go_wp2
    refine wp_loop_rounds 1 ?_
    rw [rounds_succ]
    go_wp2
    go_ret
    exact ⟨rfl, Below.refl _ _⟩
  · obtain ⟨ga, oa, rfl, hga, hca⟩ := hA.at_ hb h0
    obtain ⟨ga', oa', rfl, hga', hca'⟩ := hA'.at_ hb h0
    have HC := Lib.hid hca
    have HC' := Lib.hid hca'
    clear hca hA hca' hA'
    go_enter Tryz.func32, Tryz.ntmps32
    go_wp2
    go_loopw [5] (fun i wr => ∃ k : Nat, k ≤ n ∧ i = .int .i64 k ∧ Below w.heap.size w wr) (fun i _ => n - (intOf i).toNat)
    case atStart => exact ⟨0, Nat.zero_le _, rfl, Below.refl _ _⟩
    case round =>
      obtain ⟨k, hk, rfl, hbr⟩ := hrel
      by_cases hlt : k < n
      · have hr := rangeAt_below (HC.out k hlt) hbr hga
        have hr' := rangeAt_below (HC'.out k hlt) hbr hga'
        have c0 := hr 0 _ rfl
        have c1 := hr 1 _ rfl
        have c2 := hr 2 _ rfl
        have c3 := hr 3 _ rfl
        have c4 := hr 4 _ rfl
        have d0 := hr' 0 _ rfl
        have d1 := hr' 1 _ rfl
        have d2 := hr' 2 _ rfl
        have d3 := hr' 3 _ rfl
        have d4 := hr' 4 _ rfl
        simp only [Nat.add_zero] at c0 d0
        have hBr := Lib.hid hbr
        have hzr := hbr.size
        clear HC HC' hr hr' hbr
        go_wp2
        go_region_with (go_at_call 63; refine (eqCpu_t _ _ _ _ _ _ _ (Below.refl _ _)).mono ?_; rintro e w1 ⟨rfl, hb1⟩)
        all_goals
          go_wp2
          go_roundw
          case rel => exact ⟨k + 1, by omega, by go_num, hBr.out.trans (((Below.refl _ wr).drew.trans hb1).mono hzr)⟩
          case measure => simp [intOf]; omega
      · obtain rfl : k = n := by omega
        go_wp2
        go_ret
        exact ⟨rfl, hbr⟩

set_option maxHeartbeats 400000 in
theorem toTask_any (x0 : Int) (x1 : Int) (x2 : Int) (x3 : Int) (x4 : Int) (x5 : Int) (x6 : Int) (x7 : Int) (x8 : Int) (w W : World) (hb : Below W.heap.size W w) :
    Calls Tryz.prog 59 #[.agg #[.int .i64 (x0), .int .i64 (x1), .int .i64 (x2), .int .i64 (x3), .int .i64 (x4), .int .i64 (x5), .int .i64 (x6), .int .i64 (x7), .int .i64 (x8)]] w fun e w' => e = .returned (.agg #[.int .i64 (x0), .int .i64 (x1), .int .i64 (x2), .int .i64 (x3), .int .i64 (x4), .int .i64 (x5), .int .i64 (x6), .int .i64 (x7), .int .i64 (x8)]) ∧ Below W.heap.size W w' := by
  have hz := hb.size
  go_enter Tryz.func59, Tryz.ntmps59
  go_wp2
  go_returns
  exact ⟨rfl, by go_grown⟩
set_option maxHeartbeats 400000 in
theorem eqTask_t (x0 : Int) (x1 : Int) (x2 : Int) (x3 : Int) (x4 : Int) (x5 : Int) (x6 : Int) (x7 : Int) (x8 : Int) (w W : World) (hb : Below W.heap.size W w) :
    Calls Tryz.prog 64 #[.agg #[.int .i64 (x0), .int .i64 (x1), .int .i64 (x2), .int .i64 (x3), .int .i64 (x4), .int .i64 (x5), .int .i64 (x6), .int .i64 (x7), .int .i64 (x8)], .agg #[.int .i64 (x0), .int .i64 (x1), .int .i64 (x2), .int .i64 (x3), .int .i64 (x4), .int .i64 (x5), .int .i64 (x6), .int .i64 (x7), .int .i64 (x8)]] w fun e w' => e = .returned (.bool true) ∧ Below W.heap.size W w' := by
  have hz := hb.size
  go_enter Tryz.func64, Tryz.ntmps64
  go_wp2
  go_ret
  exact ⟨rfl, by go_grown⟩
theorem szTaskS_any (A : Option Addr) (n c : Nat) (l : Int) (h0 : 0 ≤ l) (hl : l ≤ 1048576) (hn : (n : Int) ≤ 9223372036854775807) (w : World) :
    Calls Tryz.prog 22 #[.slice A n c, .int .i64 l] w fun e w' => e = .returned (.int .i64 (szN l n)) ∧ w = w' := by
  by_cases h : l - n < 0
  · rw [szN_neg l n h]
    go_enter Tryz.func22, Tryz.ntmps22
    go_wp2
    go_ret
    exact ⟨rfl, rfl⟩
  · rw [szN_pos l n h]
    go_enter Tryz.func22, Tryz.ntmps22
    go_wp2
    go_ret
    exact ⟨rfl, rfl⟩
theorem oneTask (x0 : Int) (x1 : Int) (x2 : Int) (x3 : Int) (x4 : Int) (x5 : Int) (x6 : Int) (x7 : Int) (x8 : Int) : (#[.int .i64 (x0), .int .i64 (x1), .int .i64 (x2), .int .i64 (x3), .int .i64 (x4), .int .i64 (x5), .int .i64 (x6), .int .i64 (x7), .int .i64 (x8)] : Array Value).all (·.oneCell') = true := by kernel_rfl
theorem sizeTask : (Tryz.prog.info? 54).map (·.size) = some 9 := by kernel_rfl
theorem make_Task (n : Nat) (hn : n ≤ 1048576) (w : World) : ∃ cs : Array Value, cs.size = n * 9 ∧ (Instr.makeSlice 30 (.int .i64 (n : Int)) (.int .i64 (n : Int))).run Tryz.prog w = .ok (.slice (some ⟨w.heap.size, 0, none⟩) n n) (w.alloc (.cells cs 54)) := by
  have hinfo : (Tryz.prog.info? 54).map (fun i => (i.zero, i.size, i.bytes)) = some (some (.agg #[.int .i64 0, .int .i64 0, .int .i64 0, .int .i64 0, .int .i64 0, .int .i64 0, .int .i64 0, .int .i64 0, .int .i64 0]), 9, 72) := by kernel_rfl
  obtain ⟨i0, hi, hz0, hz1, hz2⟩ := info_parts hinfo
  have := run_make (P := Tryz.prog) w 30 54 i0 _ Tryz.underlying30 hi hz0 .i64 .i64 n n (by omega) (by omega) (by
    rw [hz2]
    omega) (by omega)
  rw [hz1] at this
  exact ⟨madeCells #[.int .i64 0, .int .i64 0, .int .i64 0, .int .i64 0, .int .i64 0, .int .i64 0, .int .i64 0, .int .i64 0, .int .i64 0] (n * 9), size_madeCells _ _, by simpa [Value.cells] using this⟩
set_option maxHeartbeats 1000000 in
theorem toTaskS_any (A : Option Addr) (n c : Nat) (hn : n ≤ 1048576) (x0 : Nat → Int) (x1 : Nat → Int) (x2 : Nat → Int) (x3 : Nat → Int) (x4 : Nat → Int) (x5 : Nat → Int) (x6 : Nat → Int) (x7 : Nat → Int) (x8 : Nat → Int) (w W : World) (hb : Below W.heap.size W w) (hA : Rs W W.heap.size A n 9 (fun i => [.int .i64 (x0 i), .int .i64 (x1 i), .int .i64 (x2 i), .int .i64 (x3 i), .int .i64 (x4 i), .int .i64 (x5 i), .int .i64 (x6 i), .int .i64 (x7 i), .int .i64 (x8 i)])) :
    Calls Tryz.prog 27 #[.slice A n c] w fun e w' => e = .returned (.slice (some ⟨w.heap.size, 0, none⟩) n n) ∧ OwnS w' w.heap.size n 9 (fun i => [.int .i64 (x0 i), .int .i64 (x1 i), .int .i64 (x2 i), .int .i64 (x3 i), .int .i64 (x4 i), .int .i64 (x5 i), .int .i64 (x6 i), .int .i64 (x7 i), .int .i64 (x8 i)]) ∧ Below w.heap.size w w' := by
  have hz := hb.size
  have hA' := hA.at_ hb
  obtain ⟨mk, hms, hmk⟩ := make_Task n hn w
  rcases Nat.eq_zero_or_pos n with h0 | h0
  · subst h0
    have hmk0 : (Instr.makeSlice 30 (.int .i64 0) (.int .i64 0)).run Tryz.prog w = .ok (.slice (some ⟨w.heap.size, 0, none⟩) 0 0) (w.alloc (.cells mk 54)) := hmk
    clear hmk hA hA'
    have HM := Lib.hid hms
    clear hms
    go_enter Tryz.func27, Tryz.ntmps27
    go_wp2
    refine wp_loop_rounds 1 ?_
    rw [rounds_succ]
    go_wp2
    go_ret
    exact ⟨rfl, (Fill.new _ HM.out).done, (Below.refl _ _).alloc (Nat.le_refl _) _⟩
  · obtain ⟨ga, oa, rfl, hga, hca⟩ := hA' h0
    have HC := Lib.hid hca
    have HM := Lib.hid hms
    clear hca hA hA' hms
    go_enter Tryz.func27, Tryz.ntmps27
    go_wp2
    go_loopw [4] (fun i wr => ∃ k : Nat, k ≤ n ∧ i = .int .i64 k ∧ Hid (Fill wr w.heap.size n 9 k (fun i => [.int .i64 (x0 i), .int .i64 (x1 i), .int .i64 (x2 i), .int .i64 (x3 i), .int .i64 (x4 i), .int .i64 (x5 i), .int .i64 (x6 i), .int .i64 (x7 i), .int .i64 (x8 i)])) ∧ Below w.heap.size w wr) (fun i _ => n - (intOf i).toNat)
    case atStart => exact ⟨0, Nat.zero_le _, rfl, Fill.new _ HM.out, (Below.refl _ _).alloc (Nat.le_refl _) _⟩
    case round =>
      obtain ⟨k, hk, rfl, HB, hbr⟩ := hrel
      by_cases hlt : k < n
      · have hr := Lib.hid (rangeAt_below (HC.out k hlt) hbr hga)
        go_wp2_with (refine wpList_load_mid rfl 86 _ rfl ga (oa + k * 9) rfl _ _ hr.out Tryz.underlying86 rfl (by kernel_rfl) ?_)
        refine (toTask_any _ _ _ _ _ _ _ _ _ _ _ (Below.refl _ _)).mono ?_
        rintro e w1 ⟨rfl, hb1⟩
        have HF := HB.out.below hb1 HB.out.1
        have hth : w1.there w.heap.size (k * 9) (#[.int .i64 (x0 k), .int .i64 (x1 k), .int .i64 (x2 k), .int .i64 (x3 k), .int .i64 (x4 k), .int .i64 (x5 k), .int .i64 (x6 k), .int .i64 (x7 k), .int .i64 (x8 k)] : Array Value).size := HF.there_at hlt
        have HN := Lib.hid (HF.step hlt (fun i => rfl))
        have hB1 := hbr.trans (hb1.mono hbr.size)
        clear HB hb1 HM HC hr
        have HT := Lib.hid hth
        have HONE := Lib.hid (oneTask (x0 k) (x1 k) (x2 k) (x3 k) (x4 k) (x5 k) (x6 k) (x7 k) (x8 k))
        clear HF hth
        have hgoal : ∀ (ops : Array Oper) (Q : Exit → Act → World → Prop) (rest : List Oper) (op : Oper) (a : Act) (hgd : op.guard = none) (ho : op.op = .store 54 (.tmp 21) (.tmp 20)) (hx : a.eval (.tmp 21) = .pointer (some ⟨w.heap.size, k * 9, none⟩)) (hy : a.eval (.tmp 20) = .agg #[.int .i64 (x0 k), .int .i64 (x1 k), .int .i64 (x2 k), .int .i64 (x3 k), .int .i64 (x4 k), .int .i64 (x5 k), .int .i64 (x6 k), .int .i64 (x7 k), .int .i64 (x8 k)]) (h : wpList Tryz.prog ops Q rest (a.put op.dst undef) (w1.setCells w.heap.size (k * 9) [.int .i64 (x0 k), .int .i64 (x1 k), .int .i64 (x2 k), .int .i64 (x3 k), .int .i64 (x4 k), .int .i64 (x5 k), .int .i64 (x6 k), .int .i64 (x7 k), .int .i64 (x8 k)])), wpList Tryz.prog ops Q (op :: rest) a w1 :=
          fun ops Q rest op a hgd ho hx hy h => wpList_store_mid hgd _ _ _ ho w.heap.size (k * 9) #[.int .i64 (x0 k), .int .i64 (x1 k), .int .i64 (x2 k), .int .i64 (x3 k), .int .i64 (x4 k), .int .i64 (x5 k), .int .i64 (x6 k), .int .i64 (x7 k), .int .i64 (x8 k)] hx hy HT.out sizeTask HONE.out h
        have HG := Lib.hid hgoal
        clear hgoal HT HONE
        go_wp2_with (have HGo := HG.out; (with_reducible refine HGo _ _ _ _ _ ?s1 ?s2 ?s3 ?s4 ?_); (case s1 => exact rfl); (case s2 => exact rfl); (case s3 => exact rfl); (case s4 => exact rfl); clear HGo)
        go_roundw
        case rel => exact ⟨k + 1, by omega, by go_num, HN, below_setCells _ (Nat.le_refl _) _ _ _ hB1⟩
        case measure => simp [intOf]; omega
      · obtain rfl : k = n := by omega
        go_wp2
        go_ret
        exact ⟨rfl, HB.out, hbr⟩
set_option maxHeartbeats 1000000 in
theorem eqTaskS_t (A A' : Option Addr) (n c c' : Nat) (hn : n ≤ 1048576) (x0 : Nat → Int) (x1 : Nat → Int) (x2 : Nat → Int) (x3 : Nat → Int) (x4 : Nat → Int) (x5 : Nat → Int) (x6 : Nat → Int) (x7 : Nat → Int) (x8 : Nat → Int) (w W : World) (hb : Below W.heap.size W w) (hA : Rs W W.heap.size A n 9 (fun i => [.int .i64 (x0 i), .int .i64 (x1 i), .int .i64 (x2 i), .int .i64 (x3 i), .int .i64 (x4 i), .int .i64 (x5 i), .int .i64 (x6 i), .int .i64 (x7 i), .int .i64 (x8 i)])) (hA' : Rs W W.heap.size A' n 9 (fun i => [.int .i64 (x0 i), .int .i64 (x1 i), .int .i64 (x2 i), .int .i64 (x3 i), .int .i64 (x4 i), .int .i64 (x5 i), .int .i64 (x6 i), .int .i64 (x7 i), .int .i64 (x8 i)])) :
    Calls Tryz.prog 33 #[.slice A n c, .slice A' n c'] w fun e w' => e = .returned (.bool true) ∧ Below w.heap.size w w' := by
  rcases Nat.eq_zero_or_pos n with h0 | h0
  · subst h0
    go_enter Tryz.func33, Tryz.ntmps33
    go_wp2
    refine wp_loop_rounds 1 ?_
    rw [rounds_succ]
    go_wp2
    go_ret
    exact ⟨rfl, Below.refl _ _⟩
  · obtain ⟨ga, oa, rfl, hga, hca⟩ := hA.at_ hb h0
    obtain ⟨ga', oa', rfl, hga', hca'⟩ := hA'.at_ hb h0
    have HC := Lib.hid hca
    have HC' := Lib.hid hca'
    clear hca hA hca' hA'
    go_enter Tryz.func33, Tryz.ntmps33
    go_wp2
    go_loopw [5] (fun i wr => ∃ k : Nat, k ≤ n ∧ i = .int .i64 k ∧ Below w.heap.size w wr) (fun i _ => n - (intOf i).toNat)
    case atStart => exact ⟨0, Nat.zero_le _, rfl, Below.refl _ _⟩
    case round =>
      obtain ⟨k, hk, rfl, hbr⟩ := hrel
      by_cases hlt : k < n
      · have hr := rangeAt_below (HC.out k hlt) hbr hga
        have hr' := rangeAt_below (HC'.out k hlt) hbr hga'
        have c0 := hr 0 _ rfl
        have c1 := hr 1 _ rfl
        have c2 := hr 2 _ rfl
        have c3 := hr 3 _ rfl
        have c4 := hr 4 _ rfl
        have c5 := hr 5 _ rfl
        have c6 := hr 6 _ rfl
        have c7 := hr 7 _ rfl
        have c8 := hr 8 _ rfl
        have d0 := hr' 0 _ rfl
        have d1 := hr' 1 _ rfl
        have d2 := hr' 2 _ rfl
        have d3 := hr' 3 _ rfl
        have d4 := hr' 4 _ rfl
        have d5 := hr' 5 _ rfl
        have d6 := hr' 6 _ rfl
        have d7 := hr' 7 _ rfl
        have d8 := hr' 8 _ rfl
        simp only [Nat.add_zero] at c0 d0
        have hBr := Lib.hid hbr
        have hzr := hbr.size
        clear HC HC' hr hr' hbr
        go_wp2
        go_region_with (go_at_call 64; refine (eqTask_t _ _ _ _ _ _ _ _ _ _ _ (Below.refl _ _)).mono ?_; rintro e w1 ⟨rfl, hb1⟩)
        all_goals
          go_wp2
          go_roundw
          case rel => exact ⟨k + 1, by omega, by go_num, hBr.out.trans (((Below.refl _ wr).drew.trans hb1).mono hzr)⟩
          case measure => simp [intOf]; omega
      · obtain rfl : k = n := by omega
        go_wp2
        go_ret
        exact ⟨rfl, hbr⟩
end Go.Proofs.YtndbmeedimhohaaGreat

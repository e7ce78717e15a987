/- Bands: copying arguments, sizes, equality: contracts of the law's helpers. -/
import Derived.Test.YtndbmeedimhohaaGreatFCA
namespace Go.Proofs.YtndbmeedimhohaaGreat
open Go.RowKit
theorem intInfo : (Tryz.prog.info? 3).map (fun i => (i.zero, i.size, i.bytes)) = some (some (.int .i64 0), 1, 8) := by kernel_rfl
theorem make_toIntS (n : Nat) (hn : n ≤ 1048576) (w : World) : (Instr.makeSlice 62 (.int .i64 (n : Int)) (.int .i64 (n : Int))).run Tryz.prog w = .ok (.slice (some ⟨w.heap.size, 0, none⟩) n n) (w.alloc (.cells (madeCells #[.int .i64 0] n) 3)) := by
  obtain ⟨i0, hi, hz0, hz1, hz2⟩ := info_parts intInfo
  have := run_make (P := Tryz.prog) w 62 3 i0 _ Tryz.underlying62 hi hz0 .i64 .i64 n n (by omega) (by omega) (by rw [hz2]; omega) (by omega)
  rw [hz1] at this
  simpa [Value.cells] using this
theorem boolInfo : (Tryz.prog.info? 4).map (fun i => (i.zero, i.size, i.bytes)) = some (some (.bool false), 1, 1) := by kernel_rfl
theorem make_toBoolS (n : Nat) (hn : n ≤ 1048576) (w : World) : (Instr.makeSlice 63 (.int .i64 (n : Int)) (.int .i64 (n : Int))).run Tryz.prog w = .ok (.slice (some ⟨w.heap.size, 0, none⟩) n n) (w.alloc (.cells (madeCells #[.bool false] n) 4)) := by
  obtain ⟨i0, hi, hz0, hz1, hz2⟩ := info_parts boolInfo
  have := run_make (P := Tryz.prog) w 63 4 i0 _ Tryz.underlying63 hi hz0 .i64 .i64 n n (by omega) (by omega) (by rw [hz2]; omega) (by omega)
  rw [hz1] at this
  simpa [Value.cells] using this
theorem szIntS_any (A : Option Addr) (n c : Nat) (l : Int) (h0 : 0 ≤ l) (hl : l ≤ 1048576) (hn : (n : Int) ≤ 9223372036854775807) (w : World) :
    Calls Tryz.prog 116 #[.slice A n c, .int .i64 l] w fun e w' => e = .returned (.int .i64 (szN l n)) ∧ w = w' := by
  by_cases h : l - n < 0
  · rw [szN_neg l n h]
    go_enter Tryz.func116, Tryz.ntmps116
    go_wp2
    go_ret
    exact ⟨rfl, rfl⟩
  · rw [szN_pos l n h]
    go_enter Tryz.func116, Tryz.ntmps116
    go_wp2
    go_ret
    exact ⟨rfl, rfl⟩
theorem szBoolS_any (A : Option Addr) (n c : Nat) (l : Int) (h0 : 0 ≤ l) (hl : l ≤ 1048576) (hn : (n : Int) ≤ 9223372036854775807) (w : World) :
    Calls Tryz.prog 117 #[.slice A n c, .int .i64 l] w fun e w' => e = .returned (.int .i64 (szN l n)) ∧ w = w' := by
  by_cases h : l - n < 0
  · rw [szN_neg l n h]
    go_enter Tryz.func117, Tryz.ntmps117
    go_wp2
    go_ret
    exact ⟨rfl, rfl⟩
  · rw [szN_pos l n h]
    go_enter Tryz.func117, Tryz.ntmps117
    go_wp2
    go_ret
    exact ⟨rfl, rfl⟩
theorem toIntS_step (cs : Array Value) (n k : Nat) (f : Nat → Int) (hs : cs.size = n) (hk : k < n) (hc : ∀ i, i < k → cs[i]? = some (.int .i64 (f i))) :
    (cs.setIfInBounds k (.int .i64 (f k))).size = n ∧ ∀ i, i < k + 1 → (cs.setIfInBounds k (.int .i64 (f k)))[i]? = some (.int .i64 (f i)) := by
  refine ⟨by simpa using hs, fun i hi => ?_⟩
  rw [Array.getElem?_setIfInBounds]
  by_cases h : k = i
  · subst h
    simp [hs, hk]
  · simp only [if_neg h]
    exact hc i (by omega)
set_option maxHeartbeats 400000 in
theorem toIntS_any (A : Option Addr) (n c : Nat) (hn : n ≤ 1048576) (f : Nat → Int) (w W : World) (hb : Below W.heap.size W w) (hA : Rw W W.heap.size A n fun i => .int .i64 (f i)) :
    Calls Tryz.prog 118 #[.slice A n c] w fun e w' => e = .returned (.slice (some ⟨w.heap.size, 0, none⟩) n n) ∧ Own1 w' w.heap.size 3 n (fun i => .int .i64 (f i)) ∧ Below w.heap.size w w' := by
  have hz := hb.size
  have hmk := fun w => make_toIntS n hn w
  have hA' := hA.at_ hb
  have hm := made1 (.int .i64 0) n
  rcases Nat.eq_zero_or_pos n with h0 | h0
  · subst h0
    have hmk0 : ∀ w, (Instr.makeSlice 62 (.int .i64 0) (.int .i64 0)).run Tryz.prog w = .ok (.slice (some ⟨w.heap.size, 0, none⟩) 0 0) (w.alloc (.cells (madeCells #[.int .i64 0] 0) 3)) := fun w => make_toIntS 0 (by omega) w
    clear hmk
    go_enter Tryz.func118, Tryz.ntmps118
    go_wp2
    refine wp_loop_rounds 1 ?_
    rw [rounds_succ]
    go_wp2
    go_ret
    exact ⟨rfl, ⟨_, Bk.new _ _ _, hm.1, fun i hi => by omega⟩, (Below.refl _ _).alloc (Nat.le_refl _) _⟩
  · obtain ⟨ga, oa, rfl, hga, hca⟩ := hA' h0
    have HC := Lib.hid hca
    clear hca hA hA'
    have HM := Lib.hid hm
    clear hm
    go_enter Tryz.func118, Tryz.ntmps118
    go_wp2
    go_loopw [4] (fun i wr => ∃ k : Nat, k ≤ n ∧ i = .int .i64 k ∧ Hid (∃ cs, Bk wr w.heap.size 3 cs ∧ cs.size = n ∧ ∀ j, j < k → cs[j]? = some (.int .i64 (f j))) ∧ Below w.heap.size w wr) (fun i _ => n - (intOf i).toNat)
    case atStart => exact ⟨0, Nat.zero_le _, rfl, ⟨_, Bk.new _ _ _, HM.out.1, fun j hj => by omega⟩, (Below.refl _ _).alloc (Nat.le_refl _) _⟩
    case round =>
      obtain ⟨k, hk, rfl, HB, hbr⟩ := hrel
      by_cases hlt : k < n
      · have hcell := (hbr.cell (p := ⟨ga, oa + k, none⟩) hga).trans (HC.out k hlt)
        obtain ⟨cs, hB, hs, hcs⟩ := HB.out
        obtain ⟨vold, hold⟩ : ∃ v, wr.cell? ⟨w.heap.size, k, none⟩ = some v := ⟨_, (hB.cell k).trans (Array.getElem?_eq_getElem (by omega))⟩
        have hfr := hB.free k
        have hst := toIntS_step cs n k f hs hlt hcs
        have HN : Hid (∃ cs, Bk (wr.setCell ⟨w.heap.size, k, none⟩ (.int .i64 (f k))) w.heap.size 3 cs ∧ cs.size = n ∧ ∀ j, j < k + 1 → cs[j]? = some (.int .i64 (f j))) :=
          (⟨_, hB.put k _, hst.1, hst.2⟩ : ∃ cs, _)
        clear HB hB hs hcs hst HC HM
        go_wp2
        go_roundw
        case rel => exact ⟨k + 1, by omega, by go_num, HN, hbr.setCell (Nat.le_refl _) _⟩
        case measure => simp [intOf]; omega
      · obtain rfl : k = n := by omega
        go_wp2
        go_ret
        exact ⟨rfl, HB.out, hbr⟩
theorem toBoolS_step (cs : Array Value) (n k : Nat) (f : Nat → Bool) (hs : cs.size = n) (hk : k < n) (hc : ∀ i, i < k → cs[i]? = some (.bool (f i))) :
    (cs.setIfInBounds k (.bool (f k))).size = n ∧ ∀ i, i < k + 1 → (cs.setIfInBounds k (.bool (f k)))[i]? = some (.bool (f i)) := by
  refine ⟨by simpa using hs, fun i hi => ?_⟩
  rw [Array.getElem?_setIfInBounds]
  by_cases h : k = i
  · subst h
    simp [hs, hk]
  · simp only [if_neg h]
    exact hc i (by omega)
set_option maxHeartbeats 400000 in
theorem toBoolS_any (A : Option Addr) (n c : Nat) (hn : n ≤ 1048576) (f : Nat → Bool) (w W : World) (hb : Below W.heap.size W w) (hA : Rw W W.heap.size A n fun i => .bool (f i)) :
    Calls Tryz.prog 119 #[.slice A n c] w fun e w' => e = .returned (.slice (some ⟨w.heap.size, 0, none⟩) n n) ∧ Own1 w' w.heap.size 4 n (fun i => .bool (f i)) ∧ Below w.heap.size w w' := by
  have hz := hb.size
  have hmk := fun w => make_toBoolS n hn w
  have hA' := hA.at_ hb
  have hm := made1 (.bool false) n
  rcases Nat.eq_zero_or_pos n with h0 | h0
  · subst h0
    have hmk0 : ∀ w, (Instr.makeSlice 63 (.int .i64 0) (.int .i64 0)).run Tryz.prog w = .ok (.slice (some ⟨w.heap.size, 0, none⟩) 0 0) (w.alloc (.cells (madeCells #[.bool false] 0) 4)) := fun w => make_toBoolS 0 (by omega) w
    clear hmk
    go_enter Tryz.func119, Tryz.ntmps119
    go_wp2
    refine wp_loop_rounds 1 ?_
    rw [rounds_succ]
    go_wp2
    go_ret
    exact ⟨rfl, ⟨_, Bk.new _ _ _, hm.1, fun i hi => by omega⟩, (Below.refl _ _).alloc (Nat.le_refl _) _⟩
  · obtain ⟨ga, oa, rfl, hga, hca⟩ := hA' h0
    have HC := Lib.hid hca
    clear hca hA hA'
    have HM := Lib.hid hm
    clear hm
    go_enter Tryz.func119, Tryz.ntmps119
    go_wp2
    go_loopw [4] (fun i wr => ∃ k : Nat, k ≤ n ∧ i = .int .i64 k ∧ Hid (∃ cs, Bk wr w.heap.size 4 cs ∧ cs.size = n ∧ ∀ j, j < k → cs[j]? = some (.bool (f j))) ∧ Below w.heap.size w wr) (fun i _ => n - (intOf i).toNat)
    case atStart => exact ⟨0, Nat.zero_le _, rfl, ⟨_, Bk.new _ _ _, HM.out.1, fun j hj => by omega⟩, (Below.refl _ _).alloc (Nat.le_refl _) _⟩
    case round =>
      obtain ⟨k, hk, rfl, HB, hbr⟩ := hrel
      by_cases hlt : k < n
      · have hcell := (hbr.cell (p := ⟨ga, oa + k, none⟩) hga).trans (HC.out k hlt)
        obtain ⟨cs, hB, hs, hcs⟩ := HB.out
        obtain ⟨vold, hold⟩ : ∃ v, wr.cell? ⟨w.heap.size, k, none⟩ = some v := ⟨_, (hB.cell k).trans (Array.getElem?_eq_getElem (by omega))⟩
        have hfr := hB.free k
        have hst := toBoolS_step cs n k f hs hlt hcs
        have HN : Hid (∃ cs, Bk (wr.setCell ⟨w.heap.size, k, none⟩ (.bool (f k))) w.heap.size 4 cs ∧ cs.size = n ∧ ∀ j, j < k + 1 → cs[j]? = some (.bool (f j))) :=
          (⟨_, hB.put k _, hst.1, hst.2⟩ : ∃ cs, _)
        clear HB hB hs hcs hst HC HM
        go_wp2
        go_roundw
        case rel => exact ⟨k + 1, by omega, by go_num, HN, hbr.setCell (Nat.le_refl _) _⟩
        case measure => simp [intOf]; omega
      · obtain rfl : k = n := by omega
        go_wp2
        go_ret
        exact ⟨rfl, HB.out, hbr⟩
set_option maxHeartbeats 400000 in
theorem eqIntS_t (A A' : Option Addr) (n c c' : Nat) (hn : n ≤ 1048576) (f : Nat → Int) (w W : World) (hb : Below W.heap.size W w) (hA : Rw W W.heap.size A n fun i => .int .i64 (f i)) (hA' : Rw W W.heap.size A' n fun i => .int .i64 (f i)) :
    Calls Tryz.prog 121 #[.slice A n c, .slice A' n c'] w fun e w' => e = .returned (.bool true) ∧ Below w.heap.size w w' := by
  rcases Nat.eq_zero_or_pos n with h0 | h0
  · subst h0
    go_enter Tryz.func121, Tryz.ntmps121
    go_wp2
    refine wp_loop_rounds 1 ?_
    rw [rounds_succ]
    go_wp2
    go_ret
    exact ⟨rfl, Below.refl _ _⟩
  · obtain ⟨ga, oa, rfl, hga, hca⟩ := hA.at_ hb h0
    obtain ⟨ga', oa', rfl, hga', hca'⟩ := hA'.at_ hb h0
    have HC := Lib.hid hca
    have HC' := Lib.hid hca'
    clear hca hA hca' hA'
    go_enter Tryz.func121, Tryz.ntmps121
    go_wp2
    go_loopw [5] (fun i wr => ∃ k : Nat, k ≤ n ∧ i = .int .i64 k ∧ Below w.heap.size w wr) (fun i _ => n - (intOf i).toNat)
    case atStart => exact ⟨0, Nat.zero_le _, rfl, Below.refl _ _⟩
    case round =>
      obtain ⟨k, hk, rfl, hbr⟩ := hrel
      by_cases hlt : k < n
      · have hcell := (hbr.cell (p := ⟨ga, oa + k, none⟩) hga).trans (HC.out k hlt)
        have hcell' := (hbr.cell (p := ⟨ga', oa' + k, none⟩) hga').trans (HC'.out k hlt)
        clear HC HC'
        go_wp2
        go_region
        all_goals
          go_wp2
          go_roundw
          case rel => exact ⟨k + 1, by omega, by go_num, hbr.drew⟩
          case measure => simp [intOf]; omega
      · obtain rfl : k = n := by omega
        go_wp2
        go_ret
        exact ⟨rfl, hbr⟩
set_option maxHeartbeats 400000 in
theorem eqBoolS_t (A A' : Option Addr) (n c c' : Nat) (hn : n ≤ 1048576) (f : Nat → Bool) (w W : World) (hb : Below W.heap.size W w) (hA : Rw W W.heap.size A n fun i => .bool (f i)) (hA' : Rw W W.heap.size A' n fun i => .bool (f i)) :
    Calls Tryz.prog 122 #[.slice A n c, .slice A' n c'] w fun e w' => e = .returned (.bool true) ∧ Below w.heap.size w w' := by
  rcases Nat.eq_zero_or_pos n with h0 | h0
  · subst h0
    go_enter Tryz.func122, Tryz.ntmps122
    go_wp2
    refine wp_loop_rounds 1 ?_
    rw [rounds_succ]
    go_wp2
    go_ret
    exact ⟨rfl, Below.refl _ _⟩
  · obtain ⟨ga, oa, rfl, hga, hca⟩ := hA.at_ hb h0
    obtain ⟨ga', oa', rfl, hga', hca'⟩ := hA'.at_ hb h0
    have HC := Lib.hid hca
    have HC' := Lib.hid hca'
    clear hca hA hca' hA'
    go_enter Tryz.func122, Tryz.ntmps122
    go_wp2
    go_loopw [5] (fun i wr => ∃ k : Nat, k ≤ n ∧ i = .int .i64 k ∧ Below w.heap.size w wr) (fun i _ => n - (intOf i).toNat)
    case atStart => exact ⟨0, Nat.zero_le _, rfl, Below.refl _ _⟩
    case round =>
      obtain ⟨k, hk, rfl, hbr⟩ := hrel
      by_cases hlt : k < n
      · have hcell := (hbr.cell (p := ⟨ga, oa + k, none⟩) hga).trans (HC.out k hlt)
        have hcell' := (hbr.cell (p := ⟨ga', oa' + k, none⟩) hga').trans (HC'.out k hlt)
        clear HC HC'
        go_wp2
        go_region
        all_goals
          go_wp2
          go_roundw
          case rel => exact ⟨k + 1, by omega, by go_num, hbr.drew⟩
          case measure => simp [intOf]; omega
      · obtain rfl : k = n := by omega
        go_wp2
        go_ret
        exact ⟨rfl, hbr⟩
end Go.Proofs.YtndbmeedimhohaaGreat

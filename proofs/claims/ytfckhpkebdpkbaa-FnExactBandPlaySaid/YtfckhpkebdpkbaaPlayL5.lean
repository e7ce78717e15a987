/-
  Bands: copying arguments, sizes, equality: contracts of the law's helpers.
-/
import Derived.Test.YtfckhpkebdpkbaaPlayL4
import Derived.Test.YtfckhpkebdpkbaaPlayL3
import Derived.Test.YtfckhpkebdpkbaaPlayL1
namespace Go.Proofs.Ytfckhpkebdpkbaa
open Go.RowKit
theorem intInfo : (Try.prog.info? 3).map (fun i => (i.zero, i.size, i.bytes)) = some (some (.int .i64 0), 1, 8) := by kernel_rfl
theorem make_toIntS (n : Nat) (hn : n ≤ 1048576) (w : World) : (Instr.makeSlice 22 (.int .i64 (n : Int)) (.int .i64 (n : Int))).run Try.prog w = .ok (.slice (some ⟨w.heap.size, 0, none⟩) n n) (w.alloc (.cells (madeCells #[.int .i64 0] n) 3)) := by
  obtain ⟨i0, hi, hz0, hz1, hz2⟩ := info_parts intInfo
  have := run_make (P := Try.prog) w 22 3 i0 _ Try.underlying22 hi hz0 .i64 .i64 n n (by omega) (by omega) (by rw [hz2]; omega) (by omega)
  rw [hz1] at this
  simpa [Value.cells] using this
theorem boolInfo : (Try.prog.info? 4).map (fun i => (i.zero, i.size, i.bytes)) = some (some (.bool false), 1, 1) := by kernel_rfl
theorem make_toBoolS (n : Nat) (hn : n ≤ 1048576) (w : World) : (Instr.makeSlice 23 (.int .i64 (n : Int)) (.int .i64 (n : Int))).run Try.prog w = .ok (.slice (some ⟨w.heap.size, 0, none⟩) n n) (w.alloc (.cells (madeCells #[.bool false] n) 4)) := by
  obtain ⟨i0, hi, hz0, hz1, hz2⟩ := info_parts boolInfo
  have := run_make (P := Try.prog) w 23 4 i0 _ Try.underlying23 hi hz0 .i64 .i64 n n (by omega) (by omega) (by rw [hz2]; omega) (by omega)
  rw [hz1] at this
  simpa [Value.cells] using this
theorem szIntS_any (A : Option Addr) (n c : Nat) (l : Int) (h0 : 0 ≤ l) (hl : l ≤ 1048576) (hn : (n : Int) ≤ 9223372036854775807) (w : World) :
    Calls Try.prog 18 #[.slice A n c, .int .i64 l] w fun e w' => e = .returned (.int .i64 (szN l n)) ∧ w = w' := by
  by_cases h : l - n < 0
  · rw [szN_neg l n h]
    go_enter Try.func18, Try.ntmps18
    go_wp2
    go_ret
    exact ⟨rfl, rfl⟩
  · rw [szN_pos l n h]
    go_enter Try.func18, Try.ntmps18
    go_wp2
    go_ret
    exact ⟨rfl, rfl⟩
theorem szBoolS_any (A : Option Addr) (n c : Nat) (l : Int) (h0 : 0 ≤ l) (hl : l ≤ 1048576) (hn : (n : Int) ≤ 9223372036854775807) (w : World) :
    Calls Try.prog 19 #[.slice A n c, .int .i64 l] w fun e w' => e = .returned (.int .i64 (szN l n)) ∧ w = w' := by
  by_cases h : l - n < 0
  · rw [szN_neg l n h]
    go_enter Try.func19, Try.ntmps19
    go_wp2
    go_ret
    exact ⟨rfl, rfl⟩
  · rw [szN_pos l n h]
    go_enter Try.func19, Try.ntmps19
    go_wp2
    go_ret
    exact ⟨rfl, rfl⟩
theorem toIntS_step (cs : Array Value) (n k : Nat) (f : Nat → Int) (hs : cs.size = n) (hk : k < n) (hc : ∀ i, i < k → cs[i]? = some (.int .i64 (f i))) :
    (cs.setIfInBounds k (.int .i64 (f k))).size = n ∧ ∀ i, i < k + 1 → (cs.setIfInBounds k (.int .i64 (f k)))[i]? = some (.int .i64 (f i)) := by
  refine ⟨by simpa using hs, fun i hi => ?_⟩
  rw [Array.getElem?_setIfInBounds]
  by_cases h : k = i
  · subst h
    simp [hs, hk]
  · simp only [if_neg h]
    exact hc i (by omega)
set_option maxHeartbeats 400000 in
theorem toIntS_any (A : Option Addr) (n c : Nat) (hn : n ≤ 1048576) (f : Nat → Int) (w W : World) (hb : Below W.heap.size W w) (hA : Rw W W.heap.size A n fun i => .int .i64 (f i)) :
    Calls Try.prog 23 #[.slice A n c] w fun e w' => e = .returned (.slice (some ⟨w.heap.size, 0, none⟩) n n) ∧ Own1 w' w.heap.size 3 n (fun i => .int .i64 (f i)) ∧ Below w.heap.size w w' := by
  have hz := hb.size
  have hmk := fun w => make_toIntS n hn w
  have hA' := hA.at_ hb
  have hm := made1 (.int .i64 0) n
  rcases Nat.eq_zero_or_pos n with h0 | h0
  · subst h0
    have hmk0 : ∀ w, (Instr.makeSlice 22 (.int .i64 0) (.int .i64 0)).run Try.prog w = .ok (.slice (some ⟨w.heap.size, 0, none⟩) 0 0) (w.alloc (.cells (madeCells #[.int .i64 0] 0) 3)) := fun w => make_toIntS 0 (by omega) w
    clear hmk
    go_enter Try.func23, Try.ntmps23
    go_wp2
    refine wp_loop_rounds 1 ?_
    rw [rounds_succ]
    go_wp2
    go_ret
    exact ⟨rfl, ⟨_, Bk.new _ _ _, hm.1, fun i hi => by omega⟩, (Below.refl _ _).alloc (Nat.le_refl _) _⟩
  · obtain ⟨ga, oa, rfl, hga, hca⟩ := hA' h0
    have HC := Lib.hid hca
    clear hca hA hA'
    have HM := Lib.hid hm
    clear hm
    go_enter Try.func23, Try.ntmps23
    go_wp2
    go_loopw [4] (fun i wr => ∃ k : Nat, k ≤ n ∧ i = .int .i64 k ∧ Hid (∃ cs, Bk wr w.heap.size 3 cs ∧ cs.size = n ∧ ∀ j, j < k → cs[j]? = some (.int .i64 (f j))) ∧ Below w.heap.size w wr) (fun i _ => n - (intOf i).toNat)
    case atStart => exact ⟨0, Nat.zero_le _, rfl, ⟨_, Bk.new _ _ _, HM.out.1, fun j hj => by omega⟩, (Below.refl _ _).alloc (Nat.le_refl _) _⟩
    case round =>
      obtain ⟨k, hk, rfl, HB, hbr⟩ := hrel
      by_cases hlt : k < n
      · have hcell := (hbr.cell (p := ⟨ga, oa + k, none⟩) hga).trans (HC.out k hlt)
        obtain ⟨cs, hB, hs, hcs⟩ := HB.out
        obtain ⟨vold, hold⟩ : ∃ v, wr.cell? ⟨w.heap.size, k, none⟩ = some v := ⟨_, (hB.cell k).trans (Array.getElem?_eq_getElem (by omega))⟩
        have hfr := hB.free k
        have hst := toIntS_step cs n k f hs hlt hcs
        have HN : Hid (∃ cs, Bk (wr.setCell ⟨w.heap.size, k, none⟩ (.int .i64 (f k))) w.heap.size 3 cs ∧ cs.size = n ∧ ∀ j, j < k + 1 → cs[j]? = some (.int .i64 (f j))) :=
          (⟨_, hB.put k _, hst.1, hst.2⟩ : ∃ cs, _)
        clear HB hB hs hcs hst HC HM
        go_wp2
        go_roundw
        case rel => exact ⟨k + 1, by omega, by go_num, HN, hbr.setCell (Nat.le_refl _) _⟩
        case measure => simp [intOf]; omega
      · obtain rfl : k = n := by omega
        go_wp2
        go_ret
        exact ⟨rfl, HB.out, hbr⟩
theorem toBoolS_step (cs : Array Value) (n k : Nat) (f : Nat → Bool) (hs : cs.size = n) (hk : k < n) (hc : ∀ i, i < k → cs[i]? = some (.bool (f i))) :
    (cs.setIfInBounds k (.bool (f k))).size = n ∧ ∀ i, i < k + 1 → (cs.setIfInBounds k (.bool (f k)))[i]? = some (.bool (f i)) := by
  refine ⟨by simpa using hs, fun i hi => ?_⟩
  rw [Array.getElem?_setIfInBounds]
  by_cases h : k = i
  · subst h
    simp [hs, hk]
  · simp only [if_neg h]
    exact hc i (by omega)
set_option maxHeartbeats 400000 in
theorem toBoolS_any (A : Option Addr) (n c : Nat) (hn : n ≤ 1048576) (f : Nat → Bool) (w W : World) (hb : Below W.heap.size W w) (hA : Rw W W.heap.size A n fun i => .bool (f i)) :
    Calls Try.prog 24 #[.slice A n c] w fun e w' => e = .returned (.slice (some ⟨w.heap.size, 0, none⟩) n n) ∧ Own1 w' w.heap.size 4 n (fun i => .bool (f i)) ∧ Below w.heap.size w w' := by
  have hz := hb.size
  have hmk := fun w => make_toBoolS n hn w
  have hA' := hA.at_ hb
  have hm := made1 (.bool false) n
  rcases Nat.eq_zero_or_pos n with h0 | h0
  · subst h0
    have hmk0 : ∀ w, (Instr.makeSlice 23 (.int .i64 0) (.int .i64 0)).run Try.prog w = .ok (.slice (some ⟨w.heap.size, 0, none⟩) 0 0) (w.alloc (.cells (madeCells #[.bool false] 0) 4)) := fun w => make_toBoolS 0 (by omega) w
    clear hmk
    go_enter Try.func24, Try.ntmps24
    go_wp2
    refine wp_loop_rounds 1 ?_
    rw [rounds_succ]
    go_wp2
    go_ret
    exact ⟨rfl, ⟨_, Bk.new _ _ _, hm.1, fun i hi => by omega⟩, (Below.refl _ _).alloc (Nat.le_refl _) _⟩
  · obtain ⟨ga, oa, rfl, hga, hca⟩ := hA' h0
    have HC := Lib.hid hca
    clear hca hA hA'
    have HM := Lib.hid hm
    clear hm
    go_enter Try.func24, Try.ntmps24
    go_wp2
    go_loopw [4] (fun i wr => ∃ k : Nat, k ≤ n ∧ i = .int .i64 k ∧ Hid (∃ cs, Bk wr w.heap.size 4 cs ∧ cs.size = n ∧ ∀ j, j < k → cs[j]? = some (.bool (f j))) ∧ Below w.heap.size w wr) (fun i _ => n - (intOf i).toNat)
    case atStart => exact ⟨0, Nat.zero_le _, rfl, ⟨_, Bk.new _ _ _, HM.out.1, fun j hj => by omega⟩, (Below.refl _ _).alloc (Nat.le_refl _) _⟩
    case round =>
      obtain ⟨k, hk, rfl, HB, hbr⟩ := hrel
      by_cases hlt : k < n
      · have hcell := (hbr.cell (p := ⟨ga, oa + k, none⟩) hga).trans (HC.out k hlt)
        obtain ⟨cs, hB, hs, hcs⟩ := HB.out
        obtain ⟨vold, hold⟩ : ∃ v, wr.cell? ⟨w.heap.size, k, none⟩ = some v := ⟨_, (hB.cell k).trans (Array.getElem?_eq_getElem (by omega))⟩
        have hfr := hB.free k
        have hst := toBoolS_step cs n k f hs hlt hcs
        have HN : Hid (∃ cs, Bk (wr.setCell ⟨w.heap.size, k, none⟩ (.bool (f k))) w.heap.size 4 cs ∧ cs.size = n ∧ ∀ j, j < k + 1 → cs[j]? = some (.bool (f j))) :=
          (⟨_, hB.put k _, hst.1, hst.2⟩ : ∃ cs, _)
        clear HB hB hs hcs hst HC HM
        go_wp2
        go_roundw
        case rel => exact ⟨k + 1, by omega, by go_num, HN, hbr.setCell (Nat.le_refl _) _⟩
        case measure => simp [intOf]; omega
      · obtain rfl : k = n := by omega
        go_wp2
        go_ret
        exact ⟨rfl, HB.out, hbr⟩
set_option maxHeartbeats 400000 in
theorem eqIntS_t (A A' : Option Addr) (n c c' : Nat) (hn : n ≤ 1048576) (f : Nat → Int) (w W : World) (hb : Below W.heap.size W w) (hA : Rw W W.heap.size A n fun i => .int .i64 (f i)) (hA' : Rw W W.heap.size A' n fun i => .int .i64 (f i)) :
    Calls Try.prog 11 #[.slice A n c, .slice A' n c'] w fun e w' => e = .returned (.bool true) ∧ Below w.heap.size w w' := by
  rcases Nat.eq_zero_or_pos n with h0 | h0
  · subst h0
    go_enter Try.func11, Try.ntmps11
    go_wp2
    refine wp_loop_rounds 1 ?_
    rw [rounds_succ]
    go_wp2
    go_ret
    exact ⟨rfl, Below.refl _ _⟩
  · obtain ⟨ga, oa, rfl, hga, hca⟩ := hA.at_ hb h0
    obtain ⟨ga', oa', rfl, hga', hca'⟩ := hA'.at_ hb h0
    have HC := Lib.hid hca
    have HC' := Lib.hid hca'
    clear hca hA hca' hA'
    go_enter Try.func11, Try.ntmps11
    go_wp2
    go_loopw [5] (fun i wr => ∃ k : Nat, k ≤ n ∧ i = .int .i64 k ∧ Below w.heap.size w wr) (fun i _ => n - (intOf i).toNat)
    case atStart => exact ⟨0, Nat.zero_le _, rfl, Below.refl _ _⟩
    case round =>
      obtain ⟨k, hk, rfl, hbr⟩ := hrel
      by_cases hlt : k < n
      · have hcell := (hbr.cell (p := ⟨ga, oa + k, none⟩) hga).trans (HC.out k hlt)
        have hcell' := (hbr.cell (p := ⟨ga', oa' + k, none⟩) hga').trans (HC'.out k hlt)
        clear HC HC'
        go_wp2
        go_region
        all_goals
          go_wp2
          go_roundw
          case rel => exact ⟨k + 1, by omega, by go_num, hbr.drew⟩
          case measure => simp [intOf]; omega
      · obtain rfl : k = n := by omega
        go_wp2
        go_ret
        exact ⟨rfl, hbr⟩
set_option maxHeartbeats 400000 in
theorem eqBoolS_t (A A' : Option Addr) (n c c' : Nat) (hn : n ≤ 1048576) (f : Nat → Bool) (w W : World) (hb : Below W.heap.size W w) (hA : Rw W W.heap.size A n fun i => .bool (f i)) (hA' : Rw W W.heap.size A' n fun i => .bool (f i)) :
    Calls Try.prog 33 #[.slice A n c, .slice A' n c'] w fun e w' => e = .returned (.bool true) ∧ Below w.heap.size w w' := by
  rcases Nat.eq_zero_or_pos n with h0 | h0
  · subst h0
    go_enter Try.func33, Try.ntmps33
    go_wp2
    refine wp_loop_rounds 1 ?_
    rw [rounds_succ]
    go_wp2
    go_ret
    exact ⟨rfl, Below.refl _ _⟩
  · obtain ⟨ga, oa, rfl, hga, hca⟩ := hA.at_ hb h0
    obtain ⟨ga', oa', rfl, hga', hca'⟩ := hA'.at_ hb h0
    have HC := Lib.hid hca
    have HC' := Lib.hid hca'
    clear hca hA hca' hA'
    go_enter Try.func33, Try.ntmps33
    go_wp2
    go_loopw [5] (fun i wr => ∃ k : Nat, k ≤ n ∧ i = .int .i64 k ∧ Below w.heap.size w wr) (fun i _ => n - (intOf i).toNat)
    case atStart => exact ⟨0, Nat.zero_le _, rfl, Below.refl _ _⟩
    case round =>
      obtain ⟨k, hk, rfl, hbr⟩ := hrel
      by_cases hlt : k < n
      · have hcell := (hbr.cell (p := ⟨ga, oa + k, none⟩) hga).trans (HC.out k hlt)
        have hcell' := (hbr.cell (p := ⟨ga', oa' + k, none⟩) hga').trans (HC'.out k hlt)
        clear HC HC'
        go_wp2
        go_region
        all_goals
          go_wp2
          go_roundw
          case rel => exact ⟨k + 1, by omega, by go_num, hbr.drew⟩
          case measure => simp [intOf]; omega
      · obtain rfl : k = n := by omega
        go_wp2
        go_ret
        exact ⟨rfl, hbr⟩
end Go.Proofs.Ytfckhpkebdpkbaa

/- Bands: toBand, szBand, eqBand. -/
namespace Go.Proofs.Ytfckhpkebdpkbaa
open Go.RowKit
theorem ret_intB {k : IntKind} {a b : Int} (h : a = b) : Ending.returned (.int k a) = .returned (.int k b) := by rw [h]
theorem bcell {W w1 : World} (hb : Below W.heap.size W w1) : (∀ b o, b < W.heap.size → w1.cell? ⟨b, o, none⟩ = W.cell? ⟨b, o, none⟩) ∧ (∀ b o, b < W.heap.size → w1.frozen? ⟨b, o, none⟩ = W.frozen? ⟨b, o, none⟩) :=
  ⟨fun b o h => hb.cell (p := ⟨b, o, none⟩) h, fun b o h => hb.frozen (p := ⟨b, o, none⟩) h⟩
set_option maxHeartbeats 400000 in
theorem toBand_any (q p s : Int) (A A' : Option Addr) (n m c c' : Nat) (hn : n ≤ 1048576) (hm : m ≤ 1048576) (f : Nat → Int) (f' : Nat → Bool) (w W : World) (hb : Below W.heap.size W w)
    (hA : Rw W W.heap.size A n fun i => .int .i64 (f i)) (hA' : Rw W W.heap.size A' m fun i => .bool (f' i)) :
    Calls Try.prog 7 #[.agg #[.int .i64 q, .int .i64 p, .int .i64 s, .slice A n c, .slice A' m c']] w fun e w' => ∃ g g', e = .returned (.agg #[.int .i64 q, .int .i64 p, .int .i64 s, .slice (some ⟨g, 0, none⟩) n n, .slice (some ⟨g', 0, none⟩) m m]) ∧
      w.heap.size ≤ g ∧ g < g' ∧ Own1 w' g 3 n (fun i => .int .i64 (f i)) ∧ Own1 w' g' 4 m (fun i => .bool (f' i)) ∧ Below w.heap.size w w' := by
  have hA0 := Lib.hid (hA.at_ hb)
  have hA1 := Lib.hid (hA'.at_ hb)
  clear hA hA'
  go_enter Try.func7, Try.ntmps7
  go_wp2_with fail
  refine (toIntS_any A n c hn f _ w (by go_grown) hA0.out).mono ?_
  rintro e w1 ⟨rfl, hO1, hb1⟩
  have hz1 := hb1.size
  simp only [World.size_alloc] at hz1 hO1
  have hB1 : Below w.heap.size w w1 := (by go_grown : Below w.heap.size w _).trans (hb1.mono (by simp only [World.size_alloc]; omega))
  have kb := ((Bk.new' w w.heap.size _ _ rfl).alloc _).alloc _ |>.below hb1 (by simp only [World.size_alloc]; omega)
  have kr := (Bk.new' _ (w.heap.size + 1) _ _ (by simp)).alloc _ |>.below hb1 (by simp only [World.size_alloc]; omega)
  have ko := (Bk.new' _ (w.heap.size + 1 + 1) _ _ (by simp)).below hb1 (by simp only [World.size_alloc]; omega)
  clear hb1
  obtain ⟨_, _, _, _, cb4⟩ := kb.five
  obtain ⟨_, _, _, co3, _⟩ := ko.five
  have cf := ko.frees
  have ko1 := Lib.hid (ko.put 3 (.slice (some ⟨w.heap.size + 1 + 1 + 1, 0, none⟩) n n))
  have kr1 := Lib.hid (kr.off (p := ⟨w.heap.size + 1 + 1, 3, none⟩) (by simp) (.slice (some ⟨w.heap.size + 1 + 1 + 1, 0, none⟩) n n))
  have hlt1 := hO1.lt
  have hO1' := Lib.hid hO1
  clear kb kr ko hO1
  go_wp2_with fail
  refine (toBoolS_any A' m c' hm f' _ w (by go_grown) hA1.out).mono ?_
  rintro e w2 ⟨rfl, hO2, hb2⟩
  have hz2 := hb2.size
  simp only [World.size_setCell] at hz2 hO2
  have hB2 : Below w.heap.size w w2 := (by go_grown : Below w.heap.size w _).trans (hb2.mono (by simp only [World.size_setCell]; omega))
  have ko : Bk w2 (w.heap.size + 1 + 1) 29 #[.int .i64 q, .int .i64 p, .int .i64 s, .slice (some ⟨w.heap.size + 1 + 1 + 1, 0, none⟩) n n, .slice none 0 0] := ko1.out.below hb2 (by simp only [World.size_setCell]; omega)
  have kr := kr1.out.below hb2 (by simp only [World.size_setCell]; omega)
  have hO1'' : Own1 w2 (w.heap.size + 1 + 1 + 1) 3 n (fun i => .int .i64 (f i)) := by
    refine Own1.below ?_ hb2 (by have := hO1'.out.lt; simp only [World.size_setCell]; omega)
    obtain ⟨cs, h1, h2, h3⟩ := hO1'.out
    exact ⟨cs, h1.off (by simp) _, h2, h3⟩
  clear hb2 co3 cf
  obtain ⟨_, _, _, _, co4⟩ := ko.five
  have cf := ko.frees
  have ko2 : Bk (w2.setCell ⟨w.heap.size + 1 + 1, 4, none⟩ (.slice (some ⟨w1.heap.size, 0, none⟩) m m)) (w.heap.size + 1 + 1) 29 #[.int .i64 q, .int .i64 p, .int .i64 s, .slice (some ⟨w.heap.size + 1 + 1 + 1, 0, none⟩) n n, .slice (some ⟨w1.heap.size, 0, none⟩) m m] := ko.put 4 _
  have kr2 := kr.off (p := ⟨w.heap.size + 1 + 1, 4, none⟩) (by simp) (.slice (some ⟨w1.heap.size, 0, none⟩) m m)
  have KO := Lib.hid ko2
  have KR := Lib.hid kr2
  have HO1 := Lib.hid hO1''
  have HO2 := Lib.hid hO2
  clear ko kr hO1'' ko2 kr2 hO2 ko1 kr1 hO1'
  go_wp2_with (first
    | refine wpList_load_row rfl 29 _ rfl (w.heap.size + 1 + 1) rfl 29 _ (0, 0) _ KO.out Try.underlying29 rfl (by kernel_rfl) ?_
    | refine wpList_store_row rfl 29 _ _ rfl (w.heap.size + 1) _ rfl rfl 29 _ KR.out (by kernel_rfl) rfl (by kernel_rfl) ?_)
  refine bodyPost_ret (results_cell_row rfl _ _ (w.heap.size + 1) 29 _ (0, 0) _ rfl (setRow_heap _ _ _ _ _ _ KR.out) Try.underlying29 rfl (by kernel_rfl)) rfl ⟨_, _, rfl, by omega, by omega, ?_, ?_, ?_⟩
  · exact (HO1.out.off (by simp) _).rowOff (by omega) _
  · exact (HO2.out.off (by simp; omega) _).rowOff (by omega) _
  · exact below_setRow (hB2.setCell (by simp; omega) _) (by omega) _

set_option maxHeartbeats 400000 in
theorem eqBand_t (q p s : Int) (A A' B B' : Option Addr) (n m c c' d d' : Nat) (hn : n ≤ 1048576) (hm : m ≤ 1048576) (f : Nat → Int) (f' : Nat → Bool) (w W : World) (hb : Below W.heap.size W w)
    (hA : Rw W W.heap.size A n fun i => .int .i64 (f i)) (hA' : Rw W W.heap.size A' m fun i => .bool (f' i)) (hB : Rw W W.heap.size B n fun i => .int .i64 (f i)) (hB' : Rw W W.heap.size B' m fun i => .bool (f' i)) :
    Calls Try.prog 10 #[.agg #[.int .i64 q, .int .i64 p, .int .i64 s, .slice A n c, .slice A' m c'], .agg #[.int .i64 q, .int .i64 p, .int .i64 s, .slice B n d, .slice B' m d']] w fun e w' => e = .returned (.bool true) ∧ Below w.heap.size w w' := by
  have hA := Lib.hid (hA.at_ hb)
  have hA' := Lib.hid (hA'.at_ hb)
  have hB := Lib.hid (hB.at_ hb)
  have hB' := Lib.hid (hB'.at_ hb)
  go_enter Try.func10, Try.ntmps10
  go_wp2_with fail
  refine (eqIntS_t A B n c d hn f _ w (by go_grown) hA.out hB.out).mono ?_
  rintro e w1 ⟨rfl, hb1⟩
  have hB1 : Below w.heap.size w w1 := (by go_grown : Below w.heap.size w _).trans (hb1.mono (by simp only [World.size_alloc]; omega))
  have k1 := ((Bk.new' w w.heap.size _ _ rfl).alloc _).below hb1 (by simp only [World.size_alloc]; omega)
  have k2 := (Bk.new' _ (w.heap.size + 1) _ _ (by simp)).below hb1 (by simp only [World.size_alloc]; omega)
  clear hb1
  obtain ⟨_, _, _, _, c4⟩ := k1.five
  obtain ⟨_, _, _, _, d4⟩ := k2.five
  clear k1 k2
  go_wp2_with fail
  refine (eqBoolS_t A' B' m c' d' hm f' _ w (by go_grown) hA'.out hB'.out).mono ?_
  rintro e w2 ⟨rfl, hb2⟩
  go_wp2
  go_ret
  exact ⟨rfl, hB1.trans (hb2.mono (by have := hB1.size; omega))⟩
/-- What is left of a size behind a band. -/
def szB (l : Int) (n m : Nat) : Int := if l - n < 0 then -1 else szN (l - n) m
theorem szB_neg1 (l : Int) (n m : Nat) (h : l - n < 0) : szB l n m = -1 := if_pos h
theorem szB_neg2 (l : Int) (n m : Nat) (h : l - n - m < 0) : szB l n m = -1 := by
  unfold szB
  split
  · rfl
  · exact szN_neg _ m h
theorem szB_pos (l : Int) (n m : Nat) (h : ¬ l - n - m < 0) : szB l n m = l - n - m := by
  unfold szB
  rw [if_neg (by omega)]
  exact szN_pos _ m h
theorem szBand_any (q p s l : Int) (A A' : Option Addr) (n m c c' : Nat) (h0 : 0 ≤ l) (hl : l ≤ 1048576) (hn : (n : Int) ≤ 9223372036854775807) (hm : (m : Int) ≤ 9223372036854775807) (w W : World) (hb : Below W.heap.size W w) :
    Calls Try.prog 4 #[.agg #[.int .i64 q, .int .i64 p, .int .i64 s, .slice A n c, .slice A' m c'], .int .i64 l] w fun e w' => e = .returned (.int .i64 (szB l n m)) ∧ Below W.heap.size W w' := by
  have hz := hb.size
  by_cases h1 : l - n < 0
  · rw [szB_neg1 l n m h1]
    have hs := szN_neg l n h1
    go_enter Try.func4, Try.ntmps4
    go_wp2_with (go_at_call 18; refine (szIntS_any A n c l h0 hl hn _).mono ?_; rintro e w1 ⟨rfl, rfl⟩)
    go_ret
    exact ⟨rfl, by go_grown⟩
  · have hs := szN_pos l n h1
    by_cases h2 : l - n - m < 0
    · rw [szB_neg2 l n m h2]
      have hs2 := szN_neg (l - n) m h2
      go_enter Try.func4, Try.ntmps4
      go_wp2_with (first | (go_at_call 18; refine (szIntS_any A n c l h0 hl hn _).mono ?_; rintro e w1 ⟨rfl, rfl⟩) | (go_at_call 19; refine (szBoolS_any A' m c' (l - n) (by omega) (by omega) hm _).mono ?_; rintro e w1 ⟨rfl, rfl⟩))
      go_ret
      exact ⟨rfl, by go_grown⟩
    · rw [szB_pos l n m h2]
      have hs2 := szN_pos (l - n) m h2
      go_enter Try.func4, Try.ntmps4
      go_wp2_with (first | (go_at_call 18; refine (szIntS_any A n c l h0 hl hn _).mono ?_; rintro e w1 ⟨rfl, rfl⟩) | (go_at_call 19; refine (szBoolS_any A' m c' (l - n) (by omega) (by omega) hm _).mono ?_; rintro e w1 ⟨rfl, rfl⟩))
      go_ret
      exact ⟨rfl, by go_grown⟩
end Go.Proofs.Ytfckhpkebdpkbaa

/- Bands: BandOk of impl and spec. -/
namespace Go.Proofs.Ytfckhpkebdpkbaa
open Go.RowKit
theorem ret_boolB {a b : Bool} (h : a = b) : Ending.returned (.bool a) = .returned (.bool b) := by rw [h]
theorem quietL {P : Program} {f : FuncId} {args : Array Value} {w : World} {n : Nat} {v : Value} (h : Calls P f args (w.drewN n) fun e w' => e = .returned v ∧ w.drewN n = w') : Calls P f args (w.drewN n) fun e w'' => e = .returned v ∧ ∃ m, w'' = w.drewN m :=
  h.mono fun _ _ ⟨he, hm⟩ => ⟨he, n, hm.symm⟩
theorem quietA {P : Program} {f : FuncId} {args : Array Value} {w : World} {a n : Nat} {v : Value} (h : Calls P f args (w.drewN (a + n)) fun e w' => e = .returned v ∧ w.drewN (a + n) = w') : Calls P f args (w.drewN (a + n)) fun e w'' => e = .returned v ∧ ∃ m, w'' = w.drewN (a + m) :=
  h.mono fun _ _ ⟨he, hm⟩ => ⟨he, n, hm.symm⟩

set_option maxHeartbeats 1000000 in
theorem iBandOk_any (q p s : Int) (A A' : Option Addr) (n m c c' : Nat) (hn : (n : Int) ≤ 9223372036854775807) (hm : (m : Int) ≤ 9223372036854775807) (f : Nat → Int) (f' : Nat → Bool) (w W : World) (hb : Below W.heap.size W w)
    (hA : Rw W W.heap.size A n fun i => .int .i64 (f i)) (hA' : Rw W W.heap.size A' m fun i => .bool (f' i)) :
    Calls Try.prog 26 #[.agg #[.int .i64 q, .int .i64 p, .int .i64 s, .slice A n c, .slice A' m c']] w fun e w' => e = .returned (.bool (bandOk q p s n m f f')) ∧ Below W.heap.size W w' := by
  have hz := hb.size
  have hbx : ∀ o, Below W.heap.size W (w.alloc o) := fun o => hb.alloc hz o
  cases h1 : inR q 1 10000
  · rw [bandOk_head q p s n m f f' (by simp [h1])]
    go_enter Try.func26, Try.ntmps26
    go_wp2_with (go_at_call 40; refine (inRange_any _ _ _ _).mono ?_; rintro e w' ⟨rfl, rfl⟩)
    go_ret
    exact ⟨rfl, hbx _⟩
  cases h2 : inR n 1 4
  · rw [bandOk_head q p s n m f f' (by simp [h2])]
    go_enter Try.func26, Try.ntmps26
    go_wp2_with (go_at_call 40; refine (inRange_any _ _ _ _).mono ?_; rintro e w' ⟨rfl, rfl⟩)
    go_ret
    exact ⟨rfl, hbx _⟩
  by_cases h3 : m = n
  case neg =>
    rw [bandOk_head q p s n m f f' (by simp [h3])]
    have h3' : ((m : Int) != (n : Int)) = true := by rw [bne_iff_ne]; omega
    go_enter Try.func26, Try.ntmps26
    go_wp2_with (go_at_call 40; refine (inRange_any _ _ _ _).mono ?_; rintro e w' ⟨rfl, rfl⟩)
    go_ret
    exact ⟨rfl, hbx _⟩
  subst h3
  cases h4 : inR p 0 q
  · rw [bandOk_head q p s m m f f' (by simp [h4])]
    go_enter Try.func26, Try.ntmps26
    go_wp2_with (go_at_call 40; refine (inRange_any _ _ _ _).mono ?_; rintro e w' ⟨rfl, rfl⟩)
    go_ret
    exact ⟨rfl, hbx _⟩
  cases h5 : inR s 0 q
  · rw [bandOk_head q p s m m f f' (by simp [h5])]
    go_enter Try.func26, Try.ntmps26
    go_wp2_with (go_at_call 40; refine (inRange_any _ _ _ _).mono ?_; rintro e w' ⟨rfl, rfl⟩)
    go_ret
    exact ⟨rfl, hbx _⟩
  obtain ⟨g1, g2⟩ := inR_iff.1 h1
  obtain ⟨g3, g4⟩ := inR_iff.1 h2
  obtain ⟨g5, g6⟩ := inR_iff.1 h4
  obtain ⟨g7, g8⟩ := inR_iff.1 h5
  have HE := Lib.hid (fun (ha : allTo (locOk q p f f') m = true) => bandOk_end q p s m m f f' (by simp [h1, h2, h4, h5]) ha)
  have HL := Lib.hid (fun k hk h => bandOk_loc q p s m m f f' k hk h)
  obtain ⟨ga, oa, rfl, hga, hca⟩ := hA.at_ hb (by omega)
  obtain ⟨gb, ob, rfl, hgb, hcb⟩ := hA'.at_ hb (by omega)
  have HC := Lib.hid hca
  have HC' := Lib.hid hcb
  clear hca hA hcb hA'
  go_enter Try.func26, Try.ntmps26
  go_wp2_with (go_at_call 40; refine (inRange_any _ _ _ _).mono ?_; rintro e w' ⟨rfl, rfl⟩)
  go_loop [3, 48] (fun t i => ∃ k : Nat, k ≤ m ∧ i = .int .i64 k ∧ t = .int .i64 (p + s + sumTo f k) ∧ Hid (allTo (locOk q p f f') k = true)) (fun _ i => m - (intOf i).toNat)
  case atStart => exact ⟨0, Nat.zero_le _, rfl, by simp [sumTo], rfl⟩
  case round =>
    obtain ⟨k, hk, rfl, rfl, HA⟩ := hrel
    obtain ⟨u1, u2⟩ := sum_ok q p f f' k HA.out (by omega) (by omega) (by omega)
    by_cases hlt : k < m
    · have hcell := HC.out k hlt
      have hcell' := HC'.out k hlt
      cases r1 : inR (f k) 0 q
      · have HN := Lib.hid (HL.out k hlt (locOk_f1 q p f f' k r1))
        go_wp2_with (go_at_call 40; refine (inRange_any _ _ _ _).mono ?_; rintro e w' ⟨rfl, rfl⟩)
        go_ret
        exact ⟨ret_boolB HN.out.symm, hbx _⟩
      obtain ⟨v1, v2⟩ := inR_iff.1 r1
      have HS : Hid (sumTo f (k + 1) = sumTo f k + f k) := rfl
      cases r2 : f' k
      · have HA2 : Hid (allTo (locOk q p f f') (k + 1) = true) := allTo_next _ k HA.out (locOk_t1 q p f f' k r1 r2)
        rw [r2] at hcell'
        go_wp2_with (go_at_call 40; refine (inRange_any _ _ _ _).mono ?_; rintro e w' ⟨rfl, rfl⟩)
        go_round
        case rel => exact ⟨k + 1, by omega, by go_num, by rw [HS.out]; go_num, HA2⟩
        case measure => simp [intOf]; omega
      rw [r2] at hcell'
      by_cases r3 : f k = 0
      · by_cases r4 : p = 0
        · have HA2 : Hid (allTo (locOk q p f f') (k + 1) = true) := allTo_next _ k HA.out (locOk_t2 q p f f' k r1 r3 r4)
          have r3' : (f k != 0) = false := by simp [r3]
          have r4' : (p != 0) = false := by simp [r4]
          clear r3 r4
          go_wp2_with (go_at_call 40; refine (inRange_any _ _ _ _).mono ?_; rintro e w' ⟨rfl, rfl⟩)
          go_round
          case rel => exact ⟨k + 1, by omega, by go_num, by rw [HS.out]; go_num, HA2⟩
          case measure => simp [intOf]; omega
        · have HN := Lib.hid (HL.out k hlt (locOk_f2 q p f f' k r2 (.inr r4)))
          have r3' : (f k != 0) = false := by simp [r3]
          have r4' : (p != 0) = true := by simp [r4]
          clear r3 r4
          go_wp2_with (go_at_call 40; refine (inRange_any _ _ _ _).mono ?_; rintro e w' ⟨rfl, rfl⟩)
          go_ret
          exact ⟨ret_boolB HN.out.symm, hbx _⟩
      · have HN := Lib.hid (HL.out k hlt (locOk_f2 q p f f' k r2 (.inl r3)))
        have r3' : (f k != 0) = true := by simp [r3]
        clear r3
        go_wp2_with (go_at_call 40; refine (inRange_any _ _ _ _).mono ?_; rintro e w' ⟨rfl, rfl⟩)
        go_ret
        exact ⟨ret_boolB HN.out.symm, hbx _⟩
    · obtain rfl : k = m := by omega
      go_wp2
      go_ret
      exact ⟨ret_boolB (HE.out HA.out).symm, hbx _⟩
set_option maxHeartbeats 1000000 in
theorem sBandOk_any (q p s : Int) (A A' : Option Addr) (n m c c' : Nat) (hn : (n : Int) ≤ 9223372036854775807) (hm : (m : Int) ≤ 9223372036854775807) (f : Nat → Int) (f' : Nat → Bool) (w W : World) (hb : Below W.heap.size W w)
    (hA : Rw W W.heap.size A n fun i => .int .i64 (f i)) (hA' : Rw W W.heap.size A' m fun i => .bool (f' i)) :
    Calls Try.prog 20 #[.agg #[.int .i64 q, .int .i64 p, .int .i64 s, .slice A n c, .slice A' m c']] w fun e w' => e = .returned (.bool (bandOk q p s n m f f')) ∧ Below W.heap.size W w' := by
  have hz := hb.size
  have hbx : ∀ o, Below W.heap.size W (w.alloc o) := fun o => hb.alloc hz o
  cases h1 : inR q 1 10000
  · rw [bandOk_head q p s n m f f' (by simp [h1])]
    go_enter Try.func20, Try.ntmps20
    go_wp2_with (go_at_call 37; refine (l1In_any _ _ _ _).mono ?_; rintro e w' ⟨rfl, rfl⟩)
    go_ret
    exact ⟨rfl, hbx _⟩
  cases h2 : inR n 1 4
  · rw [bandOk_head q p s n m f f' (by simp [h2])]
    go_enter Try.func20, Try.ntmps20
    go_wp2_with (go_at_call 37; refine (l1In_any _ _ _ _).mono ?_; rintro e w' ⟨rfl, rfl⟩)
    go_ret
    exact ⟨rfl, hbx _⟩
  by_cases h3 : m = n
  case neg =>
    rw [bandOk_head q p s n m f f' (by simp [h3])]
    have h3' : ((m : Int) != (n : Int)) = true := by rw [bne_iff_ne]; omega
    go_enter Try.func20, Try.ntmps20
    go_wp2_with (go_at_call 37; refine (l1In_any _ _ _ _).mono ?_; rintro e w' ⟨rfl, rfl⟩)
    go_ret
    exact ⟨rfl, hbx _⟩
  subst h3
  cases h4 : inR p 0 q
  · rw [bandOk_head q p s m m f f' (by simp [h4])]
    go_enter Try.func20, Try.ntmps20
    go_wp2_with (go_at_call 37; refine (l1In_any _ _ _ _).mono ?_; rintro e w' ⟨rfl, rfl⟩)
    go_ret
    exact ⟨rfl, hbx _⟩
  cases h5 : inR s 0 q
  · rw [bandOk_head q p s m m f f' (by simp [h5])]
    go_enter Try.func20, Try.ntmps20
    go_wp2_with (go_at_call 37; refine (l1In_any _ _ _ _).mono ?_; rintro e w' ⟨rfl, rfl⟩)
    go_ret
    exact ⟨rfl, hbx _⟩
  obtain ⟨g1, g2⟩ := inR_iff.1 h1
  obtain ⟨g3, g4⟩ := inR_iff.1 h2
  obtain ⟨g5, g6⟩ := inR_iff.1 h4
  obtain ⟨g7, g8⟩ := inR_iff.1 h5
  have HE := Lib.hid (fun (ha : allTo (locOk q p f f') m = true) => bandOk_end q p s m m f f' (by simp [h1, h2, h4, h5]) ha)
  have HL := Lib.hid (fun k hk h => bandOk_loc q p s m m f f' k hk h)
  obtain ⟨ga, oa, rfl, hga, hca⟩ := hA.at_ hb (by omega)
  obtain ⟨gb, ob, rfl, hgb, hcb⟩ := hA'.at_ hb (by omega)
  have HC := Lib.hid hca
  have HC' := Lib.hid hcb
  clear hca hA hcb hA'
  go_enter Try.func20, Try.ntmps20
  go_wp2_with (go_at_call 37; refine (l1In_any _ _ _ _).mono ?_; rintro e w' ⟨rfl, rfl⟩)
  go_loopw [3, 4] (fun t i wr => ∃ k : Nat, k ≤ m ∧ i = .int .i64 k ∧ t = .int .i64 (p + s + sumTo f k) ∧ Hid (allTo (locOk q p f f') k = true) ∧ ∃ d, wr = (w.alloc (.cells #[.int .i64 q, .int .i64 p, .int .i64 s, .slice (some ⟨ga, oa, none⟩) m c, .slice (some ⟨gb, ob, none⟩) m c'] 29)).drewN d) (fun _ i _ => m - (intOf i).toNat)
  case atStart => exact ⟨0, Nat.zero_le _, rfl, by simp [sumTo], rfl, 0, rfl⟩
  case round =>
    obtain ⟨k, hk, rfl, rfl, HA, d, rfl⟩ := hrel
    obtain ⟨u1, u2⟩ := sum_ok q p f f' k HA.out (by omega) (by omega) (by omega)
    have hbd : ∀ o n, Below W.heap.size W ((w.alloc o).drewN n) := fun o n => below_drewN (hb.alloc hz o) n
    by_cases hlt : k < m
    · have hcell := HC.out k hlt
      have hcell' := HC'.out k hlt
      cases r1 : inR (f k) 0 q
      · have HN := Lib.hid (HL.out k hlt (locOk_f1 q p f f' k r1))
        go_wp2
        go_quiet ((go_at_call 37; exact quietA (l1In_any _ _ _ _)))
        go_wp2
        go_ret
        exact ⟨ret_boolB HN.out.symm, by first | exact hbd _ _ | exact below_drewN (hbd _ _) _⟩
      obtain ⟨v1, v2⟩ := inR_iff.1 r1
      have HS : Hid (sumTo f (k + 1) = sumTo f k + f k) := rfl
      cases r2 : f' k
      · have HA2 : Hid (allTo (locOk q p f f') (k + 1) = true) := allTo_next _ k HA.out (locOk_t1 q p f f' k r1 r2)
        rw [r2] at hcell'
        go_wp2
        go_quiet ((go_at_call 37; exact quietA (l1In_any _ _ _ _)))
        go_wp2
        go_roundw
        case rel => exact ⟨k + 1, by omega, by go_num, by rw [HS.out]; go_num, HA2, _, rfl⟩
        case measure => simp [intOf]; omega
      rw [r2] at hcell'
      by_cases r3 : f k = 0
      · by_cases r4 : p = 0
        · have HA2 : Hid (allTo (locOk q p f f') (k + 1) = true) := allTo_next _ k HA.out (locOk_t2 q p f f' k r1 r3 r4)
          have r3' : ¬ (0 < f k) := by omega
          have r4' : ¬ (0 < p) := by omega
          have r3b : decide (0 < f k) = false := by simp; omega
          have r4b : decide (0 < p) = false := by simp; omega
          clear r3 r4
          go_wp2
          go_quiet ((go_at_call 37; exact quietA (l1In_any _ _ _ _)))
          go_wp2
          go_roundw
          case rel => exact ⟨k + 1, by omega, by go_num, by rw [HS.out]; go_num, HA2, _, rfl⟩
          case measure => simp [intOf]; omega
        · have HN := Lib.hid (HL.out k hlt (locOk_f2 q p f f' k r2 (.inr r4)))
          have r3' : ¬ (0 < f k) := by omega
          have r4' : 0 < p := by omega
          have r3b : decide (0 < f k) = false := by simp; omega
          have r4b : decide (0 < p) = true := by simp; omega
          clear r3 r4
          go_wp2
          go_quiet ((go_at_call 37; exact quietA (l1In_any _ _ _ _)))
          go_wp2
          go_ret
          exact ⟨ret_boolB HN.out.symm, by first | exact hbd _ _ | exact below_drewN (hbd _ _) _⟩
      · have HN := Lib.hid (HL.out k hlt (locOk_f2 q p f f' k r2 (.inl r3)))
        have r3' : 0 < f k := by omega
        have r3b : decide (0 < f k) = true := by simp; omega
        clear r3
        go_wp2
        go_quiet ((go_at_call 37; exact quietA (l1In_any _ _ _ _)))
        go_wp2
        go_ret
        exact ⟨ret_boolB HN.out.symm, by first | exact hbd _ _ | exact below_drewN (hbd _ _) _⟩
    · obtain rfl : k = m := by omega
      go_wp2
      go_ret
      exact ⟨ret_boolB (HE.out HA.out).symm, hbd _ _⟩
end Go.Proofs.Ytfckhpkebdpkbaa

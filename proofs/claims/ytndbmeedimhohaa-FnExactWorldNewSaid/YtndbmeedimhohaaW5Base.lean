/- Worlds: new groups and their shelves. -/
import Derived.Test.YtndbmeedimhohaaW4Base
import Derived.Laws.AppendOwn
import Derived.Laws.OwnMore
import Derived.Deep.AppendLies
namespace Go.Proofs.Ytndbmeedimhohaa
open Go.RowKit
theorem below_grownW {w w' : World} {row : Option Nat} {B : Nat} (h : w.grownBy w' row) (hB : B ≤ w.heap.size) (hr : ∀ k, row = some k → B ≤ k) : Below B w w' :=
  ⟨h.os, h.tape, h.output, h.size, fun k hk => h.block k (Nat.lt_of_lt_of_le hk hB) (fun e => absurd (hr k e.symm) (by omega))⟩
theorem made_own (w : World) (t : TypeId) (zs : List Value) (n sz : Nat) (hz : zs.length = sz) : OwnS (w.alloc (.cells (madeCells zs.toArray (n * sz)) t)) w.heap.size n sz (fun _ => zs) := by
  have hb := Bk.new w t (madeCells zs.toArray (n * sz))
  refine ⟨hb.lt, fun i hi j v hj => ?_, fun j hj => ⟨?_, hb.free _⟩⟩
  · have hjs : j < sz := by rw [← hz]; exact (List.getElem?_eq_some_iff.1 hj).1
    have hij : i * sz + j < n * sz := by
      have := Nat.mul_le_mul_right sz (show i + 1 ≤ n by omega)
      rw [Nat.succ_mul] at this
      omega
    rw [hb.cell (i * sz + j)]
    simp only [madeCells, Array.getElem?_map, List.size_toArray, hz]
    rw [Array.getElem?_range, if_pos hij]
    simp only [Option.map_some]
    rw [Nat.mul_comm, Nat.mul_add_mod, Nat.mod_eq_of_lt hjs]
    simp only [List.getElem!_toArray]
    rw [getElem!_pos zs j (by rw [hz]; exact hjs)]
    rw [List.getElem?_eq_getElem (by rw [hz]; exact hjs)] at hj
    exact hj
  · rw [hb.cell (0 + j)]
    simp only [madeCells, Array.getElem?_map]
    rw [Array.getElem?_range, if_pos (by omega)]
    rfl
def zShelf : List Value := [.int .i64 0, .bool false, .int .i64 0, .int .i64 0, .int .i64 0]
def nShelf : List Value := [.int .i64 0, .bool false, .int .i64 0, .int .i64 10, .int .i64 0]
def zCpu : List Value := [.bool false, .int .i64 0, .int .i64 0, .int .i64 0, .int .i64 0]
def nCpu : List Value := [.bool true, .int .i64 (-1), .int .i64 0, .int .i64 0, .int .i64 0]
def zTask : List Value := [.int .i64 0, .int .i64 0, .int .i64 0, .int .i64 0, .int .i64 0, .int .i64 0, .int .i64 0, .int .i64 0, .int .i64 0]
def zGroup : List Value := [.bool false, .int .i64 0, .string ⟨#[]⟩, .int .i64 0, .int .i64 0, .int .i64 0, .int .i64 0, .int .i64 0, .int .i64 0, .int .i64 0, .int .i64 0, .slice none 0 0, .slice none 0 0, .slice none 0 0]
theorem infoShelfW : (Try.prog.info? 51).map (fun i => (i.zero, i.size, i.bytes)) = some (some (.agg zShelf.toArray), 5, 40) := by kernel_rfl
theorem infoCpuW : (Try.prog.info? 34).map (fun i => (i.zero, i.size, i.bytes)) = some (some (.agg zCpu.toArray), 5, 40) := by kernel_rfl
theorem infoTaskW : (Try.prog.info? 56).map (fun i => (i.zero, i.size, i.bytes)) = some (some (.agg zTask.toArray), 9, 72) := by kernel_rfl
theorem infoGroupW : (Try.prog.info? 41).map (fun i => (i.zero, i.size)) = some (some (.agg zGroup.toArray), 14) := by kernel_rfl
theorem make_ShelfW (n : Nat) (hn : n ≤ 4) (w : World) : (Instr.makeSlice 39 (.int .i64 (n : Int)) (.int .i64 (n : Int))).run Try.prog w = .ok (.slice (some ⟨w.heap.size, 0, none⟩) n n) (w.alloc (.cells (madeCells zShelf.toArray (n * 5)) 51)) := by
  obtain ⟨i0, hi, hz0, hz1, hz2⟩ := info_parts infoShelfW
  have := run_make (P := Try.prog) w 39 51 i0 _ Try.underlying39 hi hz0 .i64 .i64 n n (by omega) (by omega) (by rw [hz2]; omega) (by omega)
  rw [hz1] at this
  simpa [Value.cells] using this
theorem make_CpuW (n : Nat) (hn : n ≤ 4) (w : World) : (Instr.makeSlice 22 (.int .i64 (n : Int)) (.int .i64 (n : Int))).run Try.prog w = .ok (.slice (some ⟨w.heap.size, 0, none⟩) n n) (w.alloc (.cells (madeCells zCpu.toArray (n * 5)) 34)) := by
  obtain ⟨i0, hi, hz0, hz1, hz2⟩ := info_parts infoCpuW
  have := run_make (P := Try.prog) w 22 34 i0 _ Try.underlying22 hi hz0 .i64 .i64 n n (by omega) (by omega) (by rw [hz2]; omega) (by omega)
  rw [hz1] at this
  simpa [Value.cells] using this
theorem make_TaskW (w : World) : (Instr.makeSlice 23 (.int .i64 12) (.int .i64 12)).run Try.prog w = .ok (.slice (some ⟨w.heap.size, 0, none⟩) 12 12) (w.alloc (.cells (madeCells zTask.toArray (12 * 9)) 56)) := by
  obtain ⟨i0, hi, hz0, hz1, hz2⟩ := info_parts infoTaskW
  have := run_make (P := Try.prog) w 23 56 i0 _ Try.underlying23 hi hz0 .i64 .i64 12 12 (by omega) (by omega) (by rw [hz2]; omega) (by omega)
  rw [hz1] at this
  simpa [Value.cells] using this
theorem make_GroupW (w : World) : (Instr.makeSlice 24 (.int .i64 8) (.int .i64 8)).run Try.prog w = .ok (.slice (some ⟨w.heap.size, 0, none⟩) 8 8) (w.alloc (.cells (madeCells zGroup.toArray (8 * 14)) 41)) := by
  have hinfo : (Try.prog.info? 41).map (fun i => (i.zero, i.size, decide (i.bytes ≤ 1000))) = some (some (.agg zGroup.toArray), 14, true) := by kernel_rfl
  obtain ⟨i0, hi, he⟩ := Option.map_eq_some_iff.1 hinfo
  simp only [Prod.mk.injEq, decide_eq_true_eq] at he
  obtain ⟨hz0, hz1, hz2⟩ := he
  have := run_make (P := Try.prog) w 24 41 i0 _ Try.underlying24 hi hz0 .i64 .i64 8 8 (by omega) (by omega) (by omega) (by omega)
  rw [hz1] at this
  simpa [Value.cells] using this
set_option maxHeartbeats 1000000 in
theorem newShelves_any (n : Nat) (hn0 : 1 ≤ n) (hn : n ≤ 4) (w : World) :
    Calls Try.prog 22 #[.int .i64 n] w fun e w' => e = .returned (.slice (some ⟨w.heap.size, 0, none⟩) n n) ∧ OwnS w' w.heap.size n 5 (fun _ => nShelf) ∧ Below w.heap.size w w' := by
  have hmk := make_ShelfW n hn w
  have HO0 := Lib.hid (made_own w 51 zShelf n 5 rfl)
  have HB0 : Hid (Below w.heap.size w (w.alloc (.cells (madeCells zShelf.toArray (n * 5)) 51))) := (Below.refl _ w).alloc (Nat.le_refl _) _
  go_enter Try.func22, Try.ntmps22
  go_wp2
  go_loopw [9] (fun i wr => ∃ k : Nat, k ≤ n ∧ i = .int .i64 k ∧ Hid (OwnS wr w.heap.size n 5 (fun i => if i < k then nShelf else zShelf)) ∧ Hid (Below w.heap.size w wr)) (fun i _ => n - (intOf i).toNat)
  case atStart => exact ⟨0, Nat.zero_le _, rfl, HO0.out.congr (fun i _ => by simp), HB0⟩
  case round =>
    obtain ⟨k, hk, rfl, HO, HB⟩ := hrel
    by_cases hlt : k < n
    · have hel : ∀ m, ((fun i => if i < k then nShelf else zShelf) m).length = 5 := fun m => by simp only; split <;> rfl
      have c3 : wr.cell? ⟨w.heap.size, k * 5 + 3, none⟩ = some (.int .i64 0) := HO.out.cell k hlt 3 _ (by simp only [Nat.lt_irrefl, if_false]; rfl)
      have f3 := HO.out.free k hlt 3 (by omega)
      have HO2 : Hid (OwnS (wr.setCell ⟨w.heap.size, k * 5 + 3, none⟩ (.int .i64 10)) w.heap.size n 5 (fun i => if i < k + 1 then nShelf else zShelf)) := (HO.out.setOne hlt (i := 3) (by omega) hel (.int .i64 10)).congr (fun i _ => by
        by_cases e : i = k
        · subst e
          simp only [if_true, Nat.lt_irrefl, if_false]
          rw [if_pos (by omega)]
          rfl
        · simp only [if_neg e]
          by_cases e2 : i < k
          · rw [if_pos e2, if_pos (by omega)]
          · rw [if_neg e2, if_neg (by omega)])
      have HB2 : Hid (Below w.heap.size w (wr.setCell ⟨w.heap.size, k * 5 + 3, none⟩ (.int .i64 10))) := HB.out.setCell (p := ⟨w.heap.size, k * 5 + 3, none⟩) (Nat.le_refl _) _
      clear HO HB
      go_wp2
      go_roundw
      case rel => exact ⟨k + 1, by omega, by go_num, HO2, HB2⟩
      case measure => simp [intOf]; omega
    · obtain rfl : k = n := by omega
      go_wp2
      go_ret
      exact ⟨rfl, HO.out.congr (fun i hi => by simp [hi]), HB.out⟩
/-- The cells of a new group. -/
def nGroup (p : Int) (s : ByteArray) (sh : Value) : Array Value := #[.bool true, .int .i64 p, .string s, .int .i64 10, .int .i64 15, .int .i64 0, .int .i64 0, .int .i64 0, .int .i64 0, .int .i64 0, .int .i64 0, .slice none 0 0, .slice none 0 0, sh]
set_option maxHeartbeats 1000000 in
theorem newGroup_any (p : Int) (s : ByteArray) (n : Nat) (hn0 : 1 ≤ n) (hn : n ≤ 4) (w : World) :
    Calls Try.prog 12 #[.int .i64 p, .string s, .int .i64 n] w fun e w' => ∃ g, e = .returned (.agg (nGroup p s (.slice (some ⟨g, 0, none⟩) n n))) ∧ w.heap.size ≤ g ∧ OwnS w' g n 5 (fun _ => nShelf) ∧ Below w.heap.size w w' := by
  go_enter Try.func12, Try.ntmps12
  go_wp2_with fail
  refine (newShelves_any n hn0 hn _).mono ?_
  rintro e w1 ⟨rfl, ho1, hb1⟩
  have HK := Lib.hid ((Bk.new w 41 zGroup.toArray).below hb1 (by simp))
  have HO := Lib.hid ho1
  have hal : Below w.heap.size w (w.alloc (.cells zGroup.toArray 41)) := (Below.refl _ _).alloc (Nat.le_refl _) _
  have HB := Lib.hid (hal.trans (hb1.mono (by simp)))
  have hz1 := hb1.size
  simp only [World.size_alloc] at hz1 HO
  clear ho1 hb1 hal
  go_wp2_with (refine wpList_store_row rfl 41 _ _ rfl w.heap.size _ rfl rfl 41 _ HK.out (by kernel_rfl) rfl (by kernel_rfl) ?_)
  rw [show ∀ a : Act, a.put none undef = a from fun _ => rfl]
  refine bodyPost_ret (v := .agg (nGroup p s (.slice (some ⟨w.heap.size + 1, 0, none⟩) n n))) (results_cell_row rfl _ _ w.heap.size 41 _ (0, 0) _ rfl (setRow_heap _ _ _ _ _ _ HK.out) Try.underlying41 rfl (by kernel_rfl)) rfl ?_
  refine ⟨w.heap.size + 1, rfl, by omega, ?_, ?_⟩
  · exact HO.out.rowOff (by omega) _
  · exact below_setRow HB.out (Nat.le_refl _) _
theorem flat_const (k : Nat) (x : List Value) : flat (k + 1) (fun _ => x) = flat k (fun _ => x) ++ x := flat_succ k _
set_option maxHeartbeats 2000000 in
theorem l8Group_any (p : Int) (s : ByteArray) (n : Nat) (hn0 : 1 ≤ n) (hn : n ≤ 4) (w : World) :
    Calls Try.prog 10 #[.int .i64 n, .int .i64 p, .string s] w fun e w' => ∃ g c, e = .returned (.agg (nGroup p s (.slice (some ⟨g, 0, none⟩) n c))) ∧ w.heap.size ≤ g ∧ OwnS w' g n 5 (fun _ => nShelf) ∧ Below w.heap.size w w' := by
  obtain ⟨i0, hi, hz0, hz1, hz2⟩ := info_parts infoShelfW
  go_enter Try.func10, Try.ntmps10
  go_wp2
  go_loopw [8] (fun i wr => ∃ (k : Nat) (lv : Value), k ≤ n ∧ i = .int .i64 k ∧ Hid (wr.ownsRow (w.heap.size + 2) 51 5 lv k (flat k (fun _ => nShelf))) ∧ Hid (Bk wr (w.heap.size + 1) 41 (nGroup p s lv)) ∧ Hid (Bk wr w.heap.size 41 zGroup.toArray) ∧ Hid (Below w.heap.size w wr) ∧ w.heap.size + 2 ≤ wr.heap.size) (fun i _ => n - (intOf i).toNat)
  case atStart =>
    exact ⟨0, _, Nat.zero_le _, rfl, World.ownsRow_nil _ _ _ _, Bk.new' _ (w.heap.size + 1) _ _ (by simp), (Bk.new w _ _).alloc _, ((Below.refl _ w).alloc (Nat.le_refl _) _).alloc (by simp) _, by simp⟩
  case round =>
    obtain ⟨k, lv, hk, rfl, HO, HQ, HR, HB, hzr⟩ := hrel
    by_cases hlt : k < n
    · have q13 : wr.cell? ⟨w.heap.size + 1, 13, none⟩ = some lv := HQ.out.cell 13
      have qf := HQ.out.frees
      go_wp2_with (at_builtin; refine wpList_append_own _ rfl _ _ 39 rfl (w.heap.size + 2) 51 i0 (.agg #[.int .i64 0, .bool false, .int .i64 0, .int .i64 0, .int .i64 0]) 5 40 Try.underlying39 hi hz0 hz1 hz2 rfl (by decide) lv k (flat k (fun _ => nShelf)) rfl (HO.out.alloc _) ⟨wr.heap.size, 0, none⟩ 1 1 [.int .i64 0, .bool false, .int .i64 0, .int .i64 10, .int .i64 0] rfl rfl (World.news_of_block (cs := #[.int .i64 0, .bool false, .int .i64 0, .int .i64 10, .int .i64 0]) (t := 51) (fr := (0, 0)) (heap_alloc_new wr _)) ?c2 ?c3 ?c4 ?c5 ?_)
      case c2 => intro u hu; simp only [List.mem_cons, List.not_mem_nil, or_false] at hu; rcases hu with rfl | rfl | rfl | rfl | rfl <;> rfl
      case c3 => unfold maxLen; omega
      case c4 => omega
      case c5 => rw [World.size_alloc]; omega
      intro lv' w1 hown hgrow hnn
      have hrow : ∀ k, lv.ownBlock = some k → w.heap.size + 2 ≤ k := fun k hk => (HO.out.lt k hk).1
      have hb1 : Below (w.heap.size + 2) wr w1 := ((Below.refl _ wr).alloc (by omega) _).trans (below_grownW hgrow (by simp; omega) (fun k hk => by have := hrow k hk; omega))
      have hown2 : w1.ownsRow (w.heap.size + 2) 51 5 lv' (k + 1) (flat (k + 1) (fun _ => nShelf)) := by rw [flat_succ]; exact hown
      rcases owns_slice hown2 with ⟨rfl, _⟩ | ⟨b, cap, rfl, hcap⟩
      · exact absurd rfl hnn
      have hob : w.heap.size + 2 ≤ b := (hown2.lt b rfl).1
      have HQ1 := HQ.out.below hb1 (by omega)
      have j13 : w1.cell? ⟨w.heap.size + 1, 13, none⟩ = some lv := HQ1.cell 13
      have jf := HQ1.frees
      have HO2 : Hid ((w1.setCell ⟨w.heap.size + 1, 13, none⟩ (.slice (some ⟨b, 0, none⟩) (k + 1) cap)).ownsRow (w.heap.size + 2) 51 5 (.slice (some ⟨b, 0, none⟩) (k + 1) cap) (k + 1) (flat (k + 1) (fun _ => nShelf))) :=
        hown2.kept (row := some (w.heap.size + 1)) ⟨rfl, rfl, rfl, by simp, fun i hi hne => Below.heap_setCell _ _ _ _ (by simpa using hne)⟩ (.inr (by simp [Value.ownBlock]; omega))
      have HQ2 : Hid (Bk (w1.setCell ⟨w.heap.size + 1, 13, none⟩ (.slice (some ⟨b, 0, none⟩) (k + 1) cap)) (w.heap.size + 1) 41 (nGroup p s (.slice (some ⟨b, 0, none⟩) (k + 1) cap))) := HQ1.put 13 _
      have HR2 := Lib.hid ((HR.out.below hb1 (by omega)).off (p := ⟨w.heap.size + 1, 13, none⟩) (by simp) (.slice (some ⟨b, 0, none⟩) (k + 1) cap))
      have HB2 := Lib.hid ((HB.out.trans (hb1.mono (by omega))).setCell (p := ⟨w.heap.size + 1, 13, none⟩) (by simp) (.slice (some ⟨b, 0, none⟩) (k + 1) cap))
      have hz1 := hb1.size
      clear hown hgrow hnn hrow hb1 hown2 HQ1 HO HQ HR HB q13 qf
      go_wp2
      go_roundw
      case rel => exact ⟨k + 1, _, by omega, by go_num, HO2, HQ2, HR2, HB2, by simp; omega⟩
      case measure => simp [intOf]; omega
    · obtain rfl : k = n := by omega
      obtain ⟨A1, c1, rfl, hq⟩ := owns_ownQ (fun _ => rfl) HO.out
      obtain ⟨g, rfl, hg, ho⟩ := hq (by omega)
      have HG := Lib.hid ho
      clear hq ho HO
      go_wp2_with (first
        | refine wpList_load_row rfl 41 _ rfl (w.heap.size + 1) rfl 41 _ (0, 0) _ HQ.out Try.underlying41 rfl (by kernel_rfl) ?_
        | refine wpList_store_row rfl 41 _ _ rfl w.heap.size _ rfl rfl 41 _ HR.out (by kernel_rfl) rfl (by kernel_rfl) ?_)
      rw [show ∀ a : Act, a.put none undef = a from fun _ => rfl]
      refine bodyPost_ret (v := .agg (nGroup p s (.slice (some ⟨g, 0, none⟩) k c1))) (results_cell_row rfl _ _ w.heap.size 41 _ (0, 0) _ rfl (setRow_heap _ _ _ _ _ _ HR.out) Try.underlying41 rfl (by kernel_rfl)) rfl ?_
      refine ⟨g, c1, rfl, by omega, ?_, ?_⟩
      · exact HG.out.rowOff (by omega) _
      · exact below_setRow HB.out (Nat.le_refl _) _
end Go.Proofs.Ytndbmeedimhohaa

/- Queues: QueueNew of spec. -/
import Derived.Test.YtjdlfldeoinbiaaQN1Base
import Derived.Deep.RegionLaw
import Derived.Deep.AppendLies
namespace Go.Proofs.Ytjdlfldeoinbiaa
open Go.RowKit
set_option maxHeartbeats 1000000 in
theorem sQueueNew_any (A : Option Addr) (n c : Nat) (hn : (n : Int) ≤ 1048576) (f : Nat → Int) (w W : World) (hb : Below W.heap.size W w) (hA : Rw W W.heap.size A n (fun i => .int .i64 (f i))) :
    Calls Try.prog 14 #[.slice A n c] w (NewPost n f w) := by
  have HA := Lib.hid (hA.at_ hb)
  clear hA
  cases h20 : inR (n : Int) 1 20
  · have h1 : newOk n f = false := by
      cases h : newOk n f
      · rfl
      · have := newOk_b h
        rw [inR_t this.1 this.2] at h20
        cases h20
    have HN := Lib.hid h1
    clear h1
    go_enter Try.func14, Try.ntmps14
    go_wp2_with (go_at_call 24; refine (l1In_any _ _ _ _).mono ?_; rintro e w' ⟨rfl, rfl⟩)
    refine bodyPost_ret (v := .tuple #[.agg #[.int .i64 0, .int .i64 0, .int .i64 0, .slice none 0 0], .bool false]) (by simp [results, Try.results14, go_sem]) rfl ?_
    exact NewPost.no HN.out (by go_grown)
  obtain ⟨g1, g2⟩ := inR_iff.1 h20
  obtain ⟨i0, hi, hz0, hz1, hz2⟩ := info_parts infoEntry
  go_enter Try.func14, Try.ntmps14
  go_wp2_with (go_at_call 24; refine (l1In_any _ _ _ _).mono ?_; rintro e w' ⟨rfl, rfl⟩)
  go_loopw [5] (fun i wr => ∃ (k : Nat) (lv : Value), k ≤ n ∧ i = .int .i64 k ∧ Hid (wr.ownsRow (w.heap.size + 2) 49 4 lv k (flat k (newEl f))) ∧ Hid (Bk wr (w.heap.size + 1) 29 #[.int .i64 0, .int .i64 (-1), .int .i64 0, lv]) ∧ Hid (Bk wr w.heap.size 29 #[.int .i64 0, .int .i64 0, .int .i64 0, .slice none 0 0]) ∧ Hid (Below w.heap.size w wr) ∧ w.heap.size + 2 ≤ wr.heap.size) (fun i _ => n - (intOf i).toNat)
  case atStart =>
    exact ⟨0, _, Nat.zero_le _, rfl, World.ownsRow_nil _ _ _ _, Bk.new' _ (w.heap.size + 1) _ _ (by simp), (Bk.new w _ _).alloc _, ((Below.refl _ w).alloc (Nat.le_refl _) _).alloc (by simp) _, by simp⟩
  case round =>
    obtain ⟨k, lv, hk, rfl, HO, HQ, HR, HB, hzr⟩ := hrel
    by_cases hlt : k < n
    · obtain ⟨ga, oa, rfl, hga, hca⟩ := HA.out (by omega)
      have d0 := (HB.out.cell (p := ⟨ga, oa + k, none⟩) hga).trans (hca k hlt)
      obtain ⟨q0, q1, q2, q3⟩ := HQ.out.four
      have qf := HQ.out.frees
      clear hca
      have hb0 : (0 : Int) ≤ (k : Int) := by omega
      have hb1 : (k : Int) < (n : Int) := by omega
      have hb0 : (0 : Int) ≤ (k : Int) := by omega
      have hb1 : (k : Int) < (n : Int) := by omega
      have q3a : ∀ o, (wr.alloc o).cell? ⟨w.heap.size + 1, 3, none⟩ = some lv := fun o => (HQ.out.alloc o).four.2.2.2
      go_wp2
      go_region_law ((refine step_append_lies _ (by rfl) _ _ 27 (by rfl) (w.heap.size + 2) 49 i0 (.agg #[.bool false, .int .i64 0, .int .i64 0, .int .i64 0]) 4 32 Try.underlying27 hi hz0 hz1 hz2 rfl (by decide) lv k (flat k (newEl f)) (by rfl) ((HO.out.alloc _).drew) ⟨wr.heap.size, 0, none⟩ 1 1 [.bool false, .int .i64 0, .int .i64 (f k), .int .i64 0] (by rfl) (by rfl) (World.news_of_block (cs := #[.bool false, .int .i64 0, .int .i64 (f k), .int .i64 0]) (t := 49) (fr := (0, 0)) (heap_alloc_new wr _)) (by simp [Value.oneCell']) (by omega) (by unfold maxLen; omega) (by omega) (by simp; omega) (wr.heap.size + 1) (by simp) ?_; intro b cap w1 hown hgrow hat hbl; have hbw : Below (w.heap.size + 2) wr w1 := (((Below.refl _ wr).alloc hzr _).drew).trans (below_grown2 hgrow (by simp; omega) (fun k hk => (HO.out.lt k hk).1)); have jf := (HQ.out.below hbw (by omega)).frees; have j3 := ((HQ.out.below hbw (by omega)).four).2.2.2; have HOWN := Lib.hid hown; have HBW := Lib.hid hbw; clear hown hgrow hbw))
      all_goals
        have hown2 : w1.ownsRow (w.heap.size + 2) 49 4 (.slice (some ⟨b, 0, none⟩) (k + 1) cap) (k + 1) (flat (k + 1) (newEl f)) := by rw [flat_succ]; exact HOWN.out
        have hob : w.heap.size + 2 ≤ b := (hown2.lt b rfl).1
        have HQ1 := HQ.out.below HBW.out (by omega)
        have HO2 : Hid ((w1.setCell ⟨w.heap.size + 1, 3, none⟩ (.slice (some ⟨b, 0, none⟩) (k + 1) cap)).ownsRow (w.heap.size + 2) 49 4 (.slice (some ⟨b, 0, none⟩) (k + 1) cap) (k + 1) (flat (k + 1) (newEl f))) :=
          hown2.kept (row := some (w.heap.size + 1)) ⟨rfl, rfl, rfl, by simp, fun i hi hne => Below.heap_setCell _ _ _ _ (by simpa using hne)⟩ (.inr (by simp [Value.ownBlock]; omega))
        have HQ2 : Hid (Bk (w1.setCell ⟨w.heap.size + 1, 3, none⟩ (.slice (some ⟨b, 0, none⟩) (k + 1) cap)) (w.heap.size + 1) 29 #[.int .i64 0, .int .i64 (-1), .int .i64 0, .slice (some ⟨b, 0, none⟩) (k + 1) cap]) := HQ1.put 3 _
        have HR2 := Lib.hid ((HR.out.below HBW.out (by omega)).off (p := ⟨w.heap.size + 1, 3, none⟩) (by simp) (.slice (some ⟨b, 0, none⟩) (k + 1) cap))
        have HB2 := Lib.hid ((HB.out.trans (HBW.out.mono (by omega))).setCell (p := ⟨w.heap.size + 1, 3, none⟩) (by simp) (.slice (some ⟨b, 0, none⟩) (k + 1) cap))
        have hz1 := HBW.out.size
        clear hown2 HQ1 HO HQ HR HB q0 q1 q2 q3 qf d0 q3a
        go_wp2
        go_roundw
        case rel => exact ⟨k + 1, _, by omega, by go_num, HO2, HQ2, HR2, HB2, by simp; omega⟩
        case measure => simp [intOf]; omega
    · obtain rfl : k = n := by omega
      obtain ⟨A1, c1, rfl, hq⟩ := owns_ownQ (newEl_len f) HO.out
      have HW := HB.out
      have HQQ := Lib.hid hq
      have HRS := Lib.hid hq.rs
      clear hq HW
      go_wp2_with (refine wpList_load_row rfl 29 _ rfl (w.heap.size + 1) rfl 29 _ (0, 0) _ HQ.out Try.underlying29 rfl (by kernel_rfl) ?_)
      refine (sQueueOk_any 0 (-1) 0 A1 k c1 (by omega) (fun _ => false) (fun _ => 0) f (fun _ => 0) _ wr (Below.refl _ _) HRS.out).mono ?_
      rintro e w1 ⟨rfl, hb1⟩
      have HQ1 := Lib.hid (HQ.out.below hb1 (by omega))
      have hr1 := HR.out.below hb1 (by omega)
      obtain ⟨r0, r1, r2, r3⟩ := hr1.four
      have rf := hr1.frees
      have HR1 := Lib.hid hr1
      have HB1 := Lib.hid (bel HB.out hb1)
      have HQ2 := Lib.hid (HQQ.out.below hb1 (Nat.le_refl _))
      have hz1 := hb1.size
      clear hb1 hr1
      cases h0 : newOk k f
      · have HN := Lib.hid h0
        have h0' : queueOk 0 (-1) 0 k (fun _ => false) (fun _ => 0) f (fun _ => 0) = false := h0
        rw [h0']
        clear h0 h0'
        go_wp2
        refine bodyPost_ret (v := .tuple #[.agg #[.int .i64 0, .int .i64 0, .int .i64 0, .slice none 0 0], .bool false]) (by simp [results, Try.results14, go_sem, r0, r1, r2, r3]) rfl ?_
        exact NewPost.no HN.out (by have hB1 := HB1.out; go_grown)
      · have HN := Lib.hid h0
        have h0' : queueOk 0 (-1) 0 k (fun _ => false) (fun _ => 0) f (fun _ => 0) = true := h0
        rw [h0']
        clear h0 h0'
        go_wp2_with (refine wpList_load_row rfl 29 _ rfl (w.heap.size + 1) rfl 29 _ (0, 0) _ HQ1.out Try.underlying29 rfl (by kernel_rfl) ?_)
        have hq2 := ((((HQ2.out.off (p := ⟨w.heap.size, 0, none⟩) (by simp) (.int .i64 0)).off (p := ⟨w.heap.size, 1, none⟩) (by simp) (.int .i64 (-1))).off (p := ⟨w.heap.size, 2, none⟩) (by simp) (.int .i64 0)).off (p := ⟨w.heap.size, 3, none⟩) (by simp) (.slice A1 k c1)).more (by omega : w.heap.size ≤ w.heap.size + 2)
        refine bodyPost_ret (v := .tuple #[.agg #[.int .i64 0, .int .i64 (-1), .int .i64 0, .slice A1 k c1], .bool true]) (by simp [results, Try.results14, go_sem, r0, r1, r2, r3]) rfl ?_
        exact NewPost.yes HN.out (by have hB1 := HB1.out; go_grown) hq2
end Go.Proofs.Ytjdlfldeoinbiaa

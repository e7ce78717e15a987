/- Queues: marks on a queue; QueueNew of impl and spec. -/
import Derived.Test.YtjdlfldeoinbiaaK2Base
import Derived.Test.YtjdlfldeoinbiaaQ6Base
import Derived.Laws.AppendOwn
import Derived.Deep.AppendLies
import Derived.Deep.RegionHeld3
namespace Go.Proofs.Ytjdlfldeoinbiaa
open Go.RowKit
set_option maxHeartbeats 400000 in
theorem markQueue_any (fl cu ra : Int) (A : Option Addr) (n c B : Nat) (k : Int) (h0 : 0 ≤ k) (hk : k ≤ 1000000) (hn : n ≤ 1048576) (el : Nat → List Value) (hel : ∀ i, (el i).length = 4) (w : World) (hA : OwnQ w B A n 4 el) :
    Calls Try.prog 19 #[.agg #[.int .i64 fl, .int .i64 cu, .int .i64 ra, .slice A n c], .int .i64 k] w fun e w' => e = .returned (.int .i64 (k + 4 * n)) ∧ Kept (fun b => 0 < n ∧ B ≤ b ∧ hd A b) w w' ∧ OwnQ w' B A n 4 (fun i => markEEntry (k + 4 * i)) := by
  have HA := Lib.hid (hA.below ((Below.refl _ w).alloc (Nat.le_refl _) (.cells #[.int .i64 fl, .int .i64 cu, .int .i64 ra, .slice A n c] 29)) (Nat.le_refl B))
  clear hA
  go_enter Try.func19, Try.ntmps19
  go_wp2_with (go_at_call 38; refine (markEntryS_any A n c B k h0 (by omega) hn el hel _ HA.out).mono ?_; rintro e w1 ⟨rfl, hk1, ho1⟩; have HK1 := Lib.hid hk1; have HO1 := Lib.hid ho1; clear hk1 ho1)
  go_ret
  exact ⟨rfl, (Kept.of ((Below.refl _ w).alloc (Nat.le_refl _) _)).trans HK1.out, HO1.out⟩
set_option maxHeartbeats 400000 in
theorem heldQueue_any (fl cu ra : Int) (A : Option Addr) (n c : Nat) (k : Int) (h0 : 0 ≤ k) (hk : k ≤ 1000000) (hn : n ≤ 1048576) (w W : World) (hb : Below W.heap.size W w) (hA : Rs W W.heap.size A n 4 (fun i => markEEntry (k + 4 * i))) :
    Calls Try.prog 20 #[.agg #[.int .i64 fl, .int .i64 cu, .int .i64 ra, .slice A n c], .int .i64 k] w fun e w' => e = .returned (.int .i64 (k + 4 * n)) ∧ Below w.heap.size w w' := by
  have HA := Lib.hid (hA.at_ hb)
  clear hA
  have hp : 0 ≤ k + 4 * n := by omega
  go_enter Try.func20, Try.ntmps20
  go_wp2_with (go_at_call 39; refine (heldEntryS_any A n c k h0 (by omega) hn _ w ((Below.refl _ w).alloc (Nat.le_refl _) _) HA.out).mono ?_; rintro e w1 ⟨rfl, rfl⟩)
  go_ret
  exact ⟨rfl, (Below.refl _ w).alloc (Nat.le_refl _) _⟩
/-- What QueueNew makes: its entries. -/
def newEl (f : Nat → Int) : Nat → List Value := ent (fun _ => false) (fun _ => 0) f (fun _ => 0)
theorem newEl_len (f : Nat → Int) (i : Nat) : (newEl f i).length = 4 := rfl
def newOk (n : Nat) (f : Nat → Int) : Bool := queueOk 0 (-1) 0 n (fun _ => false) (fun _ => 0) f (fun _ => 0)
theorem newOk_b {n : Nat} {f : Nat → Int} (h : newOk n f = true) : 1 ≤ (n : Int) ∧ (n : Int) ≤ 20 := by
  obtain ⟨a1, a2, _⟩ := queueOk_facts h
  exact ⟨a1, a2⟩
def newN (n : Nat) (f : Nat → Int) : Nat := if newOk n f = true then n else 0
def newC (n : Nat) (f : Nat → Int) : Int := if newOk n f = true then -1 else 0
theorem newN_no {n : Nat} {f : Nat → Int} (h : newOk n f = false) : newN n f = 0 ∧ newC n f = 0 := by simp [newN, newC, h]
theorem newN_yes {n : Nat} {f : Nat → Int} (h : newOk n f = true) : newN n f = n ∧ newC n f = -1 := by simp [newN, newC, h]
/-- What QueueNew returns, and what of it lies in memory. -/
def NewPost (n : Nat) (f : Nat → Int) (w : World) (e : Ending) (w' : World) : Prop :=
  ∃ A c, e = .returned (.tuple #[.agg #[.int .i64 0, .int .i64 (newC n f), .int .i64 0, .slice A (newN n f) c], .bool (newOk n f)]) ∧ OwnQ w' w.heap.size A (newN n f) 4 (newEl f) ∧ Below w.heap.size w w'
theorem NewPost.no {n : Nat} {f : Nat → Int} {w w' : World} (h : newOk n f = false) (hb : Below w.heap.size w w') :
    NewPost n f w (.returned (.tuple #[.agg #[.int .i64 0, .int .i64 0, .int .i64 0, .slice none 0 0], .bool false])) w' := by
  obtain ⟨h1, h2⟩ := newN_no h
  exact ⟨none, 0, by rw [h1, h2, h], by rw [h1]; exact fun h => absurd h (by omega), hb⟩
theorem NewPost.yes {n : Nat} {f : Nat → Int} {w w' : World} {A : Option Addr} {c : Nat} (h : newOk n f = true) (hb : Below w.heap.size w w') (ho : OwnQ w' w.heap.size A n 4 (newEl f)) :
    NewPost n f w (.returned (.tuple #[.agg #[.int .i64 0, .int .i64 (-1), .int .i64 0, .slice A n c], .bool true])) w' := by
  obtain ⟨h1, h2⟩ := newN_yes h
  exact ⟨A, c, by rw [h1, h2, h], by rw [h1]; exact ho, hb⟩
theorem infoEntry : (Try.prog.info? 49).map (fun i => (i.zero, i.size, i.bytes)) = some (some (.agg #[.bool false, .int .i64 0, .int .i64 0, .int .i64 0]), 4, 32) := by kernel_rfl
theorem below_grown2 {w w' : World} {row : Option Nat} {B : Nat} (h : w.grownBy w' row) (hB : B ≤ w.heap.size) (hr : ∀ k, row = some k → B ≤ k) : Below B w w' :=
  ⟨h.os, h.tape, h.output, h.size, fun k hk => h.block k (Nat.lt_of_lt_of_le hk hB) (fun e => absurd (hr k e.symm) (by omega))⟩
set_option maxHeartbeats 1000000 in
theorem iQueueNew_any (A : Option Addr) (n c : Nat) (hn : (n : Int) ≤ 1048576) (f : Nat → Int) (w W : World) (hb : Below W.heap.size W w) (hA : Rw W W.heap.size A n (fun i => .int .i64 (f i))) :
    Calls Try.prog 16 #[.slice A n c] w (NewPost n f w) := by
  have HA := Lib.hid (hA.at_ hb)
  clear hA
  by_cases h20 : (n : Int) > 20
  · have h1 : newOk n f = false := by
      cases h : newOk n f
      · rfl
      · have := newOk_b h
        omega
    have HN := Lib.hid h1
    clear h1
    go_enter Try.func16, Try.ntmps16
    go_wp2
    refine bodyPost_ret (v := .tuple #[.agg #[.int .i64 0, .int .i64 0, .int .i64 0, .slice none 0 0], .bool false]) (by simp [results, Try.results16, go_sem]) rfl ?_
    exact NewPost.no HN.out (by go_grown)
  obtain ⟨i0, hi, hz0, hz1, hz2⟩ := info_parts infoEntry
  go_enter Try.func16, Try.ntmps16
  go_wp2
  go_loopw [14] (fun i wr => ∃ (k : Nat) (lv : Value), k ≤ n ∧ i = .int .i64 k ∧ Hid (wr.ownsRow (w.heap.size + 2) 49 4 lv k (flat k (newEl f))) ∧ Hid (Bk wr (w.heap.size + 1) 29 #[.int .i64 0, .int .i64 (-1), .int .i64 0, lv]) ∧ Hid (Bk wr w.heap.size 29 #[.int .i64 0, .int .i64 0, .int .i64 0, .slice none 0 0]) ∧ Hid (Below w.heap.size w wr) ∧ w.heap.size + 2 ≤ wr.heap.size) (fun i _ => n - (intOf i).toNat)
  case atStart =>
    exact ⟨0, _, Nat.zero_le _, rfl, World.ownsRow_nil _ _ _ _, Bk.new' _ (w.heap.size + 1) _ _ (by simp), (Bk.new w _ _).alloc _, ((Below.refl _ w).alloc (Nat.le_refl _) _).alloc (by simp) _, by simp⟩
  case round =>
    obtain ⟨k, lv, hk, rfl, HO, HQ, HR, HB, hzr⟩ := hrel
    by_cases hlt : k < n
    · obtain ⟨ga, oa, rfl, hga, hca⟩ := HA.out (by omega)
      have d0 := (HB.out.cell (p := ⟨ga, oa + k, none⟩) hga).trans (hca k hlt)
      obtain ⟨q0, q1, q2, q3⟩ := HQ.out.four
      have qf := HQ.out.frees
      clear hca
      go_wp2_with (at_builtin; refine wpList_append_own _ rfl _ _ 27 rfl (w.heap.size + 2) 49 i0 (.agg #[.bool false, .int .i64 0, .int .i64 0, .int .i64 0]) 4 32 Try.underlying27 hi hz0 hz1 hz2 rfl (by decide) lv k (flat k (newEl f)) rfl (HO.out.alloc _) ⟨wr.heap.size, 0, none⟩ 1 1 [.bool false, .int .i64 0, .int .i64 (f k), .int .i64 0] rfl rfl (World.news_of_block (cs := #[.bool false, .int .i64 0, .int .i64 (f k), .int .i64 0]) (t := 49) (fr := (0, 0)) (heap_alloc_new wr _)) ?c2 ?c3 ?c4 ?c5 ?_)
      case c2 => exact ⟨rfl, rfl, rfl, rfl⟩
      case c3 => unfold maxLen; omega
      case c4 => omega
      case c5 => omega
      intro lv' w1 hown hgrow hnn
      have hrow : ∀ k, lv.ownBlock = some k → w.heap.size + 2 ≤ k := fun k hk => (HO.out.lt k hk).1
      have hb1 : Below (w.heap.size + 2) wr w1 := ((Below.refl _ wr).alloc (by omega) _).trans (below_grown2 hgrow (by simp; omega) (fun k hk => by have := hrow k hk; omega))
      have hown2 : w1.ownsRow (w.heap.size + 2) 49 4 lv' (k + 1) (flat (k + 1) (newEl f)) := by rw [flat_succ]; exact hown
      rcases owns_slice hown2 with ⟨rfl, _⟩ | ⟨b, cap, rfl, hcap⟩
      · exact absurd rfl hnn
      have hob : w.heap.size + 2 ≤ b := (hown2.lt b rfl).1
      have HQ1 := HQ.out.below hb1 (by omega)
      obtain ⟨j0, j1, j2, j3⟩ := HQ1.four
      have jf := HQ1.frees
      have HO2 : Hid ((w1.setCell ⟨w.heap.size + 1, 3, none⟩ (.slice (some ⟨b, 0, none⟩) (k + 1) cap)).ownsRow (w.heap.size + 2) 49 4 (.slice (some ⟨b, 0, none⟩) (k + 1) cap) (k + 1) (flat (k + 1) (newEl f))) :=
        hown2.kept (row := some (w.heap.size + 1)) ⟨rfl, rfl, rfl, by simp, fun i hi hne => Below.heap_setCell _ _ _ _ (by simpa using hne)⟩ (.inr (by simp [Value.ownBlock]; omega))
      have HQ2 : Hid (Bk (w1.setCell ⟨w.heap.size + 1, 3, none⟩ (.slice (some ⟨b, 0, none⟩) (k + 1) cap)) (w.heap.size + 1) 29 #[.int .i64 0, .int .i64 (-1), .int .i64 0, .slice (some ⟨b, 0, none⟩) (k + 1) cap]) := HQ1.put 3 _
      have HR2 := Lib.hid ((HR.out.below hb1 (by omega)).off (p := ⟨w.heap.size + 1, 3, none⟩) (by simp) (.slice (some ⟨b, 0, none⟩) (k + 1) cap))
      have HB2 := Lib.hid ((HB.out.trans (hb1.mono (by omega))).setCell (p := ⟨w.heap.size + 1, 3, none⟩) (by simp) (.slice (some ⟨b, 0, none⟩) (k + 1) cap))
      have hz1 := hb1.size
      clear hown hgrow hnn hrow hb1 hown2 HQ1 HO HQ HR HB q0 q1 q2 q3 qf d0
      go_wp2
      go_roundw
      case rel => exact ⟨k + 1, _, by omega, by go_num, HO2, HQ2, HR2, HB2, by simp; omega⟩
      case measure => simp [intOf]; omega
    · obtain rfl : k = n := by omega
      obtain ⟨A1, c1, rfl, hq⟩ := owns_ownQ (newEl_len f) HO.out
      have HW := HB.out
      have HQQ := Lib.hid hq
      have HRS := Lib.hid hq.rs
      clear hq HW
      go_wp2_with (refine wpList_load_row rfl 29 _ rfl (w.heap.size + 1) rfl 29 _ (0, 0) _ HQ.out Try.underlying29 rfl (by kernel_rfl) ?_)
      refine (iQueueOk_any 0 (-1) 0 A1 k c1 (by omega) (fun _ => false) (fun _ => 0) f (fun _ => 0) _ wr (Below.refl _ _) HRS.out).mono ?_
      rintro e w1 ⟨rfl, hb1⟩
      have HQ1 := Lib.hid (HQ.out.below hb1 (by omega))
      have hr1 := HR.out.below hb1 (by omega)
      obtain ⟨r0, r1, r2, r3⟩ := hr1.four
      have rf := hr1.frees
      have HR1 := Lib.hid hr1
      have HB1 := Lib.hid (bel HB.out hb1)
      have HQ2 := Lib.hid (HQQ.out.below hb1 (Nat.le_refl _))
      have hz1 := hb1.size
      clear hb1 hr1
      cases h0 : newOk k f
      · have HN := Lib.hid h0
        have h0' : queueOk 0 (-1) 0 k (fun _ => false) (fun _ => 0) f (fun _ => 0) = false := h0
        rw [h0']
        clear h0 h0'
        go_wp2
        refine bodyPost_ret (v := .tuple #[.agg #[.int .i64 0, .int .i64 0, .int .i64 0, .slice none 0 0], .bool false]) (by simp [results, Try.results16, go_sem, r0, r1, r2, r3]) rfl ?_
        exact NewPost.no HN.out (by have hB1 := HB1.out; go_grown)
      · have HN := Lib.hid h0
        have h0' : queueOk 0 (-1) 0 k (fun _ => false) (fun _ => 0) f (fun _ => 0) = true := h0
        rw [h0']
        clear h0 h0'
        go_wp2_with (refine wpList_load_row rfl 29 _ rfl (w.heap.size + 1) rfl 29 _ (0, 0) _ HQ1.out Try.underlying29 rfl (by kernel_rfl) ?_)
        have hq2 := ((((HQ2.out.off (p := ⟨w.heap.size, 0, none⟩) (by simp) (.int .i64 0)).off (p := ⟨w.heap.size, 1, none⟩) (by simp) (.int .i64 (-1))).off (p := ⟨w.heap.size, 2, none⟩) (by simp) (.int .i64 0)).off (p := ⟨w.heap.size, 3, none⟩) (by simp) (.slice A1 k c1)).more (by omega : w.heap.size ≤ w.heap.size + 2)
        refine bodyPost_ret (v := .tuple #[.agg #[.int .i64 0, .int .i64 (-1), .int .i64 0, .slice A1 k c1], .bool true]) (by simp [results, Try.results16, go_sem, r0, r1, r2, r3]) rfl ?_
        exact NewPost.yes HN.out (by have hB1 := HB1.out; go_grown) hq2
end Go.Proofs.Ytjdlfldeoinbiaa

/- The iterator over the members of a set (a range over a function, walked inside the wide fence), MaskFirst, MaskCount of impl and spec. -/
import Derived.Test.YtclepnpdkmcaeaaDoorS3Base
import Derived.Test.YtclepnpdkmcaeaaDoorMem
import Derived.RangeFuncNested
import Derived.RangeFuncBound
import Derived.RangeFuncCalls
import Derived.RangeFuncLeaves
import Derived.Shelf.Abstract
import Derived.Shelf.RegionOpen
import Derived.OwnWalkIn
import Derived.TacticsInMore
import Derived.LoopNIn
import Derived.LoopIn
namespace Go.Proofs.YtclepnpdkmcaeaaDoor
open Go.RowKit Go.Shelf
attribute [local go_sem] Oper.semAt_some

theorem cell_new_l (W : World) (v : Value) (t : TypeId) : (W.alloc (.cells #[v] t)).cell? ⟨W.heap.size, 0, none⟩ = some v ∧ (W.alloc (.cells #[v] t)).frozen? ⟨W.heap.size, 0, none⟩ = false := by
  have h := Bk.new W t #[v]
  exact ⟨h.cell 0, h.free 0⟩
theorem cell_alloc_l {W : World} {a : Addr} {v : Value} (o : Obj) (h : W.cell? a = some v) : (W.alloc o).cell? a = some v := cell_kept h (World.grownBy_alloc W o none) (fun r e => by cases e)
theorem frozen_alloc_l {W : World} {a : Addr} {v : Value} (o : Obj) (h : W.cell? a = some v) (hf : W.frozen? a = false) : (W.alloc o).frozen? a = false := (frozen_kept h (World.grownBy_alloc W o none) (fun r e => by cases e)).trans hf

/-- What a round must keep for the iterator: the cell in which it holds its set. -/
def KeepCell (b : Nat) (W W' : World) : Prop := ∀ v, W.cell? ⟨b, 0, none⟩ = some v → W'.cell? ⟨b, 0, none⟩ = some v
theorem keepCell_t {b : Nat} {A B C : World} (h : KeepCell b A B) (k : KeepCell b B C) : KeepCell b A C := fun v hv => k v (h v hv)
theorem keepCell_b {b n : Nat} (W : World) (l : Nat) (o o' : Obj) (_ : n ≤ l) (h : W.heap[l]? = some o) (ho : o.isCells = false) (_ : o.isWalk = false) : KeepCell b W (W.putObj l o') :=
  fun _ hv => cell_kept hv (grownBy_putObj' W l o') (fun r e => by cases e; exact ⟨o, h, ho⟩)
theorem keepCell_set {b : Nat} (W : World) (p : Addr) (u : Value) (hp : b ≠ p.block) : KeepCell b W (W.setCell p u) := fun v hv => by
  rw [World.cell?_setCell_other _ _ _ _ (fun e => by subst e; exact hp rfl)]
  exact hv

/-- The members below k, ascending. -/
def memb (m : Int) : Nat → List Int
  | 0 => []
  | k + 1 => memb m k ++ (if maskHas m k then [(k : Int)] else [])
def membI (m k : Int) : List Int := memb m k.toNat
theorem membI_t (m k : Int) (h : 0 ≤ k) (hm : maskHas m k = true) : membI m (k + 1) = membI m k ++ [k] := by
  unfold membI
  rw [show (k + 1).toNat = k.toNat + 1 by omega]
  simp only [memb]
  rw [show ((k.toNat : Nat) : Int) = k by omega, if_pos hm]
theorem membI_f (m k : Int) (h : 0 ≤ k) (hm : maskHas m k = false) : membI m (k + 1) = membI m k := by
  unfold membI
  rw [show (k + 1).toNat = k.toNat + 1 by omega]
  simp only [memb]
  rw [show ((k.toNat : Nat) : Int) = k by omega, hm]
  simp
theorem memb_len (m : Int) (k : Nat) : (memb m k).length ≤ k := by
  induction k with
  | zero => simp [memb]
  | succ k ih => simp only [memb]; split <;> simp <;> omega
theorem membI_len (m k : Int) : (membI m k).length ≤ k.toNat := memb_len m k.toNat
theorem memb_pre (m : Int) (k j : Nat) (h : k ≤ j) : memb m k <+: memb m j := by
  induction j with
  | zero =>
    obtain rfl : k = 0 := by omega
    exact List.prefix_refl _
  | succ j ih =>
    by_cases e : k = j + 1
    · subst e; exact List.prefix_refl _
    · exact (ih (by omega)).trans (List.prefix_append _ _)
theorem membI_pre (m k j : Int) (h : k ≤ j) : membI m k <+: membI m j := memb_pre m _ _ (by omega)

set_option maxHeartbeats 1000000 in
theorem members1_in (n : Nat) (hn : 1 ≤ n) (l Bn : Nat) (m : Int) (J Jx : List Int → World → Prop)
    (hY : ∀ pre x W, J pre W → pre.length < 4 → YieldAt Fence.wide (n - 1) Tryd.prog l #[.int .i64 x] W fun e W' =>
      (e = .returned (.bool true) ∧ J (pre ++ [x]) W' ∧ KeepCell Bn W W') ∨ (e = .returned (.bool false) ∧ Jx (pre ++ [x]) W'))
    (W : World) (hBn : W.cell? ⟨Bn, 0, none⟩ = some (.int .i64 m)) (h0 : J [] W) :
    CallsIn Fence.wide n Tryd.prog 28 #[.func (.yield l) #[] #[], .pointer (some ⟨Bn, 0, none⟩)] W fun e W' => (∃ v, e = .returned v) ∧
      ((∃ ys, ys = membI m 4 ∧ J ys W') ∨ (∃ pre, pre <+: membI m 4 ∧ Jx pre W')) := by
  refine callsIn_of_wp Tryd.func28 rfl trivial ?_ rfl
  simp only [Tryd.ntmps28, List.size_toArray, List.length_cons, List.length_nil, Nat.reduceAdd, Nat.reduceSub, Array.replicate_succ, Array.replicate_zero, List.push_toArray, List.append_toArray, List.nil_append, List.cons_append]
  gi_wp2
  gi_loopw [4] (fun i wr => ∃ k : Int, 0 ≤ k ∧ k ≤ 4 ∧ i = .int .i64 k ∧ wr.cell? ⟨Bn, 0, none⟩ = some (.int .i64 m) ∧ J (membI m k) wr) (fun i _ => (4 - intOf i).toNat)
  case atStart => exact ⟨0, by omega, by omega, rfl, hBn, h0⟩
  case round =>
    obtain ⟨k, hk0, hk, rfl, hc, hJ⟩ := hrel
    by_cases hlt : k < 4
    · cases hm : maskHas m k
      · have HS := Lib.hid (membI_f m k hk0 hm)
        gi_wp2_with (refine ⟨trivial, ?_⟩; gi_at_call 21; refine (callsIn_wide.2 (cpuSetHas_any _ _ _)).mono ?_; rintro e w' ⟨rfl, rfl⟩)
        refine ⟨fun _ h => (by cases h), ?_⟩
        gi_wp2
        go_roundw
        case rel => exact ⟨k + 1, by omega, by omega, rfl, hc, by rw [HS.out]; exact hJ⟩
        case measure => simp [intOf]; omega
      · have HS := Lib.hid (membI_t m k hk0 hm)
        have hl := membI_len m k
        obtain ⟨fn, tmps, assign, body, hy, hR⟩ := hY (membI m k) k wr hJ (by omega)
        gi_wp2_with (refine ⟨trivial, ?_⟩; gi_at_call 21; refine (callsIn_wide.2 (cpuSetHas_any _ _ _)).mono ?_; rintro e w' ⟨rfl, rfl⟩)
        refine hR.mono ?_
        rintro e W3 (⟨rfl, hJ3, hk3⟩ | ⟨rfl, hJx3⟩)
        · have hc3 := hk3 _ hc
          gi_wp2
          go_roundw
          case rel => exact ⟨k + 1, by omega, by omega, rfl, hc3, by rw [HS.out]; exact hJ3⟩
          case measure => simp [intOf]; omega
        · gi_wp2
          refine bodyPost_ret (results_none rfl _ _ _) rfl ?_
          exact ⟨⟨_, rfl⟩, .inr ⟨membI m k ++ [k], by rw [← HS.out]; exact membI_pre m _ _ (by omega), hJx3⟩⟩
    · obtain rfl : k = 4 := by omega
      gi_wp2
      go_end0
      exact ⟨⟨_, rfl⟩, .inl hJ⟩

theorem members_stops (n : Nat) (hn : 1 ≤ n) (Bn : Nat) (m : Int) (w : World) (hBn : Bn < w.heap.size) (hc : w.cell? ⟨Bn, 0, none⟩ = some (.int .i64 m)) :
    SeqStopsK Fence.wide n Tryd.prog 28 #[.pointer (some ⟨Bn, 0, none⟩)] (fun x : Int => #[Value.int .i64 x]) (KeepCell Bn) (fun ys => ys = membI m 4) (fun pre => pre <+: membI m 4) 4 w := fun l J Jx W hW _ _ hY h0 =>
  members1_in n hn l Bn m J Jx hY W ((hW.cell (p := ⟨Bn, 0, none⟩) hBn).trans hc) h0

theorem members_in (n : Nat) (m : Int) (w : World) :
    CallsIn Fence.wide n Tryd.prog 20 #[.int .i64 m] w fun e w' => e = .returned (.func (.func 28) #[] #[.pointer (some ⟨w.heap.size, 0, none⟩)]) ∧ w' = w.alloc (.cells #[.int .i64 m] 35) := by
  refine callsIn_of_wp Tryd.func20 rfl trivial ?_ rfl
  simp only [Tryd.ntmps20, List.size_toArray, List.length_cons, List.length_nil, Nat.reduceAdd, Nat.reduceSub, Array.replicate_succ, Array.replicate_zero, List.push_toArray, List.append_toArray, List.nil_append, List.cons_append]
  gi_wp2
  go_ret
  exact ⟨rfl, rfl⟩

theorem first_memb (m : Int) (x : Int) (h : [x] <+: membI m 4) : maskFirst m = x := by
  have e : membI m 4 = memb m 4 := rfl
  rw [e] at h
  simp only [memb] at h
  unfold maskFirst
  cases h0 : maskHas m 0 <;> cases h1 : maskHas m 1 <;> cases h2 : maskHas m 2 <;> cases h3 : maskHas m 3 <;> simp [h0, h1, h2, h3] at h ⊢ <;> omega
theorem first_none (m : Int) (h : membI m 4 = []) : maskFirst m = -1 := by
  have e : membI m 4 = memb m 4 := rfl
  rw [e] at h
  simp only [memb] at h
  unfold maskFirst
  cases h0 : maskHas m 0 <;> cases h1 : maskHas m 1 <;> cases h2 : maskHas m 2 <;> cases h3 : maskHas m 3 <;> simp [h0, h1, h2, h3] at h ⊢
theorem count_memb (m : Int) : maskCount m = (membI m 4).length := by
  have e : membI m 4 = memb m 4 := rfl
  rw [e]
  unfold maskCount
  have : ∀ k, cntUp m k = ((memb m k).length : Int) := by
    intro k
    induction k with
    | zero => rfl
    | succ k ih =>
      simp only [memb, cntUp, ih]
      cases maskHas m k <;> simp [bitIf]
  exact this 4

set_option maxRecDepth 100000 in
set_option maxHeartbeats 1000000 in
theorem iMaskFirst_any (m : Int) (w W : World) (hb : Below W.heap.size W w) :
    Calls Tryd.prog 15 #[.int .i64 m] w fun e w' => e = .returned (.int .i64 (maskFirst m)) ∧ Below W.heap.size W w' := by
  refine (callsIn_wide (n := 3)).1 ?_
  refine callsIn_of_wp_marks Tryd.func15 rfl trivial ?_ rfl
  simp only [Tryd.ntmps15, List.size_toArray, List.length_cons, List.length_nil, Nat.reduceAdd, Nat.reduceSub, Array.replicate_succ, Array.replicate_zero, List.push_toArray, List.append_toArray, List.nil_append, List.cons_append]
  gi_wp2_with (refine ⟨trivial, ?_⟩; gi_at_call 20; refine (members_in _ _ _).mono ?_; rintro e w' ⟨rfl, rfl⟩)
  have c0 := cell_new_l w (.int .i64 0) 3
  have c1 := cell_new_l (w.alloc (.cells #[.int .i64 0] 3)) (.int .i64 m) 35
  simp only [World.size_alloc] at c1
  have hB0 : Below w.heap.size w ((w.alloc (.cells #[.int .i64 0] 3)).alloc (.cells #[.int .i64 m] 35)) := ((Below.refl _ w).alloc (Nat.le_refl _) _).alloc (by simp) _
  refine wpIn_rangeFunc_ownF rfl (by omega) (gf := 28) (lb := #[.pointer (some ⟨w.heap.size + 1, 0, none⟩)]) rfl trivial (enters_of Tryd.func28 (by kernel_rfl) rfl)
    (members_stops _ (by omega) (w.heap.size + 1) m _ (by simp) c1.1) keepCell_t keepCell_b (Below.refl _ _) (fun _ => rfl)
    (fun pre W => (pre = [] ∧ W.cell? ⟨w.heap.size, 0, none⟩ = some (.int .i64 0) ∧ W.frozen? ⟨w.heap.size, 0, none⟩ = false) ∧ Below w.heap.size w W)
    (fun c pre W => (c = .ret ∧ ∃ x : Int, pre = [x] ∧ W.cell? ⟨w.heap.size, 0, none⟩ = some (.int .i64 x)) ∧ Below w.heap.size w W)
    (OwnFrom.and (Own.from (fun s A B row hs hg hr => ⟨hs.1, cell_kept hs.2.1 hg hr, (frozen_kept hs.2.1 hg hr).trans hs.2.2⟩) _) (ownFrom_below (Nat.le_refl _) (by simp; omega)))
    (fun c => OwnFrom.and (Own.from (fun s A B row hs hg hr => by obtain ⟨hc, x, hx, hcell⟩ := hs; exact ⟨hc, x, hx, cell_kept hcell hg hr⟩) _) (ownFrom_below (Nat.le_refl _) (by simp; omega)))
    ⟨⟨rfl, cell_alloc_l _ c0.1, frozen_alloc_l _ c0.1 c0.2⟩, hB0⟩
    (fun x => { tmps := #[.int .i64 m, undef, .pointer (some ⟨w.heap.size, 0, none⟩), .int .i64 x, .int .i64 m, .func (.func 28) #[] #[.pointer (some ⟨w.heap.size + 1, 0, none⟩)], .int .i64 x, undef], defers := [] }) ?assign ?body ?done ?stop
  case assign =>
    intro l x W K hK
    gi_wp2
    exact hK
  case body =>
    rintro l pre x W ⟨⟨rfl, hc, hf⟩, hB⟩ _
    gi_wp2
    exact ⟨KeepsOthers.setCell _ _ _, ⟨rfl, x, rfl, World.cell?_setCell_same' _ _ _ (by rw [hc]; rfl)⟩, hB.setCell (p := ⟨w.heap.size, 0, none⟩) (Nat.le_refl _) _⟩
  case done =>
    rintro D ys W1 hD rfl ⟨⟨hn, hc, hf⟩, hB⟩ hK
    gi_wp2
    have hK' := (KeepsOthers.setCell W1 ⟨w.heap.size, 0, none⟩ (.int .i64 (-1))).same D _ hK rfl
    refine ⟨by simp, .inl ⟨_, _, rfl, run_takeDeferred hK', ?_⟩⟩
    have hc5 := cell_kept (World.cell?_setCell_same' W1 ⟨w.heap.size, 0, none⟩ (.int .i64 (-1)) (by rw [hc]; rfl)) (grownBy_putObj' _ D (.deferred none)) (fun r e => by cases e; exact ⟨_, hK', rfl⟩)
    refine ⟨.int .i64 (-1), ?_, by rw [first_none m hn], hb.trans (((hB.setCell (p := ⟨w.heap.size, 0, none⟩) (Nat.le_refl _) _).trans (belowK_b (w := w) (Nat.le_refl _) _ D _ _ (by simp at hD; omega) hK' rfl rfl)).mono hb.size)⟩
    simp [results, Tryd.f15, go_sem, hc5]
  case stop =>
    rintro D c pre W1 hD hpre ⟨⟨rfl, x, rfl, hcr⟩, hB⟩ hK
    gi_wp2
    refine ⟨by simp, .inl ⟨_, _, rfl, run_takeDeferred hK, ?_⟩⟩
    have hc5 := cell_kept hcr (grownBy_putObj' _ D (.deferred none)) (fun r e => by cases e; exact ⟨_, hK, rfl⟩)
    refine ⟨.int .i64 x, ?_, by rw [first_memb m x hpre], hb.trans ((hB.trans (belowK_b (w := w) (Nat.le_refl _) W1 D _ _ (by simp at hD; omega) hK rfl rfl)).mono hb.size)⟩
    simp [results, Tryd.f15, go_sem, hc5]
set_option maxRecDepth 100000 in
set_option maxHeartbeats 1000000 in
theorem iMaskCount_any (m : Int) (w W : World) (hb : Below W.heap.size W w) :
    Calls Tryd.prog 13 #[.int .i64 m] w fun e w' => e = .returned (.int .i64 (maskCount m)) ∧ Below W.heap.size W w' := by
  refine (callsIn_wide (n := 3)).1 ?_
  refine callsIn_of_wp_marks Tryd.func13 rfl trivial ?_ rfl
  simp only [Tryd.ntmps13, List.size_toArray, List.length_cons, List.length_nil, Nat.reduceAdd, Nat.reduceSub, Array.replicate_succ, Array.replicate_zero, List.push_toArray, List.append_toArray, List.nil_append, List.cons_append]
  gi_wp2_with (refine ⟨trivial, ?_⟩; gi_at_call 20; refine (members_in _ _ _).mono ?_; rintro e w' ⟨rfl, rfl⟩)
  have c0 := cell_new_l w (.int .i64 0) 3
  have c1 := cell_new_l (w.alloc (.cells #[.int .i64 0] 3)) (.int .i64 m) 35
  simp only [World.size_alloc] at c1
  have hB0 : Below w.heap.size w ((w.alloc (.cells #[.int .i64 0] 3)).alloc (.cells #[.int .i64 m] 35)) := ((Below.refl _ w).alloc (Nat.le_refl _) _).alloc (by simp) _
  refine wpIn_rangeFunc_ownF rfl (by omega) (gf := 28) (lb := #[.pointer (some ⟨w.heap.size + 1, 0, none⟩)]) rfl trivial (enters_of Tryd.func28 (by kernel_rfl) rfl)
    (members_stops _ (by omega) (w.heap.size + 1) m _ (by simp) c1.1) keepCell_t keepCell_b (Below.refl _ _) (fun _ => rfl)
    (fun pre W => (W.cell? ⟨w.heap.size, 0, none⟩ = some (.int .i64 pre.length) ∧ W.frozen? ⟨w.heap.size, 0, none⟩ = false ∧ W.cell? ⟨w.heap.size + 1, 0, none⟩ = some (.int .i64 m)) ∧ Below w.heap.size w W)
    (fun _ _ _ => False)
    (OwnFrom.and (Own.from (fun s A B row hs hg hr => ⟨cell_kept hs.1 hg hr, (frozen_kept hs.1 hg hr).trans hs.2.1, cell_kept hs.2.2 hg hr⟩) _) (ownFrom_below (Nat.le_refl _) (by simp; omega)))
    (fun _ _ _ _ _ hs _ _ => hs)
    ⟨⟨cell_alloc_l _ c0.1, frozen_alloc_l _ c0.1 c0.2, c1.1⟩, hB0⟩
    (fun x => { tmps := #[.int .i64 m, undef, .int .i64 0, .pointer (some ⟨w.heap.size, 0, none⟩), .int .i64 m, .func (.func 28) #[] #[.pointer (some ⟨w.heap.size + 1, 0, none⟩)], .int .i64 x, undef, undef, undef], defers := [] }) ?assign ?body ?done ?stop
  case assign =>
    intro l x W K hK
    gi_wp2
    simpa using hK
  case body =>
    rintro l pre x W ⟨⟨hc, hf, hc1⟩, hB⟩ hlen
    gi_wp2
    refine ⟨KeepsOthers.setCell _ _ _, keepCell_set _ _ _ (by simp), ⟨?_, by rw [World.frozen?_setCell]; exact hf, ?_⟩, hB.setCell (p := ⟨w.heap.size, 0, none⟩) (Nat.le_refl _) _⟩
    · rw [World.cell?_setCell_same' _ _ _ (by rw [hc]; rfl)]
      simp
    · rw [World.cell?_setCell_other _ _ _ _ (by simp)]
      exact hc1
  case done =>
    rintro D ys W1 hD rfl ⟨⟨hc, hf, _⟩, hB⟩ hK
    gi_wp2
    refine ⟨by simp, .inl ⟨_, _, rfl, run_takeDeferred hK, ?_⟩⟩
    exact ⟨_, results_tmp rfl _ _ _, by rw [count_memb m]; rfl, hb.trans ((hB.trans (belowK_b (w := w) (Nat.le_refl _) W1 D _ _ (by simp at hD; omega) hK rfl rfl)).mono hb.size)⟩
  case stop =>
    rintro D c pre W _ _ h _
    exact h.elim
end Go.Proofs.YtclepnpdkmcaeaaDoor

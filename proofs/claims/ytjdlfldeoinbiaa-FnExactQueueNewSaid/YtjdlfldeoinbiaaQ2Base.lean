/- Queues: toQueue, szQueue, eqQueue. -/
import Derived.Test.YtjdlfldeoinbiaaQ1Base
namespace Go.Proofs.Ytjdlfldeoinbiaa
open Go.RowKit
theorem ret_intB {k : IntKind} {a b : Int} (h : a = b) : Ending.returned (.int k a) = .returned (.int k b) := by rw [h]
/-- How entries lie in memory. -/
def ent (on : Nat → Bool) (v x s : Nat → Int) : Nat → List Value := fun i => [.bool (on i), .int .i64 (v i), .int .i64 (x i), .int .i64 (s i)]
theorem cell_same {w w' : World} {g : Nat} (h : w'.heap[g]? = w.heap[g]?) (i : Nat) : w'.cell? ⟨g, i, none⟩ = w.cell? ⟨g, i, none⟩ := by
  unfold World.cell?
  rw [h]
theorem frozen_same {w w' : World} {g : Nat} (h : w'.heap[g]? = w.heap[g]?) (i : Nat) : w'.frozen? ⟨g, i, none⟩ = w.frozen? ⟨g, i, none⟩ := by
  unfold World.frozen?
  rw [h]
theorem OwnS.same {w w' : World} {g n sz : Nat} {el : Nat → List Value} (h : OwnS w g n sz el) (hh : w'.heap[g]? = w.heap[g]?) (hz : w.heap.size ≤ w'.heap.size) : OwnS w' g n sz el :=
  ⟨Nat.lt_of_lt_of_le h.1 hz, fun i hi j v hv => (cell_same hh _).trans (h.2.1 i hi j v hv), fun j hj => by rw [cell_same hh, frozen_same hh]; exact h.2.2 j hj⟩
theorem OwnS.off {w : World} {g n sz : Nat} {el : Nat → List Value} (h : OwnS w g n sz el) {p : Addr} (hp : g ≠ p.block) (u : Value) : OwnS (w.setCell p u) g n sz el :=
  h.same (Below.heap_setCell w p u g hp) (by simp)
theorem OwnS.rowOff {w : World} {g g' n sz : Nat} {el : Nat → List Value} (h : OwnS w g n sz el) (hp : g ≠ g') (xs : Array Value) : OwnS (w.setRow g' xs) g n sz el :=
  h.same (setRow_other w g' g xs hp) (by simp)
set_option maxHeartbeats 400000 in
theorem toQueue_any (fl cu ra : Int) (A : Option Addr) (n c : Nat) (hn : n ≤ 1048576) (on : Nat → Bool) (v x s : Nat → Int) (w W : World) (hb : Below W.heap.size W w)
    (hA : Rs W W.heap.size A n 4 (ent on v x s)) :
    Calls Try.prog 9 #[.agg #[.int .i64 fl, .int .i64 cu, .int .i64 ra, .slice A n c]] w fun e w' => ∃ g, e = .returned (.agg #[.int .i64 fl, .int .i64 cu, .int .i64 ra, .slice (some ⟨g, 0, none⟩) n n]) ∧
      w.heap.size ≤ g ∧ OwnS w' g n 4 (ent on v x s) ∧ Below w.heap.size w w' := by
  have hA0 := Lib.hid (hA.at_ hb)
  clear hA
  go_enter Try.func9, Try.ntmps9
  go_wp2_with fail
  refine (toEntryS_any A n c hn on v x s _ w (by go_grown) hA0.out).mono ?_
  rintro e w1 ⟨rfl, hO1, hb1⟩
  have hz1 := hb1.size
  simp only [World.size_alloc] at hz1 hO1
  have hB1 : Below w.heap.size w w1 := (by go_grown : Below w.heap.size w _).trans (hb1.mono (by simp only [World.size_alloc]; omega))
  have kr := (Bk.new' _ (w.heap.size + 1) _ _ (by simp)).alloc _ |>.below hb1 (by simp only [World.size_alloc]; omega)
  have ko := (Bk.new' _ (w.heap.size + 1 + 1) _ _ (by simp)).below hb1 (by simp only [World.size_alloc]; omega)
  clear hb1
  obtain ⟨_, _, _, co3⟩ := ko.four
  have cf := ko.frees
  have KO : Hid (Bk (w1.setCell ⟨w.heap.size + 1 + 1, 3, none⟩ (.slice (some ⟨w.heap.size + 1 + 1 + 1, 0, none⟩) n n)) (w.heap.size + 1 + 1) 29 #[.int .i64 fl, .int .i64 cu, .int .i64 ra, .slice (some ⟨w.heap.size + 1 + 1 + 1, 0, none⟩) n n]) := Lib.hid (ko.put 3 (.slice (some ⟨w.heap.size + 1 + 1 + 1, 0, none⟩) n n))
  have KR := Lib.hid (kr.off (p := ⟨w.heap.size + 1 + 1, 3, none⟩) (by simp) (.slice (some ⟨w.heap.size + 1 + 1 + 1, 0, none⟩) n n))
  have HO1 := Lib.hid hO1
  clear kr ko hO1
  go_wp2_with (first
    | refine wpList_load_row rfl 29 _ rfl (w.heap.size + 1 + 1) rfl 29 _ (0, 0) _ KO.out Try.underlying29 rfl (by kernel_rfl) ?_
    | refine wpList_store_row rfl 29 _ _ rfl (w.heap.size + 1) _ rfl rfl 29 _ KR.out (by kernel_rfl) rfl (by kernel_rfl) ?_)
  refine bodyPost_ret (results_cell_row rfl _ _ (w.heap.size + 1) 29 _ (0, 0) _ rfl (setRow_heap _ _ _ _ _ _ KR.out) Try.underlying29 rfl (by kernel_rfl)) rfl ⟨_, rfl, by omega, ?_, ?_⟩
  · exact (HO1.out.off (by simp) _).rowOff (by omega) _
  · exact below_setRow (hB1.setCell (by simp; omega) _) (by omega) _

set_option maxHeartbeats 400000 in
theorem eqQueue_t (fl cu ra : Int) (A B : Option Addr) (n c d : Nat) (hn : n ≤ 1048576) (on : Nat → Bool) (v x s : Nat → Int) (w W : World) (hb : Below W.heap.size W w)
    (hA : Rs W W.heap.size A n 4 (ent on v x s)) (hB : Rs W W.heap.size B n 4 (ent on v x s)) :
    Calls Try.prog 11 #[.agg #[.int .i64 fl, .int .i64 cu, .int .i64 ra, .slice A n c], .agg #[.int .i64 fl, .int .i64 cu, .int .i64 ra, .slice B n d]] w fun e w' => e = .returned (.bool true) ∧ Below w.heap.size w w' := by
  have hA := Lib.hid (hA.at_ hb)
  have hB := Lib.hid (hB.at_ hb)
  go_enter Try.func11, Try.ntmps11
  go_wp2_with fail
  refine (eqEntryS_t A B n c d hn on v x s _ w (by go_grown) hA.out hB.out).mono ?_
  rintro e w1 ⟨rfl, hb1⟩
  have hB1 : Below w.heap.size w w1 := (by go_grown : Below w.heap.size w _).trans (hb1.mono (by simp only [World.size_alloc]; omega))
  clear hb1
  go_wp2
  go_ret
  exact ⟨rfl, hB1⟩
theorem szQueue_any (fl cu ra l : Int) (A : Option Addr) (n c : Nat) (h0 : 0 ≤ l) (hl : l ≤ 1048576) (hn : (n : Int) ≤ 9223372036854775807) (w W : World) (hb : Below W.heap.size W w) :
    Calls Try.prog 7 #[.agg #[.int .i64 fl, .int .i64 cu, .int .i64 ra, .slice A n c], .int .i64 l] w fun e w' => e = .returned (.int .i64 (szN l n)) ∧ Below W.heap.size W w' := by
  have hz := hb.size
  by_cases h1 : l - n < 0
  · have hs := szN_neg l n h1
    go_enter Try.func7, Try.ntmps7
    go_wp2_with (go_at_call 23; refine (szEntryS_any A n c l h0 hl hn _).mono ?_; rintro e w1 ⟨rfl, rfl⟩)
    go_ret
    exact ⟨ret_intB hs.symm, by go_grown⟩
  · have hs := szN_pos l n h1
    go_enter Try.func7, Try.ntmps7
    go_wp2_with (go_at_call 23; refine (szEntryS_any A n c l h0 hl hn _).mono ?_; rintro e w1 ⟨rfl, rfl⟩)
    go_ret
    exact ⟨ret_intB hs.symm, by go_grown⟩
end Go.Proofs.Ytjdlfldeoinbiaa

/- Bands: toBand, szBand, eqBand. -/
import Derived.Test.YtndbmeedimhohaaB1Base
namespace Go.Proofs.Ytndbmeedimhohaa
open Go.RowKit
theorem ret_intB {k : IntKind} {a b : Int} (h : a = b) : Ending.returned (.int k a) = .returned (.int k b) := by rw [h]
theorem bcell {W w1 : World} (hb : Below W.heap.size W w1) : (∀ b o, b < W.heap.size → w1.cell? ⟨b, o, none⟩ = W.cell? ⟨b, o, none⟩) ∧ (∀ b o, b < W.heap.size → w1.frozen? ⟨b, o, none⟩ = W.frozen? ⟨b, o, none⟩) :=
  ⟨fun b o h => hb.cell (p := ⟨b, o, none⟩) h, fun b o h => hb.frozen (p := ⟨b, o, none⟩) h⟩
set_option maxHeartbeats 400000 in
theorem eqBand_t (q p s : Int) (A A' B B' : Option Addr) (n m c c' d d' : Nat) (hn : n ≤ 1048576) (hm : m ≤ 1048576) (f : Nat → Int) (f' : Nat → Bool) (w W : World) (hb : Below W.heap.size W w)
    (hA : Rw W W.heap.size A n fun i => .int .i64 (f i)) (hA' : Rw W W.heap.size A' m fun i => .bool (f' i)) (hB : Rw W W.heap.size B n fun i => .int .i64 (f i)) (hB' : Rw W W.heap.size B' m fun i => .bool (f' i)) :
    Calls Try.prog 33 #[.agg #[.int .i64 q, .int .i64 p, .int .i64 s, .slice A n c, .slice A' m c'], .agg #[.int .i64 q, .int .i64 p, .int .i64 s, .slice B n d, .slice B' m d']] w fun e w' => e = .returned (.bool true) ∧ Below w.heap.size w w' := by
  have hA := Lib.hid (hA.at_ hb)
  have hA' := Lib.hid (hA'.at_ hb)
  have hB := Lib.hid (hB.at_ hb)
  have hB' := Lib.hid (hB'.at_ hb)
  go_enter Try.func33, Try.ntmps33
  go_wp2_with fail
  refine (eqIntS_t A B n c d hn f _ w (by go_grown) hA.out hB.out).mono ?_
  rintro e w1 ⟨rfl, hb1⟩
  have hB1 : Below w.heap.size w w1 := (by go_grown : Below w.heap.size w _).trans (hb1.mono (by simp only [World.size_alloc]; omega))
  have k1 := ((Bk.new' w w.heap.size _ _ rfl).alloc _).below hb1 (by simp only [World.size_alloc]; omega)
  have k2 := (Bk.new' _ (w.heap.size + 1) _ _ (by simp)).below hb1 (by simp only [World.size_alloc]; omega)
  clear hb1
  obtain ⟨_, _, _, _, c4⟩ := k1.five
  obtain ⟨_, _, _, _, d4⟩ := k2.five
  clear k1 k2
  go_wp2_with fail
  refine (eqBoolS_t A' B' m c' d' hm f' _ w (by go_grown) hA'.out hB'.out).mono ?_
  rintro e w2 ⟨rfl, hb2⟩
  go_wp2
  go_ret
  exact ⟨rfl, hB1.trans (hb2.mono (by have := hB1.size; omega))⟩
/-- What is left of a size behind a band. -/
def szB (l : Int) (n m : Nat) : Int := if l - n < 0 then -1 else szN (l - n) m
theorem szB_neg1 (l : Int) (n m : Nat) (h : l - n < 0) : szB l n m = -1 := if_pos h
theorem szB_neg2 (l : Int) (n m : Nat) (h : l - n - m < 0) : szB l n m = -1 := by
  unfold szB
  split
  · rfl
  · exact szN_neg _ m h
theorem szB_pos (l : Int) (n m : Nat) (h : ¬ l - n - m < 0) : szB l n m = l - n - m := by
  unfold szB
  rw [if_neg (by omega)]
  exact szN_pos _ m h
end Go.Proofs.Ytndbmeedimhohaa

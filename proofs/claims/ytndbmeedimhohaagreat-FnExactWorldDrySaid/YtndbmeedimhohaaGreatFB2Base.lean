/- Bands: toBand, szBand, eqBand. -/
import Derived.Test.YtndbmeedimhohaaGreatFB1Base
namespace Go.Proofs.YtndbmeedimhohaaGreat
open Go.RowKit
theorem ret_intB {k : IntKind} {a b : Int} (h : a = b) : Ending.returned (.int k a) = .returned (.int k b) := by rw [h]
theorem bcell {W w1 : World} (hb : Below W.heap.size W w1) : (∀ b o, b < W.heap.size → w1.cell? ⟨b, o, none⟩ = W.cell? ⟨b, o, none⟩) ∧ (∀ b o, b < W.heap.size → w1.frozen? ⟨b, o, none⟩ = W.frozen? ⟨b, o, none⟩) :=
  ⟨fun b o h => hb.cell (p := ⟨b, o, none⟩) h, fun b o h => hb.frozen (p := ⟨b, o, none⟩) h⟩
set_option maxHeartbeats 400000 in
theorem toBand_any (q p s : Int) (A A' : Option Addr) (n m c c' : Nat) (hn : n ≤ 1048576) (hm : m ≤ 1048576) (f : Nat → Int) (f' : Nat → Bool) (w W : World) (hb : Below W.heap.size W w)
    (hA : Rw W W.heap.size A n fun i => .int .i64 (f i)) (hA' : Rw W W.heap.size A' m fun i => .bool (f' i)) :
    Calls Tryz.prog 98 #[.agg #[.int .i64 q, .int .i64 p, .int .i64 s, .slice A n c, .slice A' m c']] w fun e w' => ∃ g g', e = .returned (.agg #[.int .i64 q, .int .i64 p, .int .i64 s, .slice (some ⟨g, 0, none⟩) n n, .slice (some ⟨g', 0, none⟩) m m]) ∧
      w.heap.size ≤ g ∧ g < g' ∧ Own1 w' g 3 n (fun i => .int .i64 (f i)) ∧ Own1 w' g' 4 m (fun i => .bool (f' i)) ∧ Below w.heap.size w w' := by
  have hA0 := Lib.hid (hA.at_ hb)
  have hA1 := Lib.hid (hA'.at_ hb)
  clear hA hA'
  go_enter Tryz.func98, Tryz.ntmps98
  go_wp2_with fail
  refine (toIntS_any A n c hn f _ w (by go_grown) hA0.out).mono ?_
  rintro e w1 ⟨rfl, hO1, hb1⟩
  have hz1 := hb1.size
  simp only [World.size_alloc] at hz1 hO1
  have hB1 : Below w.heap.size w w1 := (by go_grown : Below w.heap.size w _).trans (hb1.mono (by simp only [World.size_alloc]; omega))
  have kb := ((Bk.new' w w.heap.size _ _ rfl).alloc _).alloc _ |>.below hb1 (by simp only [World.size_alloc]; omega)
  have kr := (Bk.new' _ (w.heap.size + 1) _ _ (by simp)).alloc _ |>.below hb1 (by simp only [World.size_alloc]; omega)
  have ko := (Bk.new' _ (w.heap.size + 1 + 1) _ _ (by simp)).below hb1 (by simp only [World.size_alloc]; omega)
  clear hb1
  obtain ⟨_, _, _, _, cb4⟩ := kb.five
  obtain ⟨_, _, _, co3, _⟩ := ko.five
  have cf := ko.frees
  have ko1 := Lib.hid (ko.put 3 (.slice (some ⟨w.heap.size + 1 + 1 + 1, 0, none⟩) n n))
  have kr1 := Lib.hid (kr.off (p := ⟨w.heap.size + 1 + 1, 3, none⟩) (by simp) (.slice (some ⟨w.heap.size + 1 + 1 + 1, 0, none⟩) n n))
  have hlt1 := hO1.lt
  have hO1' := Lib.hid hO1
  clear kb kr ko hO1
  go_wp2_with fail
  refine (toBoolS_any A' m c' hm f' _ w (by go_grown) hA1.out).mono ?_
  rintro e w2 ⟨rfl, hO2, hb2⟩
  have hz2 := hb2.size
  simp only [World.size_setCell] at hz2 hO2
  have hB2 : Below w.heap.size w w2 := (by go_grown : Below w.heap.size w _).trans (hb2.mono (by simp only [World.size_setCell]; omega))
  have ko : Bk w2 (w.heap.size + 1 + 1) 65 #[.int .i64 q, .int .i64 p, .int .i64 s, .slice (some ⟨w.heap.size + 1 + 1 + 1, 0, none⟩) n n, .slice none 0 0] := ko1.out.below hb2 (by simp only [World.size_setCell]; omega)
  have kr := kr1.out.below hb2 (by simp only [World.size_setCell]; omega)
  have hO1'' : Own1 w2 (w.heap.size + 1 + 1 + 1) 3 n (fun i => .int .i64 (f i)) := by
    refine Own1.below ?_ hb2 (by have := hO1'.out.lt; simp only [World.size_setCell]; omega)
    obtain ⟨cs, h1, h2, h3⟩ := hO1'.out
    exact ⟨cs, h1.off (by simp) _, h2, h3⟩
  clear hb2 co3 cf
  obtain ⟨_, _, _, _, co4⟩ := ko.five
  have cf := ko.frees
  have ko2 : Bk (w2.setCell ⟨w.heap.size + 1 + 1, 4, none⟩ (.slice (some ⟨w1.heap.size, 0, none⟩) m m)) (w.heap.size + 1 + 1) 65 #[.int .i64 q, .int .i64 p, .int .i64 s, .slice (some ⟨w.heap.size + 1 + 1 + 1, 0, none⟩) n n, .slice (some ⟨w1.heap.size, 0, none⟩) m m] := ko.put 4 _
  have kr2 := kr.off (p := ⟨w.heap.size + 1 + 1, 4, none⟩) (by simp) (.slice (some ⟨w1.heap.size, 0, none⟩) m m)
  have KO := Lib.hid ko2
  have KR := Lib.hid kr2
  have HO1 := Lib.hid hO1''
  have HO2 := Lib.hid hO2
  clear ko kr hO1'' ko2 kr2 hO2 ko1 kr1 hO1'
  go_wp2_with (first
    | refine wpList_load_row rfl 65 _ rfl (w.heap.size + 1 + 1) rfl 65 _ (0, 0) _ KO.out Tryz.underlying65 rfl (by kernel_rfl) ?_
    | refine wpList_store_row rfl 65 _ _ rfl (w.heap.size + 1) _ rfl rfl 65 _ KR.out (by kernel_rfl) rfl (by kernel_rfl) ?_)
  refine bodyPost_ret (results_cell_row rfl _ _ (w.heap.size + 1) 65 _ (0, 0) _ rfl (setRow_heap _ _ _ _ _ _ KR.out) Tryz.underlying65 rfl (by kernel_rfl)) rfl ⟨_, _, rfl, by omega, by omega, ?_, ?_, ?_⟩
  · exact (HO1.out.off (by simp) _).rowOff (by omega) _
  · exact (HO2.out.off (by simp; omega) _).rowOff (by omega) _
  · exact below_setRow (hB2.setCell (by simp; omega) _) (by omega) _

set_option maxHeartbeats 400000 in
theorem eqBand_t (q p s : Int) (A A' B B' : Option Addr) (n m c c' d d' : Nat) (hn : n ≤ 1048576) (hm : m ≤ 1048576) (f : Nat → Int) (f' : Nat → Bool) (w W : World) (hb : Below W.heap.size W w)
    (hA : Rw W W.heap.size A n fun i => .int .i64 (f i)) (hA' : Rw W W.heap.size A' m fun i => .bool (f' i)) (hB : Rw W W.heap.size B n fun i => .int .i64 (f i)) (hB' : Rw W W.heap.size B' m fun i => .bool (f' i)) :
    Calls Tryz.prog 100 #[.agg #[.int .i64 q, .int .i64 p, .int .i64 s, .slice A n c, .slice A' m c'], .agg #[.int .i64 q, .int .i64 p, .int .i64 s, .slice B n d, .slice B' m d']] w fun e w' => e = .returned (.bool true) ∧ Below w.heap.size w w' := by
  have hA := Lib.hid (hA.at_ hb)
  have hA' := Lib.hid (hA'.at_ hb)
  have hB := Lib.hid (hB.at_ hb)
  have hB' := Lib.hid (hB'.at_ hb)
  go_enter Tryz.func100, Tryz.ntmps100
  go_wp2_with fail
  refine (eqIntS_t A B n c d hn f _ w (by go_grown) hA.out hB.out).mono ?_
  rintro e w1 ⟨rfl, hb1⟩
  have hB1 : Below w.heap.size w w1 := (by go_grown : Below w.heap.size w _).trans (hb1.mono (by simp only [World.size_alloc]; omega))
  have k1 := ((Bk.new' w w.heap.size _ _ rfl).alloc _).below hb1 (by simp only [World.size_alloc]; omega)
  have k2 := (Bk.new' _ (w.heap.size + 1) _ _ (by simp)).below hb1 (by simp only [World.size_alloc]; omega)
  clear hb1
  obtain ⟨_, _, _, _, c4⟩ := k1.five
  obtain ⟨_, _, _, _, d4⟩ := k2.five
  clear k1 k2
  go_wp2_with fail
  refine (eqBoolS_t A' B' m c' d' hm f' _ w (by go_grown) hA'.out hB'.out).mono ?_
  rintro e w2 ⟨rfl, hb2⟩
  go_wp2
  go_ret
  exact ⟨rfl, hB1.trans (hb2.mono (by have := hB1.size; omega))⟩
/-- What is left of a size behind a band. -/
def szB (l : Int) (n m : Nat) : Int := if l - n < 0 then -1 else szN (l - n) m
theorem szB_neg1 (l : Int) (n m : Nat) (h : l - n < 0) : szB l n m = -1 := if_pos h
theorem szB_neg2 (l : Int) (n m : Nat) (h : l - n - m < 0) : szB l n m = -1 := by
  unfold szB
  split
  · rfl
  · exact szN_neg _ m h
theorem szB_pos (l : Int) (n m : Nat) (h : ¬ l - n - m < 0) : szB l n m = l - n - m := by
  unfold szB
  rw [if_neg (by omega)]
  exact szN_pos _ m h
theorem szBand_any (q p s l : Int) (A A' : Option Addr) (n m c c' : Nat) (h0 : 0 ≤ l) (hl : l ≤ 1048576) (hn : (n : Int) ≤ 9223372036854775807) (hm : (m : Int) ≤ 9223372036854775807) (w W : World) (hb : Below W.heap.size W w) :
    Calls Tryz.prog 96 #[.agg #[.int .i64 q, .int .i64 p, .int .i64 s, .slice A n c, .slice A' m c'], .int .i64 l] w fun e w' => e = .returned (.int .i64 (szB l n m)) ∧ Below W.heap.size W w' := by
  have hz := hb.size
  by_cases h1 : l - n < 0
  · rw [szB_neg1 l n m h1]
    have hs := szN_neg l n h1
    go_enter Tryz.func96, Tryz.ntmps96
    go_wp2_with (go_at_call 116; refine (szIntS_any A n c l h0 hl hn _).mono ?_; rintro e w1 ⟨rfl, rfl⟩)
    go_ret
    exact ⟨rfl, by go_grown⟩
  · have hs := szN_pos l n h1
    by_cases h2 : l - n - m < 0
    · rw [szB_neg2 l n m h2]
      have hs2 := szN_neg (l - n) m h2
      go_enter Tryz.func96, Tryz.ntmps96
      go_wp2_with (first | (go_at_call 116; refine (szIntS_any A n c l h0 hl hn _).mono ?_; rintro e w1 ⟨rfl, rfl⟩) | (go_at_call 117; refine (szBoolS_any A' m c' (l - n) (by omega) (by omega) hm _).mono ?_; rintro e w1 ⟨rfl, rfl⟩))
      go_ret
      exact ⟨rfl, by go_grown⟩
    · rw [szB_pos l n m h2]
      have hs2 := szN_pos (l - n) m h2
      go_enter Tryz.func96, Tryz.ntmps96
      go_wp2_with (first | (go_at_call 116; refine (szIntS_any A n c l h0 hl hn _).mono ?_; rintro e w1 ⟨rfl, rfl⟩) | (go_at_call 117; refine (szBoolS_any A' m c' (l - n) (by omega) (by omega) hm _).mono ?_; rintro e w1 ⟨rfl, rfl⟩))
      go_ret
      exact ⟨rfl, by go_grown⟩
end Go.Proofs.YtndbmeedimhohaaGreat

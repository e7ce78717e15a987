/- Trees: toGroup. -/
import Derived.Test.YtclloljigdmdnaaG2Base
namespace Go.Proofs.Ytclloljigdmdnaa
open Go.RowKit
theorem OwnV.off {w : World} {g n : Nat} {f : Nat → Value} (h : OwnV w g n f) {p : Addr} (hp : g ≠ p.block) (u : Value) : OwnV (w.setCell p u) g n f :=
  h.same (Below.heap_setCell w p u g hp) (by simp)
theorem OwnV.rowOff {w : World} {g g' n : Nat} {f : Nat → Value} (h : OwnV w g n f) (hp : g ≠ g') (xs : Array Value) : OwnV (w.setRow g' xs) g n f :=
  h.same (setRow_other w g' g xs hp) (by simp [World.setRow])
set_option maxHeartbeats 1000000 in
theorem toGroup_core (us : Bool) (pa we cp pe ne su q p s : Int) (nm : ByteArray) (A A' A2 : Option Addr) (n m c c' k d : Nat) (hn : n ≤ 1048576) (hm : m ≤ 1048576) (hk : k ≤ 1048576) (f : Nat → Int) (f' : Nat → Bool)
    (x0 : Nat → Int) (x1 : Nat → Bool) (x2 x3 x4 : Nat → Int) (w W : World) (hb : Below W.heap.size W w)
    (hA : Rw W W.heap.size A n fun i => .int .i64 (f i)) (hA' : Rw W W.heap.size A' m fun i => .bool (f' i)) (hA2 : Rs W W.heap.size A2 k 5 fun i => [.int .i64 (x0 i), .bool (x1 i), .int .i64 (x2 i), .int .i64 (x3 i), .int .i64 (x4 i)]) :
    Calls Try.prog 29 #[.agg #[.bool us, .int .i64 pa, .string nm, .int .i64 we, .int .i64 cp, .int .i64 pe, .int .i64 ne, .int .i64 su, .int .i64 q, .int .i64 p, .int .i64 s, .slice A n c, .slice A' m c', .slice A2 k d]] w fun e w' =>
      ∃ g g' g2, e = .returned (.agg #[.bool us, .int .i64 pa, .string nm, .int .i64 we, .int .i64 cp, .int .i64 pe, .int .i64 ne, .int .i64 su, .int .i64 q, .int .i64 p, .int .i64 s, .slice (some ⟨g, 0, none⟩) n n, .slice (some ⟨g', 0, none⟩) m m, .slice (some ⟨g2, 0, none⟩) k k]) ∧
      w.heap.size ≤ g ∧ g < g' ∧ g' < g2 ∧ OwnV w' g n (fun i => .int .i64 (f i)) ∧ OwnV w' g' m (fun i => .bool (f' i)) ∧ OwnS w' g2 k 5 (fun i => [.int .i64 (x0 i), .bool (x1 i), .int .i64 (x2 i), .int .i64 (x3 i), .int .i64 (x4 i)]) ∧ Below w.heap.size w w' := by
  have hA0 := Lib.hid (hA.at_ hb)
  have hA1 := Lib.hid (hA'.at_ hb)
  have hA2 := Lib.hid (hA2.at_ hb)
  clear hA hA'
  go_enter Try.func29, Try.ntmps29
  go_wp2_with fail
  refine (toBand_any q p s A A' n m c c' hn hm f f' _ w (by go_grown) hA0.out hA1.out).mono ?_
  rintro e w1 ⟨g, g', rfl, hg, hg', hO, hO', hb1⟩
  have hz1 := hb1.size
  simp only [World.size_alloc] at hz1 hg
  have hB1 : Below w.heap.size w w1 := (by go_grown : Below w.heap.size w _).trans (hb1.mono (by simp only [World.size_alloc]; omega))
  have kb := ((Bk.new' w w.heap.size _ _ rfl).alloc _).alloc _ |>.below hb1 (by simp only [World.size_alloc]; omega)
  have kr := (Bk.new' _ (w.heap.size + 1) _ _ (by simp)).alloc _ |>.below hb1 (by simp only [World.size_alloc]; omega)
  have ko := (Bk.new' _ (w.heap.size + 1 + 1) _ _ (by simp)).below hb1 (by simp only [World.size_alloc]; omega)
  have cb : w1.cell? ⟨w.heap.size, 13, none⟩ = some (.slice A2 k d) := kb.cell 13
  have h1 := hO.lt
  have h2 := hO'.lt
  clear hb1 kb
  have HO := Lib.hid hO.ownV
  have HO' := Lib.hid hO'.ownV
  have HB1 := Lib.hid hB1
  have o8 : w1.cell? ⟨w.heap.size + 1 + 1, 8, none⟩ = some (.int .i64 0) := ko.cell 8
  have o9 : w1.cell? ⟨w.heap.size + 1 + 1, 9, none⟩ = some (.int .i64 0) := ko.cell 9
  have o10 : w1.cell? ⟨w.heap.size + 1 + 1, 10, none⟩ = some (.int .i64 0) := ko.cell 10
  have o11 : w1.cell? ⟨w.heap.size + 1 + 1, 11, none⟩ = some (.slice none 0 0) := ko.cell 11
  have o12 : w1.cell? ⟨w.heap.size + 1 + 1, 12, none⟩ = some (.slice none 0 0) := ko.cell 12
  have fr := ko.frees
  have KR := Lib.hid kr
  have KO := Lib.hid ko
  clear hO hO' kr ko hB1
  go_wp2_with fail
  clear o8 o9 o10 o11 o12 fr cb
  have hwx : ∃ wx, wx = (((((w1).setCell ⟨w.heap.size + 1 + 1, 8, none⟩ (.int .i64 q)).setCell ⟨w.heap.size + 1 + 1, 9, none⟩ (.int .i64 p)).setCell ⟨w.heap.size + 1 + 1, 10, none⟩ (.int .i64 s)).setCell ⟨w.heap.size + 1 + 1, 11, none⟩ (.slice (some ⟨g, 0, none⟩) n n)).setCell ⟨w.heap.size + 1 + 1, 12, none⟩ (.slice (some ⟨g', 0, none⟩) m m) := ⟨_, rfl⟩
  obtain ⟨wx, hwx⟩ := hwx
  have KX : Bk wx (w.heap.size + 1 + 1) 48 #[.bool us, .int .i64 pa, .string nm, .int .i64 we, .int .i64 cp, .int .i64 pe, .int .i64 ne, .int .i64 su, .int .i64 q, .int .i64 p, .int .i64 s, .slice (some ⟨g, 0, none⟩) n n, .slice (some ⟨g', 0, none⟩) m m, .slice none 0 0] := by rw [hwx]; exact (((((KO.out.put 8 (.int .i64 q)).put 9 (.int .i64 p)).put 10 (.int .i64 s)).put 11 (.slice (some ⟨g, 0, none⟩) n n)).put 12 (.slice (some ⟨g', 0, none⟩) m m))
  have KS : Bk wx (w.heap.size + 1) 48 #[.bool false, .int .i64 0, .string ⟨#[]⟩, .int .i64 0, .int .i64 0, .int .i64 0, .int .i64 0, .int .i64 0, .int .i64 0, .int .i64 0, .int .i64 0, .slice none 0 0, .slice none 0 0, .slice none 0 0] := by rw [hwx]; exact (((((KR.out.off (p := ⟨w.heap.size + 1 + 1, 8, none⟩) (by simp; try omega) (.int .i64 q)).off (p := ⟨w.heap.size + 1 + 1, 9, none⟩) (by simp; try omega) (.int .i64 p)).off (p := ⟨w.heap.size + 1 + 1, 10, none⟩) (by simp; try omega) (.int .i64 s)).off (p := ⟨w.heap.size + 1 + 1, 11, none⟩) (by simp; try omega) (.slice (some ⟨g, 0, none⟩) n n)).off (p := ⟨w.heap.size + 1 + 1, 12, none⟩) (by simp; try omega) (.slice (some ⟨g', 0, none⟩) m m))
  have OX : OwnV wx g n (fun i => .int .i64 (f i)) := by rw [hwx]; exact (((((HO.out.off (p := ⟨w.heap.size + 1 + 1, 8, none⟩) (by simp; try omega) (.int .i64 q)).off (p := ⟨w.heap.size + 1 + 1, 9, none⟩) (by simp; try omega) (.int .i64 p)).off (p := ⟨w.heap.size + 1 + 1, 10, none⟩) (by simp; try omega) (.int .i64 s)).off (p := ⟨w.heap.size + 1 + 1, 11, none⟩) (by simp; try omega) (.slice (some ⟨g, 0, none⟩) n n)).off (p := ⟨w.heap.size + 1 + 1, 12, none⟩) (by simp; try omega) (.slice (some ⟨g', 0, none⟩) m m))
  have OX' : OwnV wx g' m (fun i => .bool (f' i)) := by rw [hwx]; exact (((((HO'.out.off (p := ⟨w.heap.size + 1 + 1, 8, none⟩) (by simp; try omega) (.int .i64 q)).off (p := ⟨w.heap.size + 1 + 1, 9, none⟩) (by simp; try omega) (.int .i64 p)).off (p := ⟨w.heap.size + 1 + 1, 10, none⟩) (by simp; try omega) (.int .i64 s)).off (p := ⟨w.heap.size + 1 + 1, 11, none⟩) (by simp; try omega) (.slice (some ⟨g, 0, none⟩) n n)).off (p := ⟨w.heap.size + 1 + 1, 12, none⟩) (by simp; try omega) (.slice (some ⟨g', 0, none⟩) m m))
  have BX : Below w.heap.size w wx := by rw [hwx]; exact (((((HB1.out.setCell (p := ⟨w.heap.size + 1 + 1, 8, none⟩) (by simp; try omega) (.int .i64 q)).setCell (p := ⟨w.heap.size + 1 + 1, 9, none⟩) (by simp; try omega) (.int .i64 p)).setCell (p := ⟨w.heap.size + 1 + 1, 10, none⟩) (by simp; try omega) (.int .i64 s)).setCell (p := ⟨w.heap.size + 1 + 1, 11, none⟩) (by simp; try omega) (.slice (some ⟨g, 0, none⟩) n n)).setCell (p := ⟨w.heap.size + 1 + 1, 12, none⟩) (by simp; try omega) (.slice (some ⟨g', 0, none⟩) m m))
  have hzx : wx.heap.size = w1.heap.size := by rw [hwx]; simp only [World.size_setCell]
  have h1x : g < wx.heap.size := by omega
  have h2x : g' < wx.heap.size := by omega
  have hz1x : w.heap.size + 1 + 1 + 1 ≤ wx.heap.size := by omega
  rw [← hwx]
  clear hwx KO KR HO HO' HB1 hzx h1 h2 hz1
  refine (toShelfS_any A2 k d hk x0 x1 x2 x3 x4 wx w BX hA2.out).mono ?_
  rintro e w2 ⟨rfl, hS, hb2⟩
  have ko := KX.below hb2 KX.lt
  have kr := KS.below hb2 KS.lt
  have HO := Lib.hid (OX.same (hb2.block g OX.1) hb2.size)
  have HO' := Lib.hid (OX'.same (hb2.block g' OX'.1) hb2.size)
  have HB := Lib.hid (BX.trans (hb2.mono BX.size))
  have HS := Lib.hid hS
  have hz2 := hb2.size
  have co : w2.cell? ⟨w.heap.size + 1 + 1, 13, none⟩ = some (.slice none 0 0) := ko.cell 13
  have cf := ko.frees
  have KO : Hid (Bk (w2.setCell ⟨w.heap.size + 1 + 1, 13, none⟩ (.slice (some ⟨wx.heap.size, 0, none⟩) k k)) (w.heap.size + 1 + 1) 48 #[.bool us, .int .i64 pa, .string nm, .int .i64 we, .int .i64 cp, .int .i64 pe, .int .i64 ne, .int .i64 su, .int .i64 q, .int .i64 p, .int .i64 s, .slice (some ⟨g, 0, none⟩) n n, .slice (some ⟨g', 0, none⟩) m m, .slice (some ⟨wx.heap.size, 0, none⟩) k k]) := (ko.put 13 _ : Bk _ _ _ _)
  have KR := Lib.hid (kr.off (p := ⟨w.heap.size + 1 + 1, 13, none⟩) (by simp) (.slice (some ⟨wx.heap.size, 0, none⟩) k k))
  clear KX KS OX OX' BX hb2 hS ko kr
  go_wp2_with (first
    | refine wpList_load_row rfl 48 _ rfl (w.heap.size + 1 + 1) rfl 48 _ (0, 0) _ KO.out Try.underlying48 rfl (by kernel_rfl) ?_
    | refine wpList_store_row rfl 48 _ _ rfl (w.heap.size + 1) _ rfl rfl 48 _ KR.out (by kernel_rfl) rfl (by kernel_rfl) ?_)
  refine bodyPost_ret (results_cell_row rfl _ _ (w.heap.size + 1) 48 _ (0, 0) _ rfl (setRow_heap _ _ _ _ _ _ KR.out) Try.underlying48 rfl (by kernel_rfl)) rfl ⟨_, _, _, rfl, by omega, hg', by omega, ?_, ?_, ?_, ?_⟩
  · exact (HO.out.off (by simp; omega) _).rowOff (by omega) _
  · exact (HO'.out.off (by simp; omega) _).rowOff (by omega) _
  · exact (HS.out.off (by simp; omega) _).rowOff (by omega) _
  · exact below_setRow (HB.out.setCell (by simp; omega) _) (by omega) _
end Go.Proofs.Ytclloljigdmdnaa

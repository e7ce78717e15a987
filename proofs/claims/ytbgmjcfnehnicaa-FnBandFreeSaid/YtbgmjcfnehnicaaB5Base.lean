/- Bands: BandFree of impl and spec. -/
import Derived.Test.YtbgmjcfnehnicaaB3Base
namespace Go.Proofs.Ytbgmjcfnehnicaa
open Go.RowKit
set_option maxHeartbeats 400000 in
theorem iBandFree_any (q p s : Int) (A A' : Option Addr) (n m c c' : Nat) (hn : (n : Int) ≤ 9223372036854775807) (hm : (m : Int) ≤ 9223372036854775807) (f : Nat → Int) (f' : Nat → Bool) (cpu : Int) (w W : World) (hb : Below W.heap.size W w)
    (hA : Rw W W.heap.size A n fun i => .int .i64 (f i)) (hA' : Rw W W.heap.size A' m fun i => .bool (f' i)) :
    Calls Try.prog 19 #[.agg #[.int .i64 q, .int .i64 p, .int .i64 s, .slice A n c, .slice A' m c'], .int .i64 cpu] w fun e w' => e = .returned (.int .i64 (bandFree q p s n m f f' cpu)) ∧ Below W.heap.size W w' := by
  have hz := hb.size
  have kb := Bk.new w 25 #[.int .i64 q, .int .i64 p, .int .i64 s, .slice A n c, .slice A' m c']
  have hA0 := Lib.hid (hA.at_ (w := w.alloc (.cells #[.int .i64 q, .int .i64 p, .int .i64 s, .slice A n c, .slice A' m c'] 25)) (hb.alloc hz _))
  have hA1 := Lib.hid (hA'.at_ (w := w.alloc (.cells #[.int .i64 q, .int .i64 p, .int .i64 s, .slice A n c, .slice A' m c'] 25)) (hb.alloc hz _))
  have KB := Lib.hid kb
  clear hA hA' kb
  unfold bandFree
  cases h1 : bandOk q p s n m f f'
  · go_enter Try.func19, Try.ntmps19
    go_wp2_with (refine wpList_load_row rfl 25 _ rfl w.heap.size rfl 25 _ (0, 0) _ KB.out Try.underlying25 rfl (by kernel_rfl) ?_)
    refine (iBandOk_any q p s A A' n m c c' hn hm f f' _ _ (Below.refl _ _) hA0.out hA1.out).mono ?_
    rintro e w1 ⟨rfl, hb1⟩
    have hB1 : Below W.heap.size W w1 := (hb.alloc hz _).trans (hb1.mono (by simp; omega))
    clear hb1
    go_wp2_with fail
    go_ret
    exact ⟨rfl, hB1⟩
  obtain ⟨_, x2, x3, x4, rfl, x5, x6, _, _, xf, _⟩ := bandOk_facts q p s n m f f' h1
  cases h2 : inR cpu 0 ((m : Int) - 1)
  · go_enter Try.func19, Try.ntmps19
    go_wp2_with (refine wpList_load_row rfl 25 _ rfl w.heap.size rfl 25 _ (0, 0) _ KB.out Try.underlying25 rfl (by kernel_rfl) ?_)
    refine (iBandOk_any q p s A A' m m c c' hn hm f f' _ _ (Below.refl _ _) hA0.out hA1.out).mono ?_
    rintro e w1 ⟨rfl, hb1⟩
    have hB1 : Below W.heap.size W w1 := (hb.alloc hz _).trans (hb1.mono (by simp; omega))
    have kb1 := KB.out.below hb1 (by simp)
    clear hb1
    obtain ⟨_, _, _, c3, _⟩ := kb1.five
    clear kb1
    go_wp2_with (go_at_call 27; refine (inRange_any _ _ _ _).mono ?_; rintro e w' ⟨rfl, rfl⟩)
    go_ret
    exact ⟨rfl, hB1⟩
  obtain ⟨y1, y2⟩ := inR_iff.1 h2
  obtain ⟨z1, z2, _⟩ := xf cpu.toNat (by omega)
  clear xf
  obtain ⟨ga, oa, rfl, hga, hca⟩ := hA0.out (by omega)
  have hcell := hca cpu.toNat (by omega)
  clear hca
  go_enter Try.func19, Try.ntmps19
  go_wp2_with (refine wpList_load_row rfl 25 _ rfl w.heap.size rfl 25 _ (0, 0) _ KB.out Try.underlying25 rfl (by kernel_rfl) ?_)
  refine (iBandOk_any q p s _ A' m m c c' hn hm f f' _ _ (Below.refl _ _) hA0.out hA1.out).mono ?_
  rintro e w1 ⟨rfl, hb1⟩
  have hB1 : Below W.heap.size W w1 := (hb.alloc hz _).trans (hb1.mono (by simp; omega))
  have kb1 := KB.out.below hb1 (by simp)
  have hcell1 := (hb1.cell (p := ⟨ga, oa + cpu.toNat, none⟩) hga).trans hcell
  clear hb1 hcell
  obtain ⟨_, c1, _, c3, _⟩ := kb1.five
  clear kb1
  go_wp2_with (go_at_call 27; refine (inRange_any _ _ _ _).mono ?_; rintro e w' ⟨rfl, rfl⟩)
  go_region
  all_goals
    go_wp2
    go_ret
    exact ⟨rfl, hB1.drew⟩
set_option maxHeartbeats 400000 in
theorem sBandFree_any (q p s : Int) (A A' : Option Addr) (n m c c' : Nat) (hn : (n : Int) ≤ 9223372036854775807) (hm : (m : Int) ≤ 9223372036854775807) (f : Nat → Int) (f' : Nat → Bool) (cpu : Int) (w W : World) (hb : Below W.heap.size W w)
    (hA : Rw W W.heap.size A n fun i => .int .i64 (f i)) (hA' : Rw W W.heap.size A' m fun i => .bool (f' i)) :
    Calls Try.prog 18 #[.agg #[.int .i64 q, .int .i64 p, .int .i64 s, .slice A n c, .slice A' m c'], .int .i64 cpu] w fun e w' => e = .returned (.int .i64 (bandFree q p s n m f f' cpu)) ∧ Below W.heap.size W w' := by
  have hz := hb.size
  have kb := Bk.new w 25 #[.int .i64 q, .int .i64 p, .int .i64 s, .slice A n c, .slice A' m c']
  have hA0 := Lib.hid (hA.at_ (w := w.alloc (.cells #[.int .i64 q, .int .i64 p, .int .i64 s, .slice A n c, .slice A' m c'] 25)) (hb.alloc hz _))
  have hA1 := Lib.hid (hA'.at_ (w := w.alloc (.cells #[.int .i64 q, .int .i64 p, .int .i64 s, .slice A n c, .slice A' m c'] 25)) (hb.alloc hz _))
  have KB := Lib.hid kb
  clear hA hA' kb
  unfold bandFree
  cases h1 : bandOk q p s n m f f'
  · go_enter Try.func18, Try.ntmps18
    go_wp2_with (refine wpList_load_row rfl 25 _ rfl w.heap.size rfl 25 _ (0, 0) _ KB.out Try.underlying25 rfl (by kernel_rfl) ?_)
    refine (sBandOk_any q p s A A' n m c c' hn hm f f' _ _ (Below.refl _ _) hA0.out hA1.out).mono ?_
    rintro e w1 ⟨rfl, hb1⟩
    have hB1 : Below W.heap.size W w1 := (hb.alloc hz _).trans (hb1.mono (by simp; omega))
    clear hb1
    go_wp2_with fail
    go_ret
    exact ⟨rfl, hB1⟩
  obtain ⟨_, x2, x3, x4, rfl, x5, x6, _, _, xf, _⟩ := bandOk_facts q p s n m f f' h1
  cases h2 : inR cpu 0 ((m : Int) - 1)
  · go_enter Try.func18, Try.ntmps18
    go_wp2_with (refine wpList_load_row rfl 25 _ rfl w.heap.size rfl 25 _ (0, 0) _ KB.out Try.underlying25 rfl (by kernel_rfl) ?_)
    refine (sBandOk_any q p s A A' m m c c' hn hm f f' _ _ (Below.refl _ _) hA0.out hA1.out).mono ?_
    rintro e w1 ⟨rfl, hb1⟩
    have hB1 : Below W.heap.size W w1 := (hb.alloc hz _).trans (hb1.mono (by simp; omega))
    have kb1 := KB.out.below hb1 (by simp)
    clear hb1
    obtain ⟨_, _, _, c3, _⟩ := kb1.five
    clear kb1
    go_wp2_with (go_at_call 26; refine (l1In_any _ _ _ _).mono ?_; rintro e w' ⟨rfl, rfl⟩)
    go_ret
    exact ⟨rfl, hB1⟩
  obtain ⟨y1, y2⟩ := inR_iff.1 h2
  obtain ⟨z1, z2, _⟩ := xf cpu.toNat (by omega)
  clear xf
  obtain ⟨ga, oa, rfl, hga, hca⟩ := hA0.out (by omega)
  have hcell := hca cpu.toNat (by omega)
  clear hca
  go_enter Try.func18, Try.ntmps18
  go_wp2_with (refine wpList_load_row rfl 25 _ rfl w.heap.size rfl 25 _ (0, 0) _ KB.out Try.underlying25 rfl (by kernel_rfl) ?_)
  refine (sBandOk_any q p s _ A' m m c c' hn hm f f' _ _ (Below.refl _ _) hA0.out hA1.out).mono ?_
  rintro e w1 ⟨rfl, hb1⟩
  have hB1 : Below W.heap.size W w1 := (hb.alloc hz _).trans (hb1.mono (by simp; omega))
  have kb1 := KB.out.below hb1 (by simp)
  have hcell1 := (hb1.cell (p := ⟨ga, oa + cpu.toNat, none⟩) hga).trans hcell
  clear hb1 hcell
  obtain ⟨_, c1, _, c3, _⟩ := kb1.five
  clear kb1
  go_wp2_with (go_at_call 26; refine (l1In_any _ _ _ _).mono ?_; rintro e w' ⟨rfl, rfl⟩)
  go_region
  all_goals
    go_wp2
    go_ret
    exact ⟨rfl, hB1.drew⟩
end Go.Proofs.Ytbgmjcfnehnicaa

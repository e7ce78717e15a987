/-
  Bands: spec's BandDo, a case.
-/
import Derived.Test.YtfckhpkebdpkbaaPlayL9
namespace Go.Proofs.Ytfckhpkebdpkbaa
open Go.RowKit
set_option maxRecDepth 100000 in
set_option maxHeartbeats 4000000 in
theorem sBandDo_k4 (q p s : Int) (A A' : Option Addr) (n m c c' : Nat) (hn : n ≤ 1048576) (hm : m ≤ 1048576) (f : Nat → Int) (f' : Nat → Bool) (cpu k : Int) (w W : World) (hb : Below W.heap.size W w) 
    (hA : Rw W W.heap.size A n fun i => .int .i64 (f i)) (hA' : Rw W W.heap.size A' m fun i => .bool (f' i)) :
    Calls Try.prog 22 #[.agg #[.int .i64 q, .int .i64 p, .int .i64 s, .slice A n c, .slice A' m c'], .agg #[.int .i64 4, .int .i64 cpu, .int .i64 k]] w (DoPostR 3 (bandOk q p s n m f f') q n (bandStep q n 4 cpu k ⟨p, s, f, f'⟩) w) := by
  have HA := Lib.hid (hA.at_ hb)
  have HA' := Lib.hid (hA'.at_ hb)
  clear hA hA'
  have k0 := ((Bk.new w 29 #[.int .i64 q, .int .i64 p, .int .i64 s, .slice A n c, .slice A' m c']).alloc (.cells #[.int .i64 4, .int .i64 cpu, .int .i64 k] 48)).alloc (.cells #[.int .i64 0, .int .i64 0, .int .i64 0, .slice none 0 0, .slice none 0 0] 29)
  have k1 := (Bk.new' (w.alloc (.cells #[.int .i64 q, .int .i64 p, .int .i64 s, .slice A n c, .slice A' m c'] 29)) (w.heap.size + 1) 48 #[.int .i64 4, .int .i64 cpu, .int .i64 k] (by simp)).alloc (.cells #[.int .i64 0, .int .i64 0, .int .i64 0, .slice none 0 0, .slice none 0 0] 29)
  have k2 := Bk.new' ((w.alloc (.cells #[.int .i64 q, .int .i64 p, .int .i64 s, .slice A n c, .slice A' m c'] 29)).alloc (.cells #[.int .i64 4, .int .i64 cpu, .int .i64 k] 48)) (w.heap.size + 1 + 1) 29 #[.int .i64 0, .int .i64 0, .int .i64 0, .slice none 0 0, .slice none 0 0] (by simp)
  have K0 := Lib.hid k0
  have K1 := Lib.hid k1
  have K2 := Lib.hid k2
  clear k0 k1 k2
  go_enter Try.func22, Try.ntmps22
  go_wp2_with (refine wpList_load_row rfl 29 _ rfl w.heap.size rfl 29 _ (0, 0) _ K0.out Try.underlying29 rfl (by kernel_rfl) ?_)
  refine (sBandOk_any q p s A A' n m c c' (by omega) (by omega) f f' _ _ (Below.refl _ _) (HA.out.at_ (by go_grown)) (HA'.out.at_ (by go_grown))).mono ?_
  rintro e w1 ⟨rfl, hb1⟩
  have hz1 := hb1.size
  simp only [World.size_alloc] at hz1
  have hB1 : Below w.heap.size w w1 := (by go_grown : Below w.heap.size w _).trans (hb1.mono (by simp; omega))
  have k0 := K0.out.below hb1 (by simp; omega)
  have k1 := K1.out.below hb1 (by simp)
  have k2 := K2.out.below hb1 (by simp)
  clear hb1 K0 K1 K2
  cases h0 : bandOk q p s n m f f'
  · obtain ⟨r0, r1, r2, r3, r4⟩ := k2.five
    have rf := k2.frees
    have HB1 := Lib.hid hB1
    have HF := Lib.hid h0
    clear k0 k1 k2 hB1 h0
    go_wp2
    refine bodyPost_ret (v := .tuple #[.agg #[.int .i64 0, .int .i64 0, .int .i64 0, .slice none 0 0, .slice none 0 0], .int .i64 1]) (by simp [results, Try.results22, go_sem, r0, r1, r2, r3, r4]) rfl ?_
    rw [HF.out]
    refine DoPostR.no ?_
    have hB := HB1.out
    go_grown
  obtain ⟨a1, a2, a3, a4, rfl, a5, a6, a7, a8, a9, a10⟩ := bandOk_facts _ _ _ _ _ _ _ h0
  have HOK : Hid (bOk q m ⟨p, s, f, f'⟩ = true) := h0
  have A9 := Lib.hid a9
  clear a9 h0
  have K0 := Lib.hid k0
  have K1 := Lib.hid k1
  have K2 := Lib.hid k2
  have HB1 := Lib.hid hB1
  clear k0 k1 k2 hB1
  go_wp2_with (refine wpList_load_row rfl 29 _ rfl w.heap.size rfl 29 _ (0, 0) _ K0.out Try.underlying29 rfl (by kernel_rfl) ?_)
  refine (l5Own_any q p s A A' m c c' a3 a4 f f' w1 w HB1.out HA.out HA'.out).mono ?_
  rintro e w2 ⟨gl, gd, cl, cd, rfl, hg1, hg2, hne, hl2, hd2, hr2, hb2⟩
  have hz2 := hb2.size
  have k0 := K0.out.below hb2 (by omega)
  have k1 := K1.out.below hb2 (by omega)
  have k2 := K2.out.below hb2 (by omega)
  have HB2 := Lib.hid (bel HB1.out hb2)
  have hlt1 := hl2.1
  have hlt2 := hd2.1
  have HL2 := Lib.hid hl2
  have HD2 := Lib.hid hd2
  have HR2 := Lib.hid hr2
  have K0a := Lib.hid k0
  have K1a := Lib.hid k1
  have K2a := Lib.hid k2
  clear hb2 K0 K1 K2 HB1 hl2 hd2 hr2 k0 k1 k2
  have HBI : Hid (∀ x : World, Calls Try.prog 37 #[.int .i64 cpu, .int .i64 0, .int .i64 ((m : Int) - 1)] x fun e w' => e = .returned (.bool (inR cpu 0 ((m : Int) - 1))) ∧ x = w') := fun x => l1In_any _ _ _ x
  have hmk := fun w => make_toIntS m hn w
  go_wp2_with (first | (refine wpList_store_row rfl 29 _ _ rfl w.heap.size _ rfl rfl 29 _ K0a.out (by kernel_rfl) rfl (by kernel_rfl) ?_; have HX := Lib.hid (OwnX.mk' (q := q) (p := p) (s := s) (cl := cl) (cd := cd) K0a.out K1a.out K2a.out HL2.out HD2.out HR2.out HB2.out (by omega) (by omega)); clear K0a K1a K2a HL2 HD2 HR2 HB2; generalize w2.setRow w.heap.size _ = x at *; obtain ⟨b0, b1, b2, b3, b4⟩ := HX.out.box.five; have bf := HX.out.box.frees; obtain ⟨o0, o1, o2⟩ := HX.out.op.three; obtain ⟨r0, r1, r2, r3, r4⟩ := HX.out.res.five; have rf := HX.out.res.frees; have hgx : gl < x.heap.size := HX.out.fl.1; have hgy : gd < x.heap.size := HX.out.fd.1; have hzx : w.heap.size + 1 + 1 < x.heap.size := HX.out.res.lt; have b3a := fun o => (((HX.out.box.put 1 (.int .i64 q)).put 2 (.int .i64 0)).alloc o).five.2.2.2.1; have b3f := fun o => (((HX.out.box.put 1 (.int .i64 q)).put 2 (.int .i64 0)).alloc o).free 3; have KX : Hid (Bk ((((x.setCell ⟨w.heap.size, 1, none⟩ (.int .i64 q)).setCell ⟨w.heap.size, 2, none⟩ (.int .i64 0)).alloc (.cells (madeCells #[.int .i64 0] m) 3)).setCell ⟨w.heap.size, 3, none⟩ (.slice (some ⟨x.heap.size, 0, none⟩) m m)) w.heap.size 29 #[.int .i64 q, .int .i64 q, .int .i64 0, .slice (some ⟨x.heap.size, 0, none⟩) m m, .slice (some ⟨gd, 0, none⟩) m cd]) := (((HX.out.box.put 1 _).put 2 _).alloc _).put 3 _; have KR : Hid (Bk ((((x.setCell ⟨w.heap.size, 1, none⟩ (.int .i64 q)).setCell ⟨w.heap.size, 2, none⟩ (.int .i64 0)).alloc (.cells (madeCells #[.int .i64 0] m) 3)).setCell ⟨w.heap.size, 3, none⟩ (.slice (some ⟨x.heap.size, 0, none⟩) m m)) (w.heap.size + 1 + 1) 29 #[.int .i64 0, .int .i64 0, .int .i64 0, .slice none 0 0, .slice none 0 0]) := (((HX.out.res.off (by simp; omega) _).off (by simp; omega) _).alloc _).off (by simp; omega) _; have KD : Hid (OwnV ((((x.setCell ⟨w.heap.size, 1, none⟩ (.int .i64 q)).setCell ⟨w.heap.size, 2, none⟩ (.int .i64 0)).alloc (.cells (madeCells #[.int .i64 0] m) 3)).setCell ⟨w.heap.size, 3, none⟩ (.slice (some ⟨x.heap.size, 0, none⟩) m m)) gd m (fun i => .bool (f' i))) := ((((HX.out.fd.off (by simp; omega) _).off (by simp; omega) _).same (Below.heap_alloc _ _ _ (by simpa using hgy)) (by simp)).off (by simp; omega) _); have KL : Hid (OwnV ((((x.setCell ⟨w.heap.size, 1, none⟩ (.int .i64 q)).setCell ⟨w.heap.size, 2, none⟩ (.int .i64 0)).alloc (.cells (madeCells #[.int .i64 0] m) 3)).setCell ⟨w.heap.size, 3, none⟩ (.slice (some ⟨x.heap.size, 0, none⟩) m m)) x.heap.size m (fun _ => .int .i64 0)) := ((Own1.ownV (t := 3) ⟨_, Bk.new' _ x.heap.size _ _ (by simp), (made1 (.int .i64 0) m).1, (made1 (.int .i64 0) m).2⟩).off (by simp; omega) _); have KM : Hid (RoomV 3 ((((x.setCell ⟨w.heap.size, 1, none⟩ (.int .i64 q)).setCell ⟨w.heap.size, 2, none⟩ (.int .i64 0)).alloc (.cells (madeCells #[.int .i64 0] m) 3)).setCell ⟨w.heap.size, 3, none⟩ (.slice (some ⟨x.heap.size, 0, none⟩) m m)) x.heap.size m m) := (RoomV.set (c := m) ⟨_, Bk.new' _ x.heap.size _ _ (by simp), (made1 (.int .i64 0) m).1, Nat.le_refl _, by unfold maxLen; omega⟩ _ _ _); have KB : Hid (Below w.heap.size w ((((x.setCell ⟨w.heap.size, 1, none⟩ (.int .i64 q)).setCell ⟨w.heap.size, 2, none⟩ (.int .i64 0)).alloc (.cells (madeCells #[.int .i64 0] m) 3)).setCell ⟨w.heap.size, 3, none⟩ (.slice (some ⟨x.heap.size, 0, none⟩) m m))) := (((HX.out.bel.setCell (by simp) _).setCell (by simp) _).alloc (by simp; omega) _).setCell (by simp) _) | (refine wpList_load_row rfl 29 _ rfl w.heap.size rfl 29 _ (0, 0) _ KX.out Try.underlying29 rfl (by kernel_rfl) ?_))
  refine (l5Wet_any q q 0 _ m m m cd gd f' hn _ KD.out).mono ?_
  rintro e w5 ⟨rfl, hd5, hk5⟩
  have hz5 := hk5.size
  simp only [World.size_setCell, World.size_alloc] at hz5
  have k2 := KR.out.kept hk5 (by omega)
  obtain ⟨r0, r1, r2, r3, r4⟩ := k2.five
  have rf := k2.frees
  have KL5 := Lib.hid (KL.out.kept hk5 (by omega))
  have KM5 := Lib.hid (KM.out.kept hk5 (by omega))
  have KD5 := Lib.hid hd5
  have KB5 := Lib.hid (KB.out.trans (hk5.below (by simp; omega) (fun j hj => by omega)))
  clear hk5 hd5 k2 KX KR KD KL KM KB b0 b1 b2 b3 b4 bf o0 o1 o2 b3a b3f
  go_wp2
  refine bodyPost_ret (v := .tuple #[.agg #[.int .i64 q, .int .i64 (q), .int .i64 (0), .slice (some ⟨x.heap.size, 0, none⟩) m m, .slice (some ⟨gd, 0, none⟩) m cd], .int .i64 0]) (by simp [results, Try.results22, go_sem, r0, r1, r2, r3, r4]) rfl ?_
  rw [show bandOk q p s m m f f' = true from HOK.out, step_refill]
  refine DoPostR.yes ?_ (b' := ⟨q, 0, fun _ => 0, fun _ => false⟩) rfl rfl (fun _ _ => rfl) (fun _ _ => rfl) (((((KL5.out.off ?_ _).off ?_ _).off ?_ _).off ?_ _).off ?_ _) (((((KD5.out.off ?_ _).off ?_ _).off ?_ _).off ?_ _).off ?_ _) (by omega) (by omega) (by omega) ?_
  all_goals first | ((repeat (first | with_reducible exact KM5.out | with_reducible exact RoomV.drewN KM5.out _ | with_reducible refine RoomV.set ?_ _ _ _ | with_reducible refine RoomV.drew ?_ | with_reducible refine RoomV.drewN ?_ _)); done) | (simp; omega) | skip
  have hB := KB5.out
  go_grown
end Go.Proofs.Ytfckhpkebdpkbaa

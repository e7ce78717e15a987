/-
  Bands: spec's BandDo, a case.
-/
import Derived.Test.YtfckhpkebdpkbaaPlayL9
namespace Go.Proofs.Ytfckhpkebdpkbaa
open Go.RowKit
set_option maxRecDepth 100000 in
set_option maxHeartbeats 4000000 in
theorem sBandDo_k3 (q p s : Int) (A A' : Option Addr) (n m c c' : Nat) (hn : n ≤ 1048576) (hm : m ≤ 1048576) (f : Nat → Int) (f' : Nat → Bool) (cpu k : Int) (w W : World) (hb : Below W.heap.size W w) (ec : inR cpu 0 ((n : Int) - 1) = true)
    (hA : Rw W W.heap.size A n fun i => .int .i64 (f i)) (hA' : Rw W W.heap.size A' m fun i => .bool (f' i)) :
    Calls Try.prog 22 #[.agg #[.int .i64 q, .int .i64 p, .int .i64 s, .slice A n c, .slice A' m c'], .agg #[.int .i64 3, .int .i64 cpu, .int .i64 k]] w (DoPostR 3 (bandOk q p s n m f f') q n (bandStep q n 3 cpu k ⟨p, s, f, f'⟩) w) := by
  have HA := Lib.hid (hA.at_ hb)
  have HA' := Lib.hid (hA'.at_ hb)
  clear hA hA'
  have k0 := ((Bk.new w 29 #[.int .i64 q, .int .i64 p, .int .i64 s, .slice A n c, .slice A' m c']).alloc (.cells #[.int .i64 3, .int .i64 cpu, .int .i64 k] 48)).alloc (.cells #[.int .i64 0, .int .i64 0, .int .i64 0, .slice none 0 0, .slice none 0 0] 29)
  have k1 := (Bk.new' (w.alloc (.cells #[.int .i64 q, .int .i64 p, .int .i64 s, .slice A n c, .slice A' m c'] 29)) (w.heap.size + 1) 48 #[.int .i64 3, .int .i64 cpu, .int .i64 k] (by simp)).alloc (.cells #[.int .i64 0, .int .i64 0, .int .i64 0, .slice none 0 0, .slice none 0 0] 29)
  have k2 := Bk.new' ((w.alloc (.cells #[.int .i64 q, .int .i64 p, .int .i64 s, .slice A n c, .slice A' m c'] 29)).alloc (.cells #[.int .i64 3, .int .i64 cpu, .int .i64 k] 48)) (w.heap.size + 1 + 1) 29 #[.int .i64 0, .int .i64 0, .int .i64 0, .slice none 0 0, .slice none 0 0] (by simp)
  have K0 := Lib.hid k0
  have K1 := Lib.hid k1
  have K2 := Lib.hid k2
  clear k0 k1 k2
  go_enter Try.func22, Try.ntmps22
  go_wp2_with (refine wpList_load_row rfl 29 _ rfl w.heap.size rfl 29 _ (0, 0) _ K0.out Try.underlying29 rfl (by kernel_rfl) ?_)
  refine (sBandOk_any q p s A A' n m c c' (by omega) (by omega) f f' _ _ (Below.refl _ _) (HA.out.at_ (by go_grown)) (HA'.out.at_ (by go_grown))).mono ?_
  rintro e w1 ⟨rfl, hb1⟩
  have hz1 := hb1.size
  simp only [World.size_alloc] at hz1
  have hB1 : Below w.heap.size w w1 := (by go_grown : Below w.heap.size w _).trans (hb1.mono (by simp; omega))
  have k0 := K0.out.below hb1 (by simp; omega)
  have k1 := K1.out.below hb1 (by simp)
  have k2 := K2.out.below hb1 (by simp)
  clear hb1 K0 K1 K2
  cases h0 : bandOk q p s n m f f'
  · obtain ⟨r0, r1, r2, r3, r4⟩ := k2.five
    have rf := k2.frees
    have HB1 := Lib.hid hB1
    have HF := Lib.hid h0
    clear k0 k1 k2 hB1 h0
    go_wp2
    refine bodyPost_ret (v := .tuple #[.agg #[.int .i64 0, .int .i64 0, .int .i64 0, .slice none 0 0, .slice none 0 0], .int .i64 1]) (by simp [results, Try.results22, go_sem, r0, r1, r2, r3, r4]) rfl ?_
    rw [HF.out]
    refine DoPostR.no ?_
    have hB := HB1.out
    go_grown
  obtain ⟨a1, a2, a3, a4, rfl, a5, a6, a7, a8, a9, a10⟩ := bandOk_facts _ _ _ _ _ _ _ h0
  have HOK : Hid (bOk q m ⟨p, s, f, f'⟩ = true) := h0
  have A9 := Lib.hid a9
  clear a9 h0
  have K0 := Lib.hid k0
  have K1 := Lib.hid k1
  have K2 := Lib.hid k2
  have HB1 := Lib.hid hB1
  clear k0 k1 k2 hB1
  go_wp2_with (refine wpList_load_row rfl 29 _ rfl w.heap.size rfl 29 _ (0, 0) _ K0.out Try.underlying29 rfl (by kernel_rfl) ?_)
  refine (l5Own_any q p s A A' m c c' a3 a4 f f' w1 w HB1.out HA.out HA'.out).mono ?_
  rintro e w2 ⟨gl, gd, cl, cd, rfl, hg1, hg2, hne, hl2, hd2, hr2, hb2⟩
  have hz2 := hb2.size
  have k0 := K0.out.below hb2 (by omega)
  have k1 := K1.out.below hb2 (by omega)
  have k2 := K2.out.below hb2 (by omega)
  have HB2 := Lib.hid (bel HB1.out hb2)
  have hlt1 := hl2.1
  have hlt2 := hd2.1
  have HL2 := Lib.hid hl2
  have HD2 := Lib.hid hd2
  have HR2 := Lib.hid hr2
  have K0a := Lib.hid k0
  have K1a := Lib.hid k1
  have K2a := Lib.hid k2
  clear hb2 K0 K1 K2 HB1 hl2 hd2 hr2 k0 k1 k2
  have HBI : Hid (∀ x : World, Calls Try.prog 37 #[.int .i64 cpu, .int .i64 0, .int .i64 ((m : Int) - 1)] x fun e w' => e = .returned (.bool (inR cpu 0 ((m : Int) - 1))) ∧ x = w') := fun x => l1In_any _ _ _ x
  have EC := Lib.hid ec
  obtain ⟨g1, g2⟩ := inR_iff.1 ec
  have hc1 : cpu < (m : Int) := by omega
  have HCL : Hid (cpu.toNat < m) := by show cpu.toNat < m; omega
  obtain ⟨l1, l2, l3⟩ := A9.out cpu.toNat HCL.out
  have L3 := Lib.hid l3
  rw [ec] at HBI
  clear ec l3
  by_cases t1 : 0 < p + f cpu.toNat
  · have T1 := Lib.hid t1
    have HWET : Hid (∀ (y : World) (d : Nat → Bool) (vl : Int), OwnV y gd m (fun i => .bool (d i)) → Calls Try.prog 38 #[.agg #[.int .i64 q, .int .i64 vl, .int .i64 s, .slice (some ⟨gl, 0, none⟩) m cl, .slice (some ⟨gd, 0, none⟩) m cd]] y fun e w' => e = .returned (.agg #[.int .i64 q, .int .i64 vl, .int .i64 s, .slice (some ⟨gl, 0, none⟩) m cl, .slice (some ⟨gd, 0, none⟩) m cd]) ∧ OwnV w' gd m (fun _ => .bool false) ∧ Kept (fun x => x = gd) y w') := fun y d vl h => l5Wet_any q vl s _ m m cl cd gd d hn y h
    go_wp2_with (first | (refine wpList_store_row rfl 29 _ _ rfl w.heap.size _ rfl rfl 29 _ K0a.out (by kernel_rfl) rfl (by kernel_rfl) ?_; have HX := Lib.hid (OwnX.mk' (q := q) (p := p) (s := s) (cl := cl) (cd := cd) K0a.out K1a.out K2a.out HL2.out HD2.out HR2.out HB2.out (by omega) (by omega)); clear K0a K1a K2a HL2 HD2 HR2 HB2; generalize w2.setRow w.heap.size _ = x at *; obtain ⟨b0, b1, b2, b3, b4⟩ := HX.out.box.five; have bf := HX.out.box.frees; obtain ⟨o0, o1, o2⟩ := HX.out.op.three; obtain ⟨r0, r1, r2, r3, r4⟩ := HX.out.res.five; have rf := HX.out.res.frees; have d0 := HX.out.fl.2.1 cpu.toNat HCL.out; have d1 := HX.out.fl.2.2 cpu.toNat HCL.out; have d2 := HX.out.fd.2.1 cpu.toNat HCL.out; have d3 := HX.out.fd.2.2 cpu.toNat HCL.out) | (go_at_call 37; refine (HBI.out _).mono ?_; rintro e w' ⟨rfl, rfl⟩))
    go_still_tail 9, (by kernel_rfl)
    change wpList _ _ _ _ _ x.drew
    have BC := Lib.hid (((HX.out.band (by omega) (by omega) hne).setP (p + f cpu.toNat)).setF (c := cpu.toNat) HCL.out 0)
    go_wp2_with fail
    refine (HWET.out _ f' _ BC.out.fd.drew).mono ?_
    rintro e w5 ⟨rfl, hd5, hk5⟩
    have hz5 := hk5.size
    simp only [World.size_setCell, World.size_drew] at hz5
    have hgx : gl < x.heap.size := HX.out.fl.1
    have hgy : gd < x.heap.size := HX.out.fd.1
    have hzx : w.heap.size + 1 + 1 < x.heap.size := HX.out.res.lt
    have K0b := Lib.hid (((HX.out.box.put 1 (.int .i64 (p + f cpu.toNat))).off (p := ⟨gl, cpu.toNat, none⟩) (by simp; omega) (.int .i64 0)).drew.kept hk5 (by omega))
    have k2 := ((HX.out.res.off (p := ⟨w.heap.size, 1, none⟩) (by simp; omega) (.int .i64 (p + f cpu.toNat))).off (p := ⟨gl, cpu.toNat, none⟩) (by simp; omega) (.int .i64 0)).drew.kept hk5 (by omega)
    have KL5 := Lib.hid (BC.out.fl.drew.kept hk5 (by omega))
    have KM5 := Lib.hid ((((HX.out.rl.set w.heap.size 1 (.int .i64 (p + f cpu.toNat))).set gl cpu.toNat (.int .i64 0)).drew).kept hk5 (by omega))
    have KD5 := Lib.hid hd5
    have KB5 := Lib.hid (((HX.out.bel.setCell (p := ⟨w.heap.size, 1, none⟩) (by simp) (.int .i64 (p + f cpu.toNat))).setCell (p := ⟨gl, cpu.toNat, none⟩) (by simp; omega) (.int .i64 0)).drew.trans (hk5.below (by simp; omega) (fun j hj => by omega)))
    have K2b := Lib.hid k2
    clear hk5 hd5 k2 BC b0 b1 b2 b3 b4 bf o0 o1 o2 d0 d1 d2 d3 r0 r1 r2 r3 r4 rf HX HWET
    have hlt5 : w.heap.size < w5.heap.size := by omega
    go_wp2_with (refine wpList_store_row rfl 29 _ _ rfl w.heap.size _ rfl rfl 29 _ K0b.out (by kernel_rfl) rfl (by kernel_rfl) ?_; have hK0 := setRow_heap w5 w.heap.size _ #[.int .i64 q, .int .i64 (p + f cpu.toNat), .int .i64 s, .slice (some ⟨gl, 0, none⟩) m cl, .slice (some ⟨gd, 0, none⟩) m cd] _ _ K0b.out; have k2 := K2b.out.rowOff (g' := w.heap.size) (by omega) #[.int .i64 q, .int .i64 (p + f cpu.toNat), .int .i64 s, .slice (some ⟨gl, 0, none⟩) m cl, .slice (some ⟨gd, 0, none⟩) m cd]; have KL6 := Lib.hid (KL5.out.same (setRow_other w5 w.heap.size gl #[.int .i64 q, .int .i64 (p + f cpu.toNat), .int .i64 s, .slice (some ⟨gl, 0, none⟩) m cl, .slice (some ⟨gd, 0, none⟩) m cd] (by omega)) (by simp [World.setRow])); have KM6 := Lib.hid (KM5.out.same (setRow_other w5 w.heap.size gl #[.int .i64 q, .int .i64 (p + f cpu.toNat), .int .i64 s, .slice (some ⟨gl, 0, none⟩) m cl, .slice (some ⟨gd, 0, none⟩) m cd] (by omega))); have KD6 := Lib.hid (KD5.out.same (setRow_other w5 w.heap.size gd #[.int .i64 q, .int .i64 (p + f cpu.toNat), .int .i64 s, .slice (some ⟨gl, 0, none⟩) m cl, .slice (some ⟨gd, 0, none⟩) m cd] (by omega)) (by simp [World.setRow])); have KB6 := Lib.hid (below_setRow KB5.out (Nat.le_refl _) #[.int .i64 q, .int .i64 (p + f cpu.toNat), .int .i64 s, .slice (some ⟨gl, 0, none⟩) m cl, .slice (some ⟨gd, 0, none⟩) m cd]); clear K0b K2b KL5 KM5 KD5 KB5; generalize w5.setRow w.heap.size _ = y at *; obtain ⟨b0, b1, b2, b3, b4⟩ := Bk.five hK0; obtain ⟨r0, r1, r2, r3, r4⟩ := k2.five; have rf := k2.frees; clear hK0 k2)
    refine bodyPost_ret (v := .tuple #[.agg #[.int .i64 q, .int .i64 (p + f cpu.toNat), .int .i64 (s), .slice (some ⟨gl, 0, none⟩) m cl, .slice (some ⟨gd, 0, none⟩) m cd], .int .i64 0]) (by simp [results, Try.results22, go_sem, r0, r1, r2, r3, r4]) rfl ?_
    rw [show bandOk q p s m m f f' = true from HOK.out, step_return EC.out]
    refine DoPostR.yes ?_ (b' := ⟨p + f cpu.toNat, s, setAt f cpu.toNat 0, fun _ => false⟩) rfl rfl (fun _ _ => rfl) (fun i _ => by show false = (if 0 < p + f cpu.toNat then fun _ => false else f') i; rw [if_pos T1.out]) (((((KL6.out.off ?_ _).off ?_ _).off ?_ _).off ?_ _).off ?_ _) (((((KD6.out.off ?_ _).off ?_ _).off ?_ _).off ?_ _).off ?_ _) (by omega) (by omega) hne ?_
    all_goals first | ((repeat (first | with_reducible exact KM6.out | with_reducible exact RoomV.drewN KM6.out _ | with_reducible refine RoomV.set ?_ _ _ _ | with_reducible refine RoomV.drew ?_ | with_reducible refine RoomV.drewN ?_ _)); done) | (simp; omega) | skip
    have hB := KB6.out
    go_grown
  have T1 := Lib.hid t1
  go_wp2_with (first | (refine wpList_store_row rfl 29 _ _ rfl w.heap.size _ rfl rfl 29 _ K0a.out (by kernel_rfl) rfl (by kernel_rfl) ?_; have HX := Lib.hid (OwnX.mk' (q := q) (p := p) (s := s) (cl := cl) (cd := cd) K0a.out K1a.out K2a.out HL2.out HD2.out HR2.out HB2.out (by omega) (by omega)); clear K0a K1a K2a HL2 HD2 HR2 HB2; generalize w2.setRow w.heap.size _ = x at *; obtain ⟨b0, b1, b2, b3, b4⟩ := HX.out.box.five; have bf := HX.out.box.frees; obtain ⟨o0, o1, o2⟩ := HX.out.op.three; obtain ⟨r0, r1, r2, r3, r4⟩ := HX.out.res.five; have rf := HX.out.res.frees; have d0 := HX.out.fl.2.1 cpu.toNat HCL.out; have d1 := HX.out.fl.2.2 cpu.toNat HCL.out; have d2 := HX.out.fd.2.1 cpu.toNat HCL.out; have d3 := HX.out.fd.2.2 cpu.toNat HCL.out) | (go_at_call 37; refine (HBI.out _).mono ?_; rintro e w' ⟨rfl, rfl⟩))
  go_still_tail 9, (by kernel_rfl)
  change wpList _ _ _ _ _ x.drew
  go_wp2
  have BC := ((HX.out.band (by omega) (by omega) hne).setP (p + f cpu.toNat)).setF (c := cpu.toNat) HCL.out 0
  refine bodyPost_ret (v := .tuple #[.agg #[.int .i64 q, .int .i64 (p + f cpu.toNat), .int .i64 (s), .slice (some ⟨gl, 0, none⟩) m cl, .slice (some ⟨gd, 0, none⟩) m cd], .int .i64 0]) (by simp [results, Try.results22, go_sem, r0, r1, r2, r3, r4]) rfl ?_
  rw [show bandOk q p s m m f f' = true from HOK.out, step_return EC.out]
  refine DoPostR.yes ?_ (b' := ⟨p + f cpu.toNat, s, setAt f cpu.toNat 0, f'⟩) rfl rfl (fun _ _ => rfl) (fun i _ => by show f' i = (if 0 < p + f cpu.toNat then fun _ => false else f') i; rw [if_neg (by have := T1.out; omega)]) (((((BC.fl.off ?_ _).off ?_ _).off ?_ _).off ?_ _).off ?_ _).drew (((((BC.fd.off ?_ _).off ?_ _).off ?_ _).off ?_ _).off ?_ _).drew (by omega) (by omega) hne ?_
  all_goals first | ((repeat (first | with_reducible exact HX.out.rl | with_reducible exact RoomV.drewN HX.out.rl _ | with_reducible refine RoomV.set ?_ _ _ _ | with_reducible refine RoomV.drew ?_ | with_reducible refine RoomV.drewN ?_ _)); done) | (simp; omega) | skip
  have hB := HX.out.bel
  go_grown
end Go.Proofs.Ytfckhpkebdpkbaa

/- Bands: spec's BandDo, a case. -/
namespace Go.Proofs.Ytfckhpkebdpkbaa
open Go.RowKit
set_option maxRecDepth 100000 in
set_option maxHeartbeats 4000000 in
theorem sBandDo_els (q p s : Int) (A A' : Option Addr) (n m c c' : Nat) (hn : n ≤ 1048576) (hm : m ≤ 1048576) (f : Nat → Int) (f' : Nat → Bool) (kind cpu k : Int) (w W : World) (hb : Below W.heap.size W w) (ec : inR cpu 0 ((n : Int) - 1) = true) (e1 : kind ≠ 1) (e2 : kind ≠ 2) (e3 : kind ≠ 3) (e4 : kind ≠ 4)
    (hA : Rw W W.heap.size A n fun i => .int .i64 (f i)) (hA' : Rw W W.heap.size A' m fun i => .bool (f' i)) :
    Calls Try.prog 22 #[.agg #[.int .i64 q, .int .i64 p, .int .i64 s, .slice A n c, .slice A' m c'], .agg #[.int .i64 kind, .int .i64 cpu, .int .i64 k]] w (DoPostR 3 (bandOk q p s n m f f') q n (bandStep q n kind cpu k ⟨p, s, f, f'⟩) w) := by
  have HA := Lib.hid (hA.at_ hb)
  have HA' := Lib.hid (hA'.at_ hb)
  clear hA hA'
  have k0 := ((Bk.new w 29 #[.int .i64 q, .int .i64 p, .int .i64 s, .slice A n c, .slice A' m c']).alloc (.cells #[.int .i64 kind, .int .i64 cpu, .int .i64 k] 48)).alloc (.cells #[.int .i64 0, .int .i64 0, .int .i64 0, .slice none 0 0, .slice none 0 0] 29)
  have k1 := (Bk.new' (w.alloc (.cells #[.int .i64 q, .int .i64 p, .int .i64 s, .slice A n c, .slice A' m c'] 29)) (w.heap.size + 1) 48 #[.int .i64 kind, .int .i64 cpu, .int .i64 k] (by simp)).alloc (.cells #[.int .i64 0, .int .i64 0, .int .i64 0, .slice none 0 0, .slice none 0 0] 29)
  have k2 := Bk.new' ((w.alloc (.cells #[.int .i64 q, .int .i64 p, .int .i64 s, .slice A n c, .slice A' m c'] 29)).alloc (.cells #[.int .i64 kind, .int .i64 cpu, .int .i64 k] 48)) (w.heap.size + 1 + 1) 29 #[.int .i64 0, .int .i64 0, .int .i64 0, .slice none 0 0, .slice none 0 0] (by simp)
  have K0 := Lib.hid k0
  have K1 := Lib.hid k1
  have K2 := Lib.hid k2
  clear k0 k1 k2
  go_enter Try.func22, Try.ntmps22
  go_wp2_with (refine wpList_load_row rfl 29 _ rfl w.heap.size rfl 29 _ (0, 0) _ K0.out Try.underlying29 rfl (by kernel_rfl) ?_)
  refine (sBandOk_any q p s A A' n m c c' (by omega) (by omega) f f' _ _ (Below.refl _ _) (HA.out.at_ (by go_grown)) (HA'.out.at_ (by go_grown))).mono ?_
  rintro e w1 ⟨rfl, hb1⟩
  have hz1 := hb1.size
  simp only [World.size_alloc] at hz1
  have hB1 : Below w.heap.size w w1 := (by go_grown : Below w.heap.size w _).trans (hb1.mono (by simp; omega))
  have k0 := K0.out.below hb1 (by simp; omega)
  have k1 := K1.out.below hb1 (by simp)
  have k2 := K2.out.below hb1 (by simp)
  clear hb1 K0 K1 K2
  cases h0 : bandOk q p s n m f f'
  · obtain ⟨r0, r1, r2, r3, r4⟩ := k2.five
    have rf := k2.frees
    have HB1 := Lib.hid hB1
    have HF := Lib.hid h0
    clear k0 k1 k2 hB1 h0
    go_wp2
    refine bodyPost_ret (v := .tuple #[.agg #[.int .i64 0, .int .i64 0, .int .i64 0, .slice none 0 0, .slice none 0 0], .int .i64 1]) (by simp [results, Try.results22, go_sem, r0, r1, r2, r3, r4]) rfl ?_
    rw [HF.out]
    refine DoPostR.no ?_
    have hB := HB1.out
    go_grown
  obtain ⟨a1, a2, a3, a4, rfl, a5, a6, a7, a8, a9, a10⟩ := bandOk_facts _ _ _ _ _ _ _ h0
  have HOK : Hid (bOk q m ⟨p, s, f, f'⟩ = true) := h0
  have A9 := Lib.hid a9
  clear a9 h0
  have K0 := Lib.hid k0
  have K1 := Lib.hid k1
  have K2 := Lib.hid k2
  have HB1 := Lib.hid hB1
  clear k0 k1 k2 hB1
  go_wp2_with (refine wpList_load_row rfl 29 _ rfl w.heap.size rfl 29 _ (0, 0) _ K0.out Try.underlying29 rfl (by kernel_rfl) ?_)
  refine (l5Own_any q p s A A' m c c' a3 a4 f f' w1 w HB1.out HA.out HA'.out).mono ?_
  rintro e w2 ⟨gl, gd, cl, cd, rfl, hg1, hg2, hne, hl2, hd2, hr2, hb2⟩
  have hz2 := hb2.size
  have k0 := K0.out.below hb2 (by omega)
  have k1 := K1.out.below hb2 (by omega)
  have k2 := K2.out.below hb2 (by omega)
  have HB2 := Lib.hid (bel HB1.out hb2)
  have hlt1 := hl2.1
  have hlt2 := hd2.1
  have HL2 := Lib.hid hl2
  have HD2 := Lib.hid hd2
  have HR2 := Lib.hid hr2
  have K0a := Lib.hid k0
  have K1a := Lib.hid k1
  have K2a := Lib.hid k2
  clear hb2 K0 K1 K2 HB1 hl2 hd2 hr2 k0 k1 k2
  have HBI : Hid (∀ x : World, Calls Try.prog 37 #[.int .i64 cpu, .int .i64 0, .int .i64 ((m : Int) - 1)] x fun e w' => e = .returned (.bool (inR cpu 0 ((m : Int) - 1))) ∧ x = w') := fun x => l1In_any _ _ _ x
  have e4' : (kind == 4) = false := by simp [e4]
  have E4 := Lib.hid e4
  have e1' : (kind == 1) = false := by simp [e1]
  have E1 := Lib.hid e1
  have e2' : (kind == 2) = false := by simp [e2]
  have E2 := Lib.hid e2
  have e3' : (kind == 3) = false := by simp [e3]
  have E3 := Lib.hid e3
  clear e1 e2 e3 e4
  have EC := Lib.hid ec
  obtain ⟨g1, g2⟩ := inR_iff.1 ec
  have hc1 : cpu < (m : Int) := by omega
  have HCL : Hid (cpu.toNat < m) := by show cpu.toNat < m; omega
  obtain ⟨l1, l2, l3⟩ := A9.out cpu.toNat HCL.out
  have L3 := Lib.hid l3
  rw [ec] at HBI
  clear ec l3
  go_wp2_with (first | (refine wpList_store_row rfl 29 _ _ rfl w.heap.size _ rfl rfl 29 _ K0a.out (by kernel_rfl) rfl (by kernel_rfl) ?_; have HX := Lib.hid (OwnX.mk' (q := q) (p := p) (s := s) (cl := cl) (cd := cd) K0a.out K1a.out K2a.out HL2.out HD2.out HR2.out HB2.out (by omega) (by omega)); clear K0a K1a K2a HL2 HD2 HR2 HB2; generalize w2.setRow w.heap.size _ = x at *; obtain ⟨b0, b1, b2, b3, b4⟩ := HX.out.box.five; have bf := HX.out.box.frees; obtain ⟨o0, o1, o2⟩ := HX.out.op.three; obtain ⟨r0, r1, r2, r3, r4⟩ := HX.out.res.five; have rf := HX.out.res.frees; have d0 := HX.out.fl.2.1 cpu.toNat HCL.out; have d1 := HX.out.fl.2.2 cpu.toNat HCL.out; have d2 := HX.out.fd.2.1 cpu.toNat HCL.out; have d3 := HX.out.fd.2.2 cpu.toNat HCL.out) | (go_at_call 37; refine (HBI.out _).mono ?_; rintro e w' ⟨rfl, rfl⟩))
  refine bodyPost_ret (v := .tuple #[.agg #[.int .i64 q, .int .i64 (p), .int .i64 (s), .slice (some ⟨gl, 0, none⟩) m cl, .slice (some ⟨gd, 0, none⟩) m cd], .int .i64 1]) (by simp [results, Try.results22, go_sem, r0, r1, r2, r3, r4]) rfl ?_
  rw [show bandOk q p s m m f f' = true from HOK.out, step_else E1.out E2.out E3.out E4.out]
  refine DoPostR.yes ?_ (b' := ⟨p, s, f, f'⟩) rfl rfl (fun _ _ => rfl) (fun _ _ => rfl) (((((HX.out.fl.off ?_ _).off ?_ _).off ?_ _).off ?_ _).off ?_ _) (((((HX.out.fd.off ?_ _).off ?_ _).off ?_ _).off ?_ _).off ?_ _) (by omega) (by omega) hne ?_
  all_goals first | ((repeat (first | with_reducible exact HX.out.rl | with_reducible exact RoomV.drewN HX.out.rl _ | with_reducible refine RoomV.set ?_ _ _ _ | with_reducible refine RoomV.drew ?_ | with_reducible refine RoomV.drewN ?_ _)); done) | (simp; omega) | skip
  have hB := HX.out.bel
  go_grown
end Go.Proofs.Ytfckhpkebdpkbaa

/-
  Bands: spec's BandDo, a case.
-/
import Derived.Test.YtfckhpkebdpkbaaPlayL9
namespace Go.Proofs.Ytfckhpkebdpkbaa
open Go.RowKit
set_option maxRecDepth 100000 in
set_option maxHeartbeats 4000000 in
theorem sBandDo_out (q p s : Int) (A A' : Option Addr) (n m c c' : Nat) (hn : n ≤ 1048576) (hm : m ≤ 1048576) (f : Nat → Int) (f' : Nat → Bool) (kind cpu k : Int) (w W : World) (hb : Below W.heap.size W w) (e4 : kind ≠ 4) (ec : inR cpu 0 ((n : Int) - 1) = false)
    (hA : Rw W W.heap.size A n fun i => .int .i64 (f i)) (hA' : Rw W W.heap.size A' m fun i => .bool (f' i)) :
    Calls Try.prog 22 #[.agg #[.int .i64 q, .int .i64 p, .int .i64 s, .slice A n c, .slice A' m c'], .agg #[.int .i64 kind, .int .i64 cpu, .int .i64 k]] w (DoPostR 3 (bandOk q p s n m f f') q n (bandStep q n kind cpu k ⟨p, s, f, f'⟩) w) := by
  have HA := Lib.hid (hA.at_ hb)
  have HA' := Lib.hid (hA'.at_ hb)
  clear hA hA'
  have k0 := ((Bk.new w 29 #[.int .i64 q, .int .i64 p, .int .i64 s, .slice A n c, .slice A' m c']).alloc (.cells #[.int .i64 kind, .int .i64 cpu, .int .i64 k] 48)).alloc (.cells #[.int .i64 0, .int .i64 0, .int .i64 0, .slice none 0 0, .slice none 0 0] 29)
  have k1 := (Bk.new' (w.alloc (.cells #[.int .i64 q, .int .i64 p, .int .i64 s, .slice A n c, .slice A' m c'] 29)) (w.heap.size + 1) 48 #[.int .i64 kind, .int .i64 cpu, .int .i64 k] (by simp)).alloc (.cells #[.int .i64 0, .int .i64 0, .int .i64 0, .slice none 0 0, .slice none 0 0] 29)
  have k2 := Bk.new' ((w.alloc (.cells #[.int .i64 q, .int .i64 p, .int .i64 s, .slice A n c, .slice A' m c'] 29)).alloc (.cells #[.int .i64 kind, .int .i64 cpu, .int .i64 k] 48)) (w.heap.size + 1 + 1) 29 #[.int .i64 0, .int .i64 0, .int .i64 0, .slice none 0 0, .slice none 0 0] (by simp)
  have K0 := Lib.hid k0
  have K1 := Lib.hid k1
  have K2 := Lib.hid k2
  clear k0 k1 k2
  go_enter Try.func22, Try.ntmps22
  go_wp2_with (refine wpList_load_row rfl 29 _ rfl w.heap.size rfl 29 _ (0, 0) _ K0.out Try.underlying29 rfl (by kernel_rfl) ?_)
  refine (sBandOk_any q p s A A' n m c c' (by omega) (by omega) f f' _ _ (Below.refl _ _) (HA.out.at_ (by go_grown)) (HA'.out.at_ (by go_grown))).mono ?_
  rintro e w1 ⟨rfl, hb1⟩
  have hz1 := hb1.size
  simp only [World.size_alloc] at hz1
  have hB1 : Below w.heap.size w w1 := (by go_grown : Below w.heap.size w _).trans (hb1.mono (by simp; omega))
  have k0 := K0.out.below hb1 (by simp; omega)
  have k1 := K1.out.below hb1 (by simp)
  have k2 := K2.out.below hb1 (by simp)
  clear hb1 K0 K1 K2
  cases h0 : bandOk q p s n m f f'
  · obtain ⟨r0, r1, r2, r3, r4⟩ := k2.five
    have rf := k2.frees
    have HB1 := Lib.hid hB1
    have HF := Lib.hid h0
    clear k0 k1 k2 hB1 h0
    go_wp2
    refine bodyPost_ret (v := .tuple #[.agg #[.int .i64 0, .int .i64 0, .int .i64 0, .slice none 0 0, .slice none 0 0], .int .i64 1]) (by simp [results, Try.results22, go_sem, r0, r1, r2, r3, r4]) rfl ?_
    rw [HF.out]
    refine DoPostR.no ?_
    have hB := HB1.out
    go_grown
  obtain ⟨a1, a2, a3, a4, rfl, a5, a6, a7, a8, a9, a10⟩ := bandOk_facts _ _ _ _ _ _ _ h0
  have HOK : Hid (bOk q m ⟨p, s, f, f'⟩ = true) := h0
  have A9 := Lib.hid a9
  clear a9 h0
  have K0 := Lib.hid k0
  have K1 := Lib.hid k1
  have K2 := Lib.hid k2
  have HB1 := Lib.hid hB1
  clear k0 k1 k2 hB1
  go_wp2_with (refine wpList_load_row rfl 29 _ rfl w.heap.size rfl 29 _ (0, 0) _ K0.out Try.underlying29 rfl (by kernel_rfl) ?_)
  refine (l5Own_any q p s A A' m c c' a3 a4 f f' w1 w HB1.out HA.out HA'.out).mono ?_
  rintro e w2 ⟨gl, gd, cl, cd, rfl, hg1, hg2, hne, hl2, hd2, hr2, hb2⟩
  have hz2 := hb2.size
  have k0 := K0.out.below hb2 (by omega)
  have k1 := K1.out.below hb2 (by omega)
  have k2 := K2.out.below hb2 (by omega)
  have HB2 := Lib.hid (bel HB1.out hb2)
  have hlt1 := hl2.1
  have hlt2 := hd2.1
  have HL2 := Lib.hid hl2
  have HD2 := Lib.hid hd2
  have HR2 := Lib.hid hr2
  have K0a := Lib.hid k0
  have K1a := Lib.hid k1
  have K2a := Lib.hid k2
  clear hb2 K0 K1 K2 HB1 hl2 hd2 hr2 k0 k1 k2
  have HBI : Hid (∀ x : World, Calls Try.prog 37 #[.int .i64 cpu, .int .i64 0, .int .i64 ((m : Int) - 1)] x fun e w' => e = .returned (.bool (inR cpu 0 ((m : Int) - 1))) ∧ x = w') := fun x => l1In_any _ _ _ x
  have e4' : (kind == 4) = false := by simp [e4]
  have E4 := Lib.hid e4
  have EC := Lib.hid ec
  rw [ec] at HBI
  clear ec e4
  go_wp2_with (first | (refine wpList_store_row rfl 29 _ _ rfl w.heap.size _ rfl rfl 29 _ K0a.out (by kernel_rfl) rfl (by kernel_rfl) ?_; have HX := Lib.hid (OwnX.mk' (q := q) (p := p) (s := s) (cl := cl) (cd := cd) K0a.out K1a.out K2a.out HL2.out HD2.out HR2.out HB2.out (by omega) (by omega)); clear K0a K1a K2a HL2 HD2 HR2 HB2; generalize w2.setRow w.heap.size _ = x at *; obtain ⟨b0, b1, b2, b3, b4⟩ := HX.out.box.five; have bf := HX.out.box.frees; obtain ⟨o0, o1, o2⟩ := HX.out.op.three; obtain ⟨r0, r1, r2, r3, r4⟩ := HX.out.res.five; have rf := HX.out.res.frees) | (go_at_call 37; refine (HBI.out _).mono ?_; rintro e w' ⟨rfl, rfl⟩))
  refine bodyPost_ret (v := .tuple #[.agg #[.int .i64 q, .int .i64 (p), .int .i64 (s), .slice (some ⟨gl, 0, none⟩) m cl, .slice (some ⟨gd, 0, none⟩) m cd], .int .i64 1]) (by simp [results, Try.results22, go_sem, r0, r1, r2, r3, r4]) rfl ?_
  rw [show bandOk q p s m m f f' = true from HOK.out, step_out E4.out EC.out]
  refine DoPostR.yes ?_ (b' := ⟨p, s, f, f'⟩) rfl rfl (fun _ _ => rfl) (fun _ _ => rfl) (((((HX.out.fl.off ?_ _).off ?_ _).off ?_ _).off ?_ _).off ?_ _) (((((HX.out.fd.off ?_ _).off ?_ _).off ?_ _).off ?_ _).off ?_ _) (by omega) (by omega) hne ?_
  all_goals first | ((repeat (first | with_reducible exact HX.out.rl | with_reducible exact RoomV.drewN HX.out.rl _ | with_reducible refine RoomV.set ?_ _ _ _ | with_reducible refine RoomV.drew ?_ | with_reducible refine RoomV.drewN ?_ _)); done) | (simp; omega) | skip
  have hB := HX.out.bel
  go_grown
end Go.Proofs.Ytfckhpkebdpkbaa

/- Bands: spec's BandDo, a case. -/
namespace Go.Proofs.Ytfckhpkebdpkbaa
open Go.RowKit
set_option maxRecDepth 100000 in
set_option maxHeartbeats 4000000 in
theorem sBandDo_k1 (q p s : Int) (A A' : Option Addr) (n m c c' : Nat) (hn : n ≤ 1048576) (hm : m ≤ 1048576) (f : Nat → Int) (f' : Nat → Bool) (cpu k : Int) (w W : World) (hb : Below W.heap.size W w) (ec : inR cpu 0 ((n : Int) - 1) = true)
    (hA : Rw W W.heap.size A n fun i => .int .i64 (f i)) (hA' : Rw W W.heap.size A' m fun i => .bool (f' i)) :
    Calls Try.prog 22 #[.agg #[.int .i64 q, .int .i64 p, .int .i64 s, .slice A n c, .slice A' m c'], .agg #[.int .i64 1, .int .i64 cpu, .int .i64 k]] w (DoPostR 3 (bandOk q p s n m f f') q n (bandStep q n 1 cpu k ⟨p, s, f, f'⟩) w) := by
  have HA := Lib.hid (hA.at_ hb)
  have HA' := Lib.hid (hA'.at_ hb)
  clear hA hA'
  have k0 := ((Bk.new w 29 #[.int .i64 q, .int .i64 p, .int .i64 s, .slice A n c, .slice A' m c']).alloc (.cells #[.int .i64 1, .int .i64 cpu, .int .i64 k] 48)).alloc (.cells #[.int .i64 0, .int .i64 0, .int .i64 0, .slice none 0 0, .slice none 0 0] 29)
  have k1 := (Bk.new' (w.alloc (.cells #[.int .i64 q, .int .i64 p, .int .i64 s, .slice A n c, .slice A' m c'] 29)) (w.heap.size + 1) 48 #[.int .i64 1, .int .i64 cpu, .int .i64 k] (by simp)).alloc (.cells #[.int .i64 0, .int .i64 0, .int .i64 0, .slice none 0 0, .slice none 0 0] 29)
  have k2 := Bk.new' ((w.alloc (.cells #[.int .i64 q, .int .i64 p, .int .i64 s, .slice A n c, .slice A' m c'] 29)).alloc (.cells #[.int .i64 1, .int .i64 cpu, .int .i64 k] 48)) (w.heap.size + 1 + 1) 29 #[.int .i64 0, .int .i64 0, .int .i64 0, .slice none 0 0, .slice none 0 0] (by simp)
  have K0 := Lib.hid k0
  have K1 := Lib.hid k1
  have K2 := Lib.hid k2
  clear k0 k1 k2
  go_enter Try.func22, Try.ntmps22
  go_wp2_with (refine wpList_load_row rfl 29 _ rfl w.heap.size rfl 29 _ (0, 0) _ K0.out Try.underlying29 rfl (by kernel_rfl) ?_)
  refine (sBandOk_any q p s A A' n m c c' (by omega) (by omega) f f' _ _ (Below.refl _ _) (HA.out.at_ (by go_grown)) (HA'.out.at_ (by go_grown))).mono ?_
  rintro e w1 ⟨rfl, hb1⟩
  have hz1 := hb1.size
  simp only [World.size_alloc] at hz1
  have hB1 : Below w.heap.size w w1 := (by go_grown : Below w.heap.size w _).trans (hb1.mono (by simp; omega))
  have k0 := K0.out.below hb1 (by simp; omega)
  have k1 := K1.out.below hb1 (by simp)
  have k2 := K2.out.below hb1 (by simp)
  clear hb1 K0 K1 K2
  cases h0 : bandOk q p s n m f f'
  · obtain ⟨r0, r1, r2, r3, r4⟩ := k2.five
    have rf := k2.frees
    have HB1 := Lib.hid hB1
    have HF := Lib.hid h0
    clear k0 k1 k2 hB1 h0
    go_wp2
    refine bodyPost_ret (v := .tuple #[.agg #[.int .i64 0, .int .i64 0, .int .i64 0, .slice none 0 0, .slice none 0 0], .int .i64 1]) (by simp [results, Try.results22, go_sem, r0, r1, r2, r3, r4]) rfl ?_
    rw [HF.out]
    refine DoPostR.no ?_
    have hB := HB1.out
    go_grown
  obtain ⟨a1, a2, a3, a4, rfl, a5, a6, a7, a8, a9, a10⟩ := bandOk_facts _ _ _ _ _ _ _ h0
  have HOK : Hid (bOk q m ⟨p, s, f, f'⟩ = true) := h0
  have A9 := Lib.hid a9
  clear a9 h0
  have K0 := Lib.hid k0
  have K1 := Lib.hid k1
  have K2 := Lib.hid k2
  have HB1 := Lib.hid hB1
  clear k0 k1 k2 hB1
  go_wp2_with (refine wpList_load_row rfl 29 _ rfl w.heap.size rfl 29 _ (0, 0) _ K0.out Try.underlying29 rfl (by kernel_rfl) ?_)
  refine (l5Own_any q p s A A' m c c' a3 a4 f f' w1 w HB1.out HA.out HA'.out).mono ?_
  rintro e w2 ⟨gl, gd, cl, cd, rfl, hg1, hg2, hne, hl2, hd2, hr2, hb2⟩
  have hz2 := hb2.size
  have k0 := K0.out.below hb2 (by omega)
  have k1 := K1.out.below hb2 (by omega)
  have k2 := K2.out.below hb2 (by omega)
  have HB2 := Lib.hid (bel HB1.out hb2)
  have hlt1 := hl2.1
  have hlt2 := hd2.1
  have HL2 := Lib.hid hl2
  have HD2 := Lib.hid hd2
  have HR2 := Lib.hid hr2
  have K0a := Lib.hid k0
  have K1a := Lib.hid k1
  have K2a := Lib.hid k2
  clear hb2 K0 K1 K2 HB1 hl2 hd2 hr2 k0 k1 k2
  have HBI : Hid (∀ x : World, Calls Try.prog 37 #[.int .i64 cpu, .int .i64 0, .int .i64 ((m : Int) - 1)] x fun e w' => e = .returned (.bool (inR cpu 0 ((m : Int) - 1))) ∧ x = w') := fun x => l1In_any _ _ _ x
  have EC := Lib.hid ec
  obtain ⟨g1, g2⟩ := inR_iff.1 ec
  have hc1 : cpu < (m : Int) := by omega
  have HCL : Hid (cpu.toNat < m) := by show cpu.toNat < m; omega
  obtain ⟨l1, l2, l3⟩ := A9.out cpu.toNat HCL.out
  have L3 := Lib.hid l3
  rw [ec] at HBI
  clear ec l3
  by_cases t1 : 0 < f cpu.toNat
  · have T1 := Lib.hid t1
    go_wp2_with (first | (refine wpList_store_row rfl 29 _ _ rfl w.heap.size _ rfl rfl 29 _ K0a.out (by kernel_rfl) rfl (by kernel_rfl) ?_; have HX := Lib.hid (OwnX.mk' (q := q) (p := p) (s := s) (cl := cl) (cd := cd) K0a.out K1a.out K2a.out HL2.out HD2.out HR2.out HB2.out (by omega) (by omega)); clear K0a K1a K2a HL2 HD2 HR2 HB2; generalize w2.setRow w.heap.size _ = x at *; obtain ⟨b0, b1, b2, b3, b4⟩ := HX.out.box.five; have bf := HX.out.box.frees; obtain ⟨o0, o1, o2⟩ := HX.out.op.three; obtain ⟨r0, r1, r2, r3, r4⟩ := HX.out.res.five; have rf := HX.out.res.frees; have d0 := HX.out.fl.2.1 cpu.toNat HCL.out; have d1 := HX.out.fl.2.2 cpu.toNat HCL.out; have d2 := HX.out.fd.2.1 cpu.toNat HCL.out; have d3 := HX.out.fd.2.2 cpu.toNat HCL.out) | (go_at_call 37; refine (HBI.out _).mono ?_; rintro e w' ⟨rfl, rfl⟩))
    refine bodyPost_ret (v := .tuple #[.agg #[.int .i64 q, .int .i64 (p), .int .i64 (s), .slice (some ⟨gl, 0, none⟩) m cl, .slice (some ⟨gd, 0, none⟩) m cd], .int .i64 0]) (by simp [results, Try.results22, go_sem, r0, r1, r2, r3, r4]) rfl ?_
    rw [show bandOk q p s m m f f' = true from HOK.out, step_take1 EC.out T1.out]
    refine DoPostR.yes ?_ (b' := ⟨p, s, f, f'⟩) rfl rfl (fun _ _ => rfl) (fun _ _ => rfl) (((((HX.out.fl.off ?_ _).off ?_ _).off ?_ _).off ?_ _).off ?_ _) (((((HX.out.fd.off ?_ _).off ?_ _).off ?_ _).off ?_ _).off ?_ _) (by omega) (by omega) hne ?_
    all_goals first | ((repeat (first | with_reducible exact HX.out.rl | with_reducible exact RoomV.drewN HX.out.rl _ | with_reducible refine RoomV.set ?_ _ _ _ | with_reducible refine RoomV.drew ?_ | with_reducible refine RoomV.drewN ?_ _)); done) | (simp; omega) | skip
    have hB := HX.out.bel
    go_grown
  have T1 := Lib.hid t1
  have hf0 : f cpu.toNat = 0 := by omega
  have HF0 := Lib.hid hf0
  clear hf0
  by_cases t2 : p = 0
  · have T2 := Lib.hid t2
    have HMI : Hid (∀ x : World, Calls Try.prog 39 #[.int .i64 20, .int .i64 p] x fun e w' => e = .returned (.int .i64 0) ∧ x = w') := fun x => by rw [t2]; exact l1Min_any 20 0 x
    clear t2
    go_wp2_with (first | (refine wpList_store_row rfl 29 _ _ rfl w.heap.size _ rfl rfl 29 _ K0a.out (by kernel_rfl) rfl (by kernel_rfl) ?_; have HX := Lib.hid (OwnX.mk' (q := q) (p := p) (s := s) (cl := cl) (cd := cd) K0a.out K1a.out K2a.out HL2.out HD2.out HR2.out HB2.out (by omega) (by omega)); clear K0a K1a K2a HL2 HD2 HR2 HB2; generalize w2.setRow w.heap.size _ = x at *; obtain ⟨b0, b1, b2, b3, b4⟩ := HX.out.box.five; have bf := HX.out.box.frees; obtain ⟨o0, o1, o2⟩ := HX.out.op.three; obtain ⟨r0, r1, r2, r3, r4⟩ := HX.out.res.five; have rf := HX.out.res.frees; have d0 := HX.out.fl.2.1 cpu.toNat HCL.out; have d1 := HX.out.fl.2.2 cpu.toNat HCL.out; have d2 := HX.out.fd.2.1 cpu.toNat HCL.out; have d3 := HX.out.fd.2.2 cpu.toNat HCL.out) | (go_at_call 37; refine (HBI.out _).mono ?_; rintro e w' ⟨rfl, rfl⟩) | (go_at_call 39; refine (HMI.out _).mono ?_; rintro e w' ⟨rfl, rfl⟩))
    have BC := (((HX.out.band (by omega) (by omega) hne).setP p).setF (c := cpu.toNat) HCL.out 0).setD (c := cpu.toNat) HCL.out true
    refine bodyPost_ret (v := .tuple #[.agg #[.int .i64 q, .int .i64 (p), .int .i64 (s), .slice (some ⟨gl, 0, none⟩) m cl, .slice (some ⟨gd, 0, none⟩) m cd], .int .i64 2]) (by simp [results, Try.results22, go_sem, r0, r1, r2, r3, r4]) rfl ?_
    rw [show bandOk q p s m m f f' = true from HOK.out, step_take2 EC.out (by have := T1.out; show ¬ 0 < f cpu.toNat; omega) T2.out]
    refine DoPostR.yes ?_ (b' := ⟨p, s, setAt f cpu.toNat 0, setAt f' cpu.toNat true⟩) rfl rfl (fun i _ => setAt_self f _ 0 HF0.out i) (fun _ _ => rfl) (((((BC.fl.off ?_ _).off ?_ _).off ?_ _).off ?_ _).off ?_ _) (((((BC.fd.off ?_ _).off ?_ _).off ?_ _).off ?_ _).off ?_ _) (by omega) (by omega) hne ?_
    all_goals first | ((repeat (first | with_reducible exact HX.out.rl | with_reducible exact RoomV.drewN HX.out.rl _ | with_reducible refine RoomV.set ?_ _ _ _ | with_reducible refine RoomV.drew ?_ | with_reducible refine RoomV.drewN ?_ _)); done) | (simp; omega) | skip
    have hB := HX.out.bel
    go_grown
  have T2 := Lib.hid t2
  obtain ⟨mm, hmm⟩ : ∃ mm : Int, mm = min 20 p := ⟨_, rfl⟩
  have u1 : 0 < mm := by omega
  have u2 : mm ≤ p := by omega
  have u3 : mm ≤ 20 := by omega
  have u4 : (mm == 0) = false := by simp; omega
  have HMM := Lib.hid hmm
  have HMI : Hid (∀ x : World, Calls Try.prog 39 #[.int .i64 20, .int .i64 p] x fun e w' => e = .returned (.int .i64 mm) ∧ x = w') := fun x => by rw [hmm]; exact l1Min_any 20 p x
  have HDF : Hid (f' cpu.toNat = false) := by
    show f' cpu.toNat = false
    cases e : f' cpu.toNat
    · rfl
    · exact absurd (L3.out e).2 t2
  clear hmm t2
  go_wp2_with (first | (refine wpList_store_row rfl 29 _ _ rfl w.heap.size _ rfl rfl 29 _ K0a.out (by kernel_rfl) rfl (by kernel_rfl) ?_; have HX := Lib.hid (OwnX.mk' (q := q) (p := p) (s := s) (cl := cl) (cd := cd) K0a.out K1a.out K2a.out HL2.out HD2.out HR2.out HB2.out (by omega) (by omega)); clear K0a K1a K2a HL2 HD2 HR2 HB2; generalize w2.setRow w.heap.size _ = x at *; obtain ⟨b0, b1, b2, b3, b4⟩ := HX.out.box.five; have bf := HX.out.box.frees; obtain ⟨o0, o1, o2⟩ := HX.out.op.three; obtain ⟨r0, r1, r2, r3, r4⟩ := HX.out.res.five; have rf := HX.out.res.frees; have d0 := HX.out.fl.2.1 cpu.toNat HCL.out; have d1 := HX.out.fl.2.2 cpu.toNat HCL.out; have d2 := HX.out.fd.2.1 cpu.toNat HCL.out; have d3 := HX.out.fd.2.2 cpu.toNat HCL.out) | (go_at_call 37; refine (HBI.out _).mono ?_; rintro e w' ⟨rfl, rfl⟩) | (go_at_call 39; refine (HMI.out _).mono ?_; rintro e w' ⟨rfl, rfl⟩))
  have BC := ((((HX.out.band (by omega) (by omega) hne).setP (p - mm)).setF (c := cpu.toNat) HCL.out mm).setD (c := cpu.toNat) HCL.out false)
  refine bodyPost_ret (v := .tuple #[.agg #[.int .i64 q, .int .i64 (p - mm), .int .i64 (s), .slice (some ⟨gl, 0, none⟩) m cl, .slice (some ⟨gd, 0, none⟩) m cd], .int .i64 0]) (by simp [results, Try.results22, go_sem, r0, r1, r2, r3, r4]) rfl ?_
  rw [show bandOk q p s m m f f' = true from HOK.out, step_take3 EC.out (by have := T1.out; show ¬ 0 < f cpu.toNat; omega) T2.out]
  refine DoPostR.yes ?_ (b' := ⟨p - mm, s, setAt f cpu.toNat mm, setAt f' cpu.toNat false⟩) (by show p - mm = p - min 20 p; rw [HMM.out]) rfl (fun i _ => by show setAt f cpu.toNat mm i = setAt f cpu.toNat (min 20 p) i; rw [HMM.out]) (fun i _ => setAt_self f' _ false HDF.out i) (((((BC.fl.off ?_ _).off ?_ _).off ?_ _).off ?_ _).off ?_ _) (((((BC.fd.off ?_ _).off ?_ _).off ?_ _).off ?_ _).off ?_ _) (by omega) (by omega) hne ?_
  all_goals first | ((repeat (first | with_reducible exact HX.out.rl | with_reducible exact RoomV.drewN HX.out.rl _ | with_reducible refine RoomV.set ?_ _ _ _ | with_reducible refine RoomV.drew ?_ | with_reducible refine RoomV.drewN ?_ _)); done) | (simp; omega) | skip
  have hB := HX.out.bel
  go_grown
end Go.Proofs.Ytfckhpkebdpkbaa

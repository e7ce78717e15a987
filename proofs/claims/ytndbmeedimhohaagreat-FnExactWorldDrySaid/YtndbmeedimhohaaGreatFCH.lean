/- Worlds: the shape of a world; whole worlds (printed by mkv.py). -/
import Derived.Test.YtndbmeedimhohaaGreatFV10Base
import Derived.WalkMore
namespace Go.Proofs.YtndbmeedimhohaaGreat
open Go.RowKit
set_option maxHeartbeats 4000000 in
set_option maxRecDepth 100000 in
theorem shapeOk_any (V : WV) (h : WH) (hl : WLen V) (hF : V.gn = 8 → Flds (fun i => (V.gv i).us) (fun i => (V.gv i).pa) (fun i => (V.gv i).nm)) (hw : Nat) (w : World) (hk : Bk w hw 33 #[.int .i64 V.now, .slice h.ca V.cn h.cc, .slice h.ta V.tn h.tc, .slice h.ga V.gn h.gc]) (hr : WRd w w.heap.size V h) :
    Calls Tryz.prog 46 #[.pointer (some ⟨hw, 0, none⟩)] w fun e w' => e = .returned (.bool (shapeB V)) ∧ Below w.heap.size w w' := by
  obtain ⟨k0, k1, k2, k3⟩ := hk.four
  have hkl := hk.lt
  have HSB : Hid (shapeB V = (timeB V.now && inR V.cn 1 4 && (ups V != 0) && ((V.tn : Int) == 12) && treeV V)) := rfl
  have HON : Hid (V.cn ≤ 4 → ∀ x, Below w.heap.size w x → Calls Tryz.prog 83 #[.pointer (some ⟨hw, 0, none⟩)] x fun e w' => e = .returned (.int .i64 (ups V)) ∧ Below x.heap.size x w') := fun hn x hx => online_any V hw _ _ _ _ _ hn x (hk.below hx hkl) (hr.c.at_ hx)
  have HTR : Hid (∀ x, Below w.heap.size w x → Calls Tryz.prog 84 #[.slice h.ga V.gn h.gc] x fun e w' => e = .returned (.bool (treeV V)) ∧ Below x.heap.size x w') := fun x hx => iTreeOk_any _ _ _ hl.g _ _ _ hF x w hx hr.g.trd
  obtain ⟨R, hR⟩ : ∃ R, R = shapeB V := ⟨_, rfl⟩
  rw [← hR] at HSB ⊢
  clear hR hk hl hF hr
  cases s1 : timeB V.now
  · go_enter Tryz.func46, Tryz.ntmps46
    go_wp2_with (go_at_call 82; refine (timeOk_one _ _ _ _ _ (by simp)).mono ?_; rintro e w9 ⟨rfl, rfl⟩)
    go_ret
    exact ⟨ret_boolB (by rw [HSB.out, s1]; rfl), (Below.refl _ w).alloc (Nat.le_refl _) _⟩
  cases s2 : inR V.cn 1 4
  · go_enter Tryz.func46, Tryz.ntmps46
    go_wp2_with (first | (go_at_call 82; refine (timeOk_one _ _ _ _ _ (by simp)).mono ?_; rintro e w9 ⟨rfl, rfl⟩) | (go_at_call 61; refine (inRange_any _ _ _ _).mono ?_; rintro e w' ⟨rfl, rfl⟩))
    go_ret
    exact ⟨ret_boolB (by rw [HSB.out, s1, s2]; rfl), (Below.refl _ w).alloc (Nat.le_refl _) _⟩
  have hn4 : V.cn ≤ 4 := by have := inR_iff.1 s2; omega
  have HON2 := Lib.hid (HON.out hn4)
  clear HON hn4
  cases s3 : (ups V != 0)
  · go_enter Tryz.func46, Tryz.ntmps46
    go_wp2_with (first | (go_at_call 82; refine (timeOk_one _ _ _ _ _ (by simp)).mono ?_; rintro e w9 ⟨rfl, rfl⟩) | (go_at_call 61; refine (inRange_any _ _ _ _).mono ?_; rintro e w' ⟨rfl, rfl⟩) | (go_at_call 83; refine (HON2.out _ ((Below.refl _ w).alloc (Nat.le_refl _) _)).mono ?_; rintro e w1 ⟨rfl, hb1⟩; have hB1 := ((Below.refl _ w).alloc (Nat.le_refl _) (.cells #[.int .i64 V.now] 3)).trans (hb1.mono (by simp)); have j2 := (hB1.cell (p := ⟨hw, 2, none⟩) hkl).trans k2; have j3 := (hB1.cell (p := ⟨hw, 3, none⟩) hkl).trans k3))
    go_ret
    exact ⟨ret_boolB (by rw [HSB.out, s1, s2, s3]; rfl), hB1⟩
  cases s4 : ((V.tn : Int) == 12)
  · go_enter Tryz.func46, Tryz.ntmps46
    go_wp2_with (first | (go_at_call 82; refine (timeOk_one _ _ _ _ _ (by simp)).mono ?_; rintro e w9 ⟨rfl, rfl⟩) | (go_at_call 61; refine (inRange_any _ _ _ _).mono ?_; rintro e w' ⟨rfl, rfl⟩) | (go_at_call 83; refine (HON2.out _ ((Below.refl _ w).alloc (Nat.le_refl _) _)).mono ?_; rintro e w1 ⟨rfl, hb1⟩; have hB1 := ((Below.refl _ w).alloc (Nat.le_refl _) (.cells #[.int .i64 V.now] 3)).trans (hb1.mono (by simp)); have j2 := (hB1.cell (p := ⟨hw, 2, none⟩) hkl).trans k2; have j3 := (hB1.cell (p := ⟨hw, 3, none⟩) hkl).trans k3))
    go_ret
    exact ⟨ret_boolB (by rw [HSB.out, s1, s2, s3, s4]; rfl), hB1⟩
  cases s5 : treeV V
  all_goals
    go_enter Tryz.func46, Tryz.ntmps46
    go_wp2_with (first | (go_at_call 82; refine (timeOk_one _ _ _ _ _ (by simp)).mono ?_; rintro e w9 ⟨rfl, rfl⟩) | (go_at_call 61; refine (inRange_any _ _ _ _).mono ?_; rintro e w' ⟨rfl, rfl⟩) | (go_at_call 83; refine (HON2.out _ ((Below.refl _ w).alloc (Nat.le_refl _) _)).mono ?_; rintro e w1 ⟨rfl, hb1⟩; have hB1 := ((Below.refl _ w).alloc (Nat.le_refl _) (.cells #[.int .i64 V.now] 3)).trans (hb1.mono (by simp)); have j2 := (hB1.cell (p := ⟨hw, 2, none⟩) hkl).trans k2; have j3 := (hB1.cell (p := ⟨hw, 3, none⟩) hkl).trans k3) | (go_at_call 84; refine (HTR.out _ hB1).mono ?_; rintro e w2 ⟨rfl, hb2⟩))
    go_ret
    exact ⟨ret_boolB (by rw [HSB.out, s1, s2, s3, s4, s5]; rfl), hB1.trans (hb2.mono hB1.size)⟩
set_option maxHeartbeats 4000000 in
set_option maxRecDepth 100000 in
theorem shape_tree {V : WV} (h : shapeB V = true) : timeB V.now = true ∧ (1 ≤ V.cn ∧ V.cn ≤ 4) ∧ V.tn = 12 ∧ Tree V := by
  simp only [shapeB, Bool.and_eq_true, beq_iff_eq] at h
  have h2 := inR_iff.1 h.1.1.1.2
  exact ⟨h.1.1.1.1, by omega, by omega, Tree.of h.2⟩
set_option maxHeartbeats 4000000 in
set_option maxRecDepth 100000 in
theorem worldI_e1 {V : WV} (h : shapeB V = false) : worldI V = false := by simp [worldI, h]
set_option maxHeartbeats 4000000 in
set_option maxRecDepth 100000 in
theorem worldI_e2 {V : WV} (h : (allTo (groupI V) V.gn && rootI V) = false) : worldI V = false := by unfold worldI; rw [h]; simp
set_option maxHeartbeats 4000000 in
set_option maxRecDepth 100000 in
theorem worldI_e3 {V : WV} (h : allTo (taskI V) V.tn = false) : worldI V = false := by simp [worldI, h]
set_option maxHeartbeats 4000000 in
set_option maxRecDepth 100000 in
theorem worldI_e4 {V : WV} (h : (allTo (fun g => allTo (numH V g) (V.gv g).sn) V.gn && allTo (fun c => rootH V c && allTo (laneI V c) V.gn) V.cn) = false) : worldI V = false := by unfold worldI; rw [h]; simp
set_option maxHeartbeats 4000000 in
set_option maxRecDepth 100000 in
theorem worldI_e5 {V : WV} (h : allTo (cpuI V) V.cn = false) : worldI V = false := by simp [worldI, h]
set_option maxHeartbeats 4000000 in
set_option maxRecDepth 100000 in
theorem worldI_e {V : WV} (h1 : shapeB V = true) (h2 : (allTo (groupI V) V.gn && rootI V) = true) (h3 : allTo (taskI V) V.tn = true) (h4 : (allTo (fun g => allTo (numH V g) (V.gv g).sn) V.gn && allTo (fun c => rootH V c && allTo (laneI V c) V.gn) V.cn) = true) (h5 : allTo (cpuI V) V.cn = true) : worldI V = true := by unfold worldI; rw [h1, h2, h3, h4, h5]; rfl
set_option maxHeartbeats 4000000 in
set_option maxRecDepth 100000 in
theorem MR.of2 {w : World} {V : WV} {h : WH} (r : WRd w w.heap.size V h) (hc : 0 < V.cn) (ht : 0 < V.tn) (hg : 0 < V.gn) : ∃ a : WA, MR w V a ∧ (#[.int .i64 V.now, .slice h.ca V.cn h.cc, .slice h.ta V.tn h.tc, .slice h.ga V.gn h.gc] : Array Value) = #[.int .i64 V.now, .slice (some ⟨a.ca, a.oc, none⟩) V.cn a.cc, .slice (some ⟨a.ta, a.ot, none⟩) V.tn a.tc, .slice (some ⟨a.ga, a.og, none⟩) V.gn a.gc] := by
  obtain ⟨a, m, h1, h2, h3, _⟩ := MR.of r hc ht hg
  exact ⟨⟨a.ca, a.oc, h.cc, a.ta, a.ot, h.tc, a.ga, a.og, h.gc, a.gh, a.sb, a.so, a.db, a.dO⟩, ⟨m.cl, m.c, m.tl, m.t, m.gl, m.g, m.d, m.s, m.y⟩, by rw [h1, h2, h3]⟩
set_option maxHeartbeats 4000000 in
set_option maxRecDepth 100000 in
theorem iWorldOk_any (V : WV) (h : WH) (hl : WLen V) (hF : V.gn = 8 → Flds (fun i => (V.gv i).us) (fun i => (V.gv i).pa) (fun i => (V.gv i).nm)) (w : World) (hr : WRd w w.heap.size V h) :
    Calls Tryz.prog 18 #[.agg #[.int .i64 V.now, .slice h.ca V.cn h.cc, .slice h.ta V.tn h.tc, .slice h.ga V.gn h.gc]] w fun e w' => e = .returned (.bool (worldI V)) ∧ Below w.heap.size w w' := by
  have HR := Lib.hid hr
  have HL := Lib.hid hl
  have HF := Lib.hid hF
  have HST : Hid (Bk ((w.alloc (.cells #[.int .i64 V.now, .slice h.ca V.cn h.cc, .slice h.ta V.tn h.tc, .slice h.ga V.gn h.gc] 33)).alloc (.cells #[.nilFunc, .nilFunc, .nilFunc, .nilFunc, .nilFunc] 76)) (w.heap.size + 1) 76 #[.nilFunc, .nilFunc, .nilFunc, .nilFunc, .nilFunc]) := by have := Bk.new (w.alloc (.cells #[.int .i64 V.now, .slice h.ca V.cn h.cc, .slice h.ta V.tn h.tc, .slice h.ga V.gn h.gc] 33)) 76 #[.nilFunc, .nilFunc, .nilFunc, .nilFunc, .nilFunc]; rw [show (w.alloc (.cells #[.int .i64 V.now, .slice h.ca V.cn h.cc, .slice h.ta V.tn h.tc, .slice h.ga V.gn h.gc] 33)).heap.size = w.heap.size + 1 by simp] at this; exact this
  have hkx : Bk ((w.alloc (.cells #[.int .i64 V.now, .slice h.ca V.cn h.cc, .slice h.ta V.tn h.tc, .slice h.ga V.gn h.gc] 33)).alloc (.cells #[.nilFunc, .nilFunc, .nilFunc, .nilFunc, .nilFunc] 76)) w.heap.size 33 #[.int .i64 V.now, .slice h.ca V.cn h.cc, .slice h.ta V.tn h.tc, .slice h.ga V.gn h.gc] := (Bk.new w _ _).alloc _
  have hbx : Below w.heap.size w ((w.alloc (.cells #[.int .i64 V.now, .slice h.ca V.cn h.cc, .slice h.ta V.tn h.tc, .slice h.ga V.gn h.gc] 33)).alloc (.cells #[.nilFunc, .nilFunc, .nilFunc, .nilFunc, .nilFunc] 76)) := ((Below.refl _ w).alloc (Nat.le_refl _) _).alloc (by simp) _
  have HKX := Lib.hid hkx
  have HBX := Lib.hid hbx
  clear hr hl hF hkx hbx
  go_enter Tryz.func18, Tryz.ntmps18
  go_wp2
  go_step3
  go_upto_region 2 with (refine wpList_store_row rfl 76 _ _ rfl (w.heap.size + 1) _ rfl rfl 76 _ HST.out (by kernel_rfl) rfl (by kernel_rfl) ?_)
  have hst := setRow_heap _ _ _ #[.func (.func 46) #[] #[], .func (.func 47) #[] #[], .func (.func 48) #[] #[], .func (.func 49) #[] #[], .func (.func 50) #[] #[]] _ _ HST.out
  have hbx := below_setRow HBX.out (by omega : w.heap.size ≤ w.heap.size + 1) #[.func (.func 46) #[] #[], .func (.func 47) #[] #[], .func (.func 48) #[] #[], .func (.func 49) #[] #[], .func (.func 50) #[] #[]]
  have hkx := HKX.out.rowOff (by omega : w.heap.size ≠ w.heap.size + 1) #[.func (.func 46) #[] #[], .func (.func 47) #[] #[], .func (.func 48) #[] #[], .func (.func 49) #[] #[], .func (.func 50) #[] #[]]
  generalize World.setRow _ _ _ = x at hst hbx hkx ⊢
  rw [rgn]
  have HSX := Lib.hid hst
  have HKX2 := Lib.hid hkx
  have HBX2 := Lib.hid hbx
  clear hst hkx hbx HKX HBX HST
  have f0 := Bk.cell HSX.out 0
  have f1 := Bk.cell HSX.out 1
  have f2 := Bk.cell HSX.out 2
  have f3 := Bk.cell HSX.out 3
  have f4 := Bk.cell HSX.out 4
  clear HSX
  go_wp2
  go_step3
  go_wp2
  clear f0 f1 f2 f3 f4
  have hbx := HBX2.out
  have i0 : ∀ w, (Instr.index 76 (.agg #[.func (.func 46) #[] #[], .func (.func 47) #[] #[], .func (.func 48) #[] #[], .func (.func 49) #[] #[], .func (.func 50) #[] #[]]) (.int .i64 0)).run Tryz.prog w = .ok (.func (.func 46) #[] #[]) w := fun _ => by kernel_rfl
  have i1 : ∀ w, (Instr.index 76 (.agg #[.func (.func 46) #[] #[], .func (.func 47) #[] #[], .func (.func 48) #[] #[], .func (.func 49) #[] #[], .func (.func 50) #[] #[]]) (.int .i64 1)).run Tryz.prog w = .ok (.func (.func 47) #[] #[]) w := fun _ => by kernel_rfl
  have i2 : ∀ w, (Instr.index 76 (.agg #[.func (.func 46) #[] #[], .func (.func 47) #[] #[], .func (.func 48) #[] #[], .func (.func 49) #[] #[], .func (.func 50) #[] #[]]) (.int .i64 2)).run Tryz.prog w = .ok (.func (.func 48) #[] #[]) w := fun _ => by kernel_rfl
  have i3 : ∀ w, (Instr.index 76 (.agg #[.func (.func 46) #[] #[], .func (.func 47) #[] #[], .func (.func 48) #[] #[], .func (.func 49) #[] #[], .func (.func 50) #[] #[]]) (.int .i64 3)).run Tryz.prog w = .ok (.func (.func 49) #[] #[]) w := fun _ => by kernel_rfl
  have i4 : ∀ w, (Instr.index 76 (.agg #[.func (.func 46) #[] #[], .func (.func 47) #[] #[], .func (.func 48) #[] #[], .func (.func 49) #[] #[], .func (.func 50) #[] #[]]) (.int .i64 4)).run Tryz.prog w = .ok (.func (.func 50) #[] #[]) w := fun _ => by kernel_rfl
  have HS : Hid (∀ y, Below x.heap.size x y → Calls Tryz.prog 46 #[.pointer (some ⟨w.heap.size, 0, none⟩)] y fun e w' => e = .returned (.bool (shapeB V)) ∧ Below y.heap.size y w') := fun y hy => shapeOk_any V h HL.out HF.out w.heap.size y (HKX2.out.below hy HKX2.out.lt) (HR.out.at_ (hbx.trans (hy.mono hbx.size)))
  refine wp_loop_rounds 6 ?_
  rw [rounds_succ]
  cases h1 : shapeB V
  · rw [h1] at HS
    have HN : Hid (false = worldI V) := (worldI_e1 h1).symm
    clear h1
    go_wp2_with (go_at_call 46; refine (HS.out _ (Below.refl _ _)).mono ?_; rintro e w1 ⟨rfl, hb1⟩)
    rw [Exit.noGoto_ret]
    go_ret
    exact ⟨ret_boolB HN.out, hbx.trans (hb1.mono hbx.size)⟩
  rw [h1] at HS
  go_wp2_with (go_at_call 46; refine (HS.out _ (Below.refl _ _)).mono ?_; rintro e w1 ⟨rfl, hb1⟩)
  obtain ⟨hnow, ⟨hc1, hc4⟩, ht12, T⟩ := shape_tree h1
  have hn8 := T.n8
  obtain ⟨a, m, hAe⟩ := MR.of2 HR.out (by omega) (by omega) (by omega)
  have HKA : Hid (Bk x w.heap.size 33 #[.int .i64 V.now, .slice (some ⟨a.ca, a.oc, none⟩) V.cn a.cc, .slice (some ⟨a.ta, a.ot, none⟩) V.tn a.tc, .slice (some ⟨a.ga, a.og, none⟩) V.gn a.gc]) := by have := HKX2.out; rw [hAe] at this; exact this
  have HM := Lib.hid m
  have HT := Lib.hid T
  have HC1 := Lib.hid (HL.out.l)
  have hnum : V.cn ≤ 4 ∧ V.tn ≤ 1048576 ∧ V.gn ≤ 1048576 ∧ 0 < V.gn := by omega
  have HNN := Lib.hid hnum
  have HNW := Lib.hid hnow
  have HH1 := Lib.hid h1
  have HB1 := Lib.hid hb1
  clear hnow hc1 hc4 ht12 T hn8 m hAe hnum h1 HS hb1 HKX2 HF HR
  have HS : Hid (∀ y, Below x.heap.size x y → Calls Tryz.prog 47 #[.pointer (some ⟨w.heap.size, 0, none⟩)] y fun e w' => e = .returned (.bool (allTo (groupI V) V.gn && rootI V)) ∧ Below y.heap.size y w') := fun y hy => groupsOk_any V a w.heap.size HNW.out HNN.out.1 HNN.out.2.2.1 HNN.out.2.2.2 HC1.out y (HKA.out.below hy HKA.out.lt) (HM.out.below (hbx.trans (hy.mono hbx.size)))
  rw [rounds_succ]
  cases h2 : (allTo (groupI V) V.gn && rootI V)
  · rw [h2] at HS
    have HN : Hid (false = worldI V) := (worldI_e2 h2).symm
    clear h2
    go_wp2_with (go_at_call 47; refine (HS.out _ HB1.out).mono ?_; rintro e w2 ⟨rfl, hb2⟩)
    rw [Exit.noGoto_ret]
    go_ret
    exact ⟨ret_boolB HN.out, hbx.trans ((HB1.out.trans (hb2.mono HB1.out.size)).mono hbx.size)⟩
  rw [h2] at HS
  go_wp2_with (go_at_call 47; refine (HS.out _ HB1.out).mono ?_; rintro e w2 ⟨rfl, hb2⟩)
  have HB2 := Lib.hid (HB1.out.trans (hb2.mono HB1.out.size))
  have HGR : Hid (allTo (groupI V) V.gn = true) := by have := h2; rw [Bool.and_eq_true] at this; exact this.1
  have HH2 := Lib.hid h2
  clear h2 HS hb2 HB1
  have HS : Hid (∀ y, Below x.heap.size x y → Calls Tryz.prog 48 #[.pointer (some ⟨w.heap.size, 0, none⟩)] y fun e w' => e = .returned (.bool (allTo (taskI V) V.tn)) ∧ Below y.heap.size y w') := fun y hy => tasksOk_any V HT.out a w.heap.size HNN.out.1 HNN.out.2.1 HGR.out y (HKA.out.below hy HKA.out.lt) (HM.out.below (hbx.trans (hy.mono hbx.size)))
  rw [rounds_succ]
  cases h3 : allTo (taskI V) V.tn
  · rw [h3] at HS
    have HN : Hid (false = worldI V) := (worldI_e3 h3).symm
    clear h3
    go_wp2_with (go_at_call 48; refine (HS.out _ HB2.out).mono ?_; rintro e w3 ⟨rfl, hb3⟩)
    rw [Exit.noGoto_ret]
    go_ret
    exact ⟨ret_boolB HN.out, hbx.trans ((HB2.out.trans (hb3.mono HB2.out.size)).mono hbx.size)⟩
  rw [h3] at HS
  go_wp2_with (go_at_call 48; refine (HS.out _ HB2.out).mono ?_; rintro e w3 ⟨rfl, hb3⟩)
  have HB3 := Lib.hid (HB2.out.trans (hb3.mono HB2.out.size))
  have HH3 := Lib.hid h3
  clear h3 HS hb3 HB2
  have HS : Hid (∀ y, Below x.heap.size x y → Calls Tryz.prog 49 #[.pointer (some ⟨w.heap.size, 0, none⟩)] y fun e w' => e = .returned (.bool (allTo (fun g => allTo (numH V g) (V.gv g).sn) V.gn && allTo (fun c => rootH V c && allTo (laneI V c) V.gn) V.cn)) ∧ Below y.heap.size y w') := fun y hy => shelvesOk_any V HT.out a w.heap.size HNN.out.1 HNN.out.2.1 HGR.out (fun g hg => (HC1.out g hg).d) y (HKA.out.below hy HKA.out.lt) (HM.out.below (hbx.trans (hy.mono hbx.size)))
  rw [rounds_succ]
  cases h4 : (allTo (fun g => allTo (numH V g) (V.gv g).sn) V.gn && allTo (fun c => rootH V c && allTo (laneI V c) V.gn) V.cn)
  · rw [h4] at HS
    have HN : Hid (false = worldI V) := (worldI_e4 h4).symm
    clear h4
    go_wp2_with (go_at_call 49; refine (HS.out _ HB3.out).mono ?_; rintro e w4 ⟨rfl, hb4⟩)
    rw [Exit.noGoto_ret]
    go_ret
    exact ⟨ret_boolB HN.out, hbx.trans ((HB3.out.trans (hb4.mono HB3.out.size)).mono hbx.size)⟩
  rw [h4] at HS
  go_wp2_with (go_at_call 49; refine (HS.out _ HB3.out).mono ?_; rintro e w4 ⟨rfl, hb4⟩)
  have HB4 := Lib.hid (HB3.out.trans (hb4.mono HB3.out.size))
  have HNM : Hid (allTo (fun g => allTo (numH V g) (V.gv g).sn) V.gn = true) := by have := h4; rw [Bool.and_eq_true] at this; exact this.1
  have HH4 := Lib.hid h4
  clear h4 HS hb4 HB3
  have HS : Hid (∀ y, Below x.heap.size x y → Calls Tryz.prog 50 #[.pointer (some ⟨w.heap.size, 0, none⟩)] y fun e w' => e = .returned (.bool (allTo (cpuI V) V.cn)) ∧ Below y.heap.size y w') := fun y hy => cpusOk_any V HT.out a w.heap.size HNN.out.1 HNN.out.2.1 HGR.out HH3.out HNM.out y (HKA.out.below hy HKA.out.lt) (HM.out.below (hbx.trans (hy.mono hbx.size)))
  rw [rounds_succ]
  cases h5 : allTo (cpuI V) V.cn
  · rw [h5] at HS
    have HN : Hid (false = worldI V) := (worldI_e5 h5).symm
    clear h5
    go_wp2_with (go_at_call 50; refine (HS.out _ HB4.out).mono ?_; rintro e w5 ⟨rfl, hb5⟩)
    rw [Exit.noGoto_ret]
    go_ret
    exact ⟨ret_boolB HN.out, hbx.trans ((HB4.out.trans (hb5.mono HB4.out.size)).mono hbx.size)⟩
  rw [h5] at HS
  have HN : Hid (true = worldI V) := (worldI_e HH1.out HH2.out HH3.out HH4.out h5).symm
  clear h5
  go_wp2_with (go_at_call 50; refine (HS.out _ HB4.out).mono ?_; rintro e w5 ⟨rfl, hb5⟩)
  rw [rounds_succ]
  go_wp2
  rw [Exit.noGoto_ret]
  go_ret
  exact ⟨ret_boolB HN.out, hbx.trans ((HB4.out.trans (hb5.mono HB4.out.size)).mono hbx.size)⟩
end Go.Proofs.YtndbmeedimhohaaGreat
namespace Go.Proofs.YtndbmeedimhohaaGreat
open Go.RowKit
def half (n : Int) : Bool := decide (n ≤ 50000000000000000)
def half2 (a b : Int) : Bool := half a && half b
def half3 (a b c : Int) : Bool := half a && half b && half c
set_option maxHeartbeats 4000000 in
set_option maxRecDepth 100000 in
theorem early_any (A : Option Addr) (n c : Nat) (hn : (n : Int) ≤ 9223372036854775807) (f : Nat → Int) (w : World) (hA : Rw w w.heap.size A n fun i => .int .i64 (f i)) :
    Calls Tryz.prog 69 #[.slice A n c] w fun e w' => e = .returned (.bool (allTo (fun i => half (f i)) n)) ∧ w = w' := by
  rcases Nat.eq_zero_or_pos n with h0 | h0
  · subst h0
    go_enter Tryz.func69, Tryz.ntmps69
    go_wp2
    refine wp_loop_rounds 1 ?_
    rw [rounds_succ]
    go_wp2
    go_ret
    exact ⟨rfl, rfl⟩
  · obtain ⟨ga, oa, rfl, hga, hca⟩ := hA h0
    have HC := Lib.hid hca
    clear hca hA
    go_enter Tryz.func69, Tryz.ntmps69
    go_wp2
    go_loop [7] (fun i => ∃ k : Nat, k ≤ n ∧ i = .int .i64 k ∧ Hid (allTo (fun i => half (f i)) k = true)) (fun i => n - (intOf i).toNat)
    case atStart => exact ⟨0, Nat.zero_le _, rfl, rfl⟩
    case round =>
      obtain ⟨k, hk, rfl, HA⟩ := hrel
      by_cases hlt : k < n
      · have hc := HC.out k hlt
        by_cases ht : f k ≤ 50000000000000000
        · have HN : Hid (allTo (fun i => half (f i)) (k + 1) = true) := allTo_next _ k HA.out (by simp [half, ht])
          have ht' : ¬ 50000000000000000 < f k := by omega
          go_wp2
          go_round
          case rel => exact ⟨k + 1, by omega, by go_num, HN⟩
          case measure => simp [intOf]; omega
        · have HN := Lib.hid (allTo_false (fun i => half (f i)) k n hlt (by simp [half, ht]))
          have ht' : 50000000000000000 < f k := by omega
          go_wp2
          go_ret
          exact ⟨ret_boolB HN.out.symm, rfl⟩
      · obtain rfl : k = n := by omega
        go_wp2
        go_ret
        exact ⟨ret_boolB HA.out.symm, rfl⟩
set_option maxHeartbeats 4000000 in
set_option maxRecDepth 100000 in
theorem early_one (w : World) (t : TypeId) (a : Int) (c g : Nat) (hg : w.heap.size = g) :
    Calls Tryz.prog 69 #[.slice (some ⟨g, 0, none⟩) 1 c] (w.alloc (.cells #[.int .i64 a] t)) fun e w' => e = .returned (.bool (half a)) ∧ w.alloc (.cells #[.int .i64 a] t) = w' := by
  subst hg
  exact (early_any _ 1 c (by omega) (fun _ => a) _ (rwOne w t _)).mono fun _ _ ⟨h1, h2⟩ => ⟨h1.trans (ret_boolB (by simp [allTo])), h2⟩
set_option maxHeartbeats 4000000 in
set_option maxRecDepth 100000 in
theorem early_two (w : World) (t : TypeId) (a b : Int) (c g : Nat) (hg : w.heap.size = g) :
    Calls Tryz.prog 69 #[.slice (some ⟨g, 0, none⟩) 2 c] (w.alloc (.cells #[.int .i64 a, .int .i64 b] t)) fun e w' => e = .returned (.bool (half2 a b)) ∧ w.alloc (.cells #[.int .i64 a, .int .i64 b] t) = w' := by
  subst hg
  exact (early_any _ 2 c (by omega) (fun i => if i = 0 then a else b) _ (rwTwo w t _ _)).mono fun _ _ ⟨h1, h2⟩ => ⟨h1.trans (ret_boolB (by simp [allTo, half2])), h2⟩
set_option maxHeartbeats 4000000 in
set_option maxRecDepth 100000 in
theorem early_three (w : World) (t : TypeId) (a b c : Int) (k g : Nat) (hg : w.heap.size = g) :
    Calls Tryz.prog 69 #[.slice (some ⟨g, 0, none⟩) 3 k] (w.alloc (.cells #[.int .i64 a, .int .i64 b, .int .i64 c] t)) fun e w' => e = .returned (.bool (half3 a b c)) ∧ w.alloc (.cells #[.int .i64 a, .int .i64 b, .int .i64 c] t) = w' := by
  subst hg
  exact (early_any _ 3 k (by omega) (fun i => if i = 0 then a else if i = 1 then b else c) _ (rwThree w t _ _ _)).mono fun _ _ ⟨h1, h2⟩ => ⟨h1.trans (ret_boolB (by simp [allTo, half3, Bool.and_assoc])), h2⟩
def cpuR (V : WV) (c : Nat) : Bool := half2 (V.cv c).bu (V.cv c).id
def taskR (V : WV) (t : Nat) : Bool := half3 (V.tv t).vv (V.tv t).su (V.tv t).us
def shelfR (V : WV) (g c : Nat) : Bool := half3 ((V.gv g).s0 c) ((V.gv g).s2 c) ((V.gv g).s4 c)
def groupR (V : WV) (g : Nat) : Bool := half (V.gv g).su && allTo (shelfR V g) (V.gv g).sn
def roomB (V : WV) : Bool := half V.now && allTo (cpuR V) V.cn && allTo (taskR V) V.tn && allTo (groupR V) V.gn
set_option maxHeartbeats 4000000 in
set_option maxRecDepth 100000 in
theorem and_next {b : Bool} {f : Nat → Bool} {k : Nat} {x : Bool} (h : (b && allTo f k) = x) : (b && allTo f (k + 1)) = (x && f k) := by
  simp only [allTo, ← Bool.and_assoc, h]
end Go.Proofs.YtndbmeedimhohaaGreat

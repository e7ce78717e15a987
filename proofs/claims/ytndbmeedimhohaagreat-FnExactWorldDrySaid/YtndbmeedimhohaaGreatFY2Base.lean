/- Worlds: what is asked of worlds: the reference (printed by mkv.py). -/
import Derived.Test.YtndbmeedimhohaaGreatFCL
namespace Go.Proofs.YtndbmeedimhohaaGreat
open Go.RowKit
set_option maxHeartbeats 4000000 in
set_option maxRecDepth 100000 in
theorem sWorldLine_any (V : WV) (h : WH) (hl : WLen V) (_hF : V.gn = 8 → Flds (fun i => (V.gv i).us) (fun i => (V.gv i).pa) (fun i => (V.gv i).nm)) (hNE : ∀ k, (V.gv k).ne ≤ 9223372036854775807) (t : Int) (w : World) (hr : WRd w w.heap.size V h) :
    Calls Tryz.prog 9 #[.agg #[.int .i64 V.now, .slice h.ca V.cn h.cc, .slice h.ta V.tn h.tc, .slice h.ga V.gn h.gc], .int .i64 t] w fun e w' => e = .returned (.bool (lineR V t)) ∧ Below w.heap.size w w' := by
  have hbx : Below w.heap.size w (w.alloc (.cells #[.int .i64 V.now, .slice h.ca V.cn h.cc, .slice h.ta V.tn h.tc, .slice h.ga V.gn h.gc] 33)) := (Below.refl _ w).alloc (Nat.le_refl _) _
  have HOK : Hid (Calls Tryz.prog 17 #[.agg #[.int .i64 V.now, .slice h.ca V.cn h.cc, .slice h.ta V.tn h.tc, .slice h.ga V.gn h.gc]] (w.alloc (.cells #[.int .i64 V.now, .slice h.ca V.cn h.cc, .slice h.ta V.tn h.tc, .slice h.ga V.gn h.gc] 33)) fun e w' => e = .returned (.bool (worldI V)) ∧ Below ((w.alloc (.cells #[.int .i64 V.now, .slice h.ca V.cn h.cc, .slice h.ta V.tn h.tc, .slice h.ga V.gn h.gc] 33))).heap.size (w.alloc (.cells #[.int .i64 V.now, .slice h.ca V.cn h.cc, .slice h.ta V.tn h.tc, .slice h.ga V.gn h.gc] 33)) w') := by
    have := sWorldOk_any V h hl hNE (w.alloc (.cells #[.int .i64 V.now, .slice h.ca V.cn h.cc, .slice h.ta V.tn h.tc, .slice h.ga V.gn h.gc] 33)) (hr.at_ hbx)
    rw [← worldEq] at this
    exact this
  cases ho : worldI V
  · rw [ho] at HOK
    clear hl _hF hNE hr
    go_enter Tryz.func9, Tryz.ntmps9
    go_wp2_with (go_at_call 17; refine HOK.out.mono ?_; rintro e w1 ⟨rfl, hb1⟩)
    go_ret
    exact ⟨ret_boolB (by simp [lineR, ho]), hbx.trans (hb1.mono hbx.size)⟩
  obtain ⟨f1, f2, f3, _⟩ := worldI_facts ho
  obtain ⟨hnow, ⟨c1, c4⟩, t12, T⟩ := shape_tree f1
  have n8 := T.n8
  obtain ⟨a, m, hAe⟩ := MR.of2 hr (by omega) (by omega) (by omega)
  have hga : (h.ca = some ⟨a.ca, a.oc, none⟩ ∧ h.cc = a.cc) ∧ (h.ta = some ⟨a.ta, a.ot, none⟩ ∧ h.tc = a.tc) ∧ (h.ga = some ⟨a.ga, a.og, none⟩ ∧ h.gc = a.gc) := by
    simpa using hAe
  rw [ho, hga.1.1, hga.1.2, hga.2.1.1, hga.2.1.2, hga.2.2.1, hga.2.2.2] at HOK
  rw [hga.1.1, hga.1.2, hga.2.1.1, hga.2.1.2, hga.2.2.1, hga.2.2.2] at hbx ⊢
  have hcn : V.cn ≤ 4 := by omega
  have htn : V.tn ≤ 1048576 := by omega
  have h8 : V.gn ≤ 1048576 := by omega
  have HK : Hid (Bk (w.alloc (.cells #[.int .i64 V.now, .slice (some ⟨a.ca, a.oc, none⟩) V.cn a.cc, .slice (some ⟨a.ta, a.ot, none⟩) V.tn a.tc, .slice (some ⟨a.ga, a.og, none⟩) V.gn a.gc] 33)) w.heap.size 33 #[.int .i64 V.now, .slice (some ⟨a.ca, a.oc, none⟩) V.cn a.cc, .slice (some ⟨a.ta, a.ot, none⟩) V.tn a.tc, .slice (some ⟨a.ga, a.og, none⟩) V.gn a.gc]) := Bk.new w _ _
  have HN8 := Lib.hid n8
  have HT := Lib.hid T
  have HM := Lib.hid m
  have HLN := Lib.hid hl.l
  have HGI := Lib.hid f2
  have HTK := Lib.hid f3
  clear hl _hF hNE hr f1 f2 f3 hnow c1 c4 t12 T n8 m hAe hga
  have HTH : Hid (∀ y, Below w.heap.size w y → Calls Tryz.prog 24 #[.agg #[.int .i64 V.now, .slice (some ⟨a.ca, a.oc, none⟩) V.cn a.cc, .slice (some ⟨a.ta, a.ot, none⟩) V.tn a.tc, .slice (some ⟨a.ga, a.og, none⟩) V.gn a.gc], .int .i64 t] y fun e w' => e = .returned (.bool (thereB V t)) ∧ Below y.heap.size y w') := fun y hy => sTask_any V a t htn y (HM.out.below hy)
  cases hth : thereB V t
  · rw [hth] at HTH
    go_enter Tryz.func9, Tryz.ntmps9
    go_wp2_with (first | (go_at_call 17; refine HOK.out.mono ?_; rintro e w1 ⟨rfl, hb1⟩; obtain ⟨j0, j1, j2, j3⟩ := (HK.out.below hb1 HK.out.lt).four) | (go_at_call 24; refine (HTH.out _ (hbx.trans (hb1.mono hbx.size))).mono ?_; rintro e w2 ⟨rfl, hb2⟩))
    go_ret
    exact ⟨ret_boolB (by simp [lineR, hth]), hbx.trans ((hb1.trans (hb2.mono hb1.size)).mono hbx.size)⟩
  rw [hth] at HTH
  obtain ⟨k, rfl, hk⟩ := there_t hth
  have hst : (V.tv k).st ≠ 0 := by simp only [thereB, Bool.and_eq_true, Int.toNat_natCast] at hth; simpa using hth.2
  have hu := task_used2 HTK.out hk hst
  have HLI : Hid (∀ y, Below w.heap.size w y → Calls Tryz.prog 25 #[.agg #[.int .i64 V.now, .slice (some ⟨a.ca, a.oc, none⟩) V.cn a.cc, .slice (some ⟨a.ta, a.ot, none⟩) V.tn a.tc, .slice (some ⟨a.ga, a.og, none⟩) V.gn a.gc], .int .i64 k] y fun e w' => e = .returned (.bool (lineR V k)) ∧ Below y.heap.size y w') := fun y hy => by
    have := sInLine_any V HT.out a k hk htn hcn HGI.out (fun _ => hu) y (HM.out.below hy)
    rw [show lineR V k = inlS V k by simp [lineR, ho, hth]]
    exact this
  clear hst hu hth
  go_enter Tryz.func9, Tryz.ntmps9
  go_wp2_with (first | (go_at_call 17; refine HOK.out.mono ?_; rintro e w1 ⟨rfl, hb1⟩; obtain ⟨j0, j1, j2, j3⟩ := (HK.out.below hb1 HK.out.lt).four) | (go_at_call 24; refine (HTH.out _ (hbx.trans (hb1.mono hbx.size))).mono ?_; rintro e w2 ⟨rfl, hb2⟩; obtain ⟨i0, i1, i2, i3⟩ := ((HK.out.below hb1 HK.out.lt).below hb2 (HK.out.below hb1 HK.out.lt).lt).four) | (go_at_call 25; refine (HLI.out _ (hbx.trans ((hb1.trans (hb2.mono hb1.size)).mono hbx.size))).mono ?_; rintro e w3 ⟨rfl, hb3⟩))
  go_ret
  exact ⟨rfl, (hbx.trans ((hb1.trans (hb2.mono hb1.size)).mono hbx.size)).trans (hb3.mono (hbx.trans ((hb1.trans (hb2.mono hb1.size)).mono hbx.size)).size)⟩
set_option maxHeartbeats 4000000 in
set_option maxRecDepth 100000 in
theorem sWorldDry_any (V : WV) (h : WH) (hl : WLen V) (_hF : V.gn = 8 → Flds (fun i => (V.gv i).us) (fun i => (V.gv i).pa) (fun i => (V.gv i).nm)) (hNE : ∀ k, (V.gv k).ne ≤ 9223372036854775807) (g c : Int) (w : World) (hr : WRd w w.heap.size V h) :
    Calls Tryz.prog 19 #[.agg #[.int .i64 V.now, .slice h.ca V.cn h.cc, .slice h.ta V.tn h.tc, .slice h.ga V.gn h.gc], .int .i64 g, .int .i64 c] w fun e w' => e = .returned (.bool (dryR V g c)) ∧ Below w.heap.size w w' := by
  have hbx : Below w.heap.size w (w.alloc (.cells #[.int .i64 V.now, .slice h.ca V.cn h.cc, .slice h.ta V.tn h.tc, .slice h.ga V.gn h.gc] 33)) := (Below.refl _ w).alloc (Nat.le_refl _) _
  have HOK : Hid (Calls Tryz.prog 17 #[.agg #[.int .i64 V.now, .slice h.ca V.cn h.cc, .slice h.ta V.tn h.tc, .slice h.ga V.gn h.gc]] (w.alloc (.cells #[.int .i64 V.now, .slice h.ca V.cn h.cc, .slice h.ta V.tn h.tc, .slice h.ga V.gn h.gc] 33)) fun e w' => e = .returned (.bool (worldI V)) ∧ Below ((w.alloc (.cells #[.int .i64 V.now, .slice h.ca V.cn h.cc, .slice h.ta V.tn h.tc, .slice h.ga V.gn h.gc] 33))).heap.size (w.alloc (.cells #[.int .i64 V.now, .slice h.ca V.cn h.cc, .slice h.ta V.tn h.tc, .slice h.ga V.gn h.gc] 33)) w') := by
    have := sWorldOk_any V h hl hNE (w.alloc (.cells #[.int .i64 V.now, .slice h.ca V.cn h.cc, .slice h.ta V.tn h.tc, .slice h.ga V.gn h.gc] 33)) (hr.at_ hbx)
    rw [← worldEq] at this
    exact this
  cases ho : worldI V
  · rw [ho] at HOK
    clear hl _hF hNE hr
    go_enter Tryz.func19, Tryz.ntmps19
    go_wp2_with (go_at_call 17; refine HOK.out.mono ?_; rintro e w1 ⟨rfl, hb1⟩)
    go_ret
    exact ⟨ret_boolB (by simp [dryR, ho]), hbx.trans (hb1.mono hbx.size)⟩
  obtain ⟨f1, f2, f3, _⟩ := worldI_facts ho
  obtain ⟨hnow, ⟨c1, c4⟩, t12, T⟩ := shape_tree f1
  have n8 := T.n8
  obtain ⟨a, m, hAe⟩ := MR.of2 hr (by omega) (by omega) (by omega)
  have hga : (h.ca = some ⟨a.ca, a.oc, none⟩ ∧ h.cc = a.cc) ∧ (h.ta = some ⟨a.ta, a.ot, none⟩ ∧ h.tc = a.tc) ∧ (h.ga = some ⟨a.ga, a.og, none⟩ ∧ h.gc = a.gc) := by
    simpa using hAe
  rw [ho, hga.1.1, hga.1.2, hga.2.1.1, hga.2.1.2, hga.2.2.1, hga.2.2.2] at HOK
  rw [hga.1.1, hga.1.2, hga.2.1.1, hga.2.1.2, hga.2.2.1, hga.2.2.2] at hbx ⊢
  have hcn : V.cn ≤ 4 := by omega
  have htn : V.tn ≤ 1048576 := by omega
  have h8 : V.gn ≤ 1048576 := by omega
  have HK : Hid (Bk (w.alloc (.cells #[.int .i64 V.now, .slice (some ⟨a.ca, a.oc, none⟩) V.cn a.cc, .slice (some ⟨a.ta, a.ot, none⟩) V.tn a.tc, .slice (some ⟨a.ga, a.og, none⟩) V.gn a.gc] 33)) w.heap.size 33 #[.int .i64 V.now, .slice (some ⟨a.ca, a.oc, none⟩) V.cn a.cc, .slice (some ⟨a.ta, a.ot, none⟩) V.tn a.tc, .slice (some ⟨a.ga, a.og, none⟩) V.gn a.gc]) := Bk.new w _ _
  have HN8 := Lib.hid n8
  have HT := Lib.hid T
  have HM := Lib.hid m
  have HLN := Lib.hid hl.l
  have HGI := Lib.hid f2
  have HTK := Lib.hid f3
  clear hl _hF hNE hr f1 f2 f3 hnow c1 c4 t12 T n8 m hAe hga
  have HUS : Hid (∀ y, Below w.heap.size w y → Calls Tryz.prog 51 #[.slice (some ⟨a.ga, a.og, none⟩) V.gn a.gc, .int .i64 g] y fun e w' => e = .returned (.bool (usedB (fun i => (V.gv i).us) V.gn g)) ∧ y = w') := fun y hy => sUsed_any _ _ _ (by have := HN8.out; omega) _ _ _ _ _ (HM.out.below hy).trd
  cases hu : usedB (fun i => (V.gv i).us) V.gn g
  · rw [hu] at HUS
    go_enter Tryz.func19, Tryz.ntmps19
    go_wp2_with (first | (go_at_call 17; refine HOK.out.mono ?_; rintro e w1 ⟨rfl, hb1⟩; obtain ⟨j0, j1, j2, j3⟩ := (HK.out.below hb1 HK.out.lt).four) | (go_at_call 51; refine (HUS.out _ (hbx.trans (hb1.mono hbx.size))).mono ?_; rintro e w2 ⟨rfl, rfl⟩))
    go_ret
    exact ⟨ret_boolB (by simp [dryR, hu]), hbx.trans (hb1.mono hbx.size)⟩
  rw [hu] at HUS
  cases hi : inR c 0 ((V.cn : Int) - 1)
  · go_enter Tryz.func19, Tryz.ntmps19
    go_wp2_with (first | (go_at_call 17; refine HOK.out.mono ?_; rintro e w1 ⟨rfl, hb1⟩; obtain ⟨j0, j1, j2, j3⟩ := (HK.out.below hb1 HK.out.lt).four) | (go_at_call 51; refine (HUS.out _ (hbx.trans (hb1.mono hbx.size))).mono ?_; rintro e w2 ⟨rfl, rfl⟩) | (go_at_call 39; refine (l1In_any _ _ _ _).mono ?_; rintro e w' ⟨rfl, rfl⟩))
    go_ret
    exact ⟨ret_boolB (by simp [dryR, hi]), hbx.trans (hb1.mono hbx.size)⟩
  obtain ⟨g1, g2, g3⟩ := usedB_iff.1 hu
  obtain ⟨c1, c2⟩ := inR_iff.1 hi
  obtain ⟨G, rfl⟩ := Int.eq_ofNat_of_zero_le g1
  obtain ⟨C, rfl⟩ := Int.eq_ofNat_of_zero_le c1
  simp only [Int.toNat_natCast] at g3
  have HDR : Hid (∀ y, Below w.heap.size w y → Calls Tryz.prog 52 #[.agg #[.int .i64 V.now, .slice (some ⟨a.ca, a.oc, none⟩) V.cn a.cc, .slice (some ⟨a.ta, a.ot, none⟩) V.tn a.tc, .slice (some ⟨a.ga, a.og, none⟩) V.gn a.gc], .int .i64 (G : Nat), .int .i64 (C : Nat)] y fun e w' => e = .returned (.bool (dryR V G C)) ∧ Below y.heap.size y w') := fun y hy => by
    have := sDry_any V a G C (by omega) h8 (fun hq => by rw [dn_of HGI.out (by omega) g3 hq]; omega) (HLN.out G (by omega)).d y (HM.out.below hy)
    rw [show dryR V G C = dryB V G C by simp [dryR, ho, hu, hi]]
    exact this
  clear hu g3
  go_enter Tryz.func19, Tryz.ntmps19
  go_wp2_with (first | (go_at_call 17; refine HOK.out.mono ?_; rintro e w1 ⟨rfl, hb1⟩; obtain ⟨j0, j1, j2, j3⟩ := (HK.out.below hb1 HK.out.lt).four) | (go_at_call 51; refine (HUS.out _ (hbx.trans (hb1.mono hbx.size))).mono ?_; rintro e w2 ⟨rfl, rfl⟩) | (go_at_call 39; refine (l1In_any _ _ _ _).mono ?_; rintro e w' ⟨rfl, rfl⟩) | (go_at_call 52; refine (HDR.out _ (hbx.trans (hb1.mono hbx.size))).mono ?_; rintro e w3 ⟨rfl, hb3⟩))
  go_ret
  exact ⟨rfl, hbx.trans ((hb1.trans (hb3.mono hb1.size)).mono hbx.size)⟩
set_option maxHeartbeats 4000000 in
set_option maxRecDepth 100000 in
theorem sWorldMask_any (V : WV) (h : WH) (hl : WLen V) (_hF : V.gn = 8 → Flds (fun i => (V.gv i).us) (fun i => (V.gv i).pa) (fun i => (V.gv i).nm)) (hNE : ∀ k, (V.gv k).ne ≤ 9223372036854775807) (t : Int) (w : World) (hr : WRd w w.heap.size V h) :
    Calls Tryz.prog 13 #[.agg #[.int .i64 V.now, .slice h.ca V.cn h.cc, .slice h.ta V.tn h.tc, .slice h.ga V.gn h.gc], .int .i64 t] w fun e w' => e = .returned (.int .i64 (maskR V t)) ∧ Below w.heap.size w w' := by
  have hbx : Below w.heap.size w (w.alloc (.cells #[.int .i64 V.now, .slice h.ca V.cn h.cc, .slice h.ta V.tn h.tc, .slice h.ga V.gn h.gc] 33)) := (Below.refl _ w).alloc (Nat.le_refl _) _
  have HOK : Hid (Calls Tryz.prog 17 #[.agg #[.int .i64 V.now, .slice h.ca V.cn h.cc, .slice h.ta V.tn h.tc, .slice h.ga V.gn h.gc]] (w.alloc (.cells #[.int .i64 V.now, .slice h.ca V.cn h.cc, .slice h.ta V.tn h.tc, .slice h.ga V.gn h.gc] 33)) fun e w' => e = .returned (.bool (worldI V)) ∧ Below ((w.alloc (.cells #[.int .i64 V.now, .slice h.ca V.cn h.cc, .slice h.ta V.tn h.tc, .slice h.ga V.gn h.gc] 33))).heap.size (w.alloc (.cells #[.int .i64 V.now, .slice h.ca V.cn h.cc, .slice h.ta V.tn h.tc, .slice h.ga V.gn h.gc] 33)) w') := by
    have := sWorldOk_any V h hl hNE (w.alloc (.cells #[.int .i64 V.now, .slice h.ca V.cn h.cc, .slice h.ta V.tn h.tc, .slice h.ga V.gn h.gc] 33)) (hr.at_ hbx)
    rw [← worldEq] at this
    exact this
  cases ho : worldI V
  · rw [ho] at HOK
    clear hl _hF hNE hr
    go_enter Tryz.func13, Tryz.ntmps13
    go_wp2_with (go_at_call 17; refine HOK.out.mono ?_; rintro e w1 ⟨rfl, hb1⟩)
    go_ret
    exact ⟨by simp [maskR, ho], hbx.trans (hb1.mono hbx.size)⟩
  obtain ⟨f1, f2, f3, _⟩ := worldI_facts ho
  obtain ⟨hnow, ⟨c1, c4⟩, t12, T⟩ := shape_tree f1
  have n8 := T.n8
  obtain ⟨a, m, hAe⟩ := MR.of2 hr (by omega) (by omega) (by omega)
  have hga : (h.ca = some ⟨a.ca, a.oc, none⟩ ∧ h.cc = a.cc) ∧ (h.ta = some ⟨a.ta, a.ot, none⟩ ∧ h.tc = a.tc) ∧ (h.ga = some ⟨a.ga, a.og, none⟩ ∧ h.gc = a.gc) := by
    simpa using hAe
  rw [ho, hga.1.1, hga.1.2, hga.2.1.1, hga.2.1.2, hga.2.2.1, hga.2.2.2] at HOK
  rw [hga.1.1, hga.1.2, hga.2.1.1, hga.2.1.2, hga.2.2.1, hga.2.2.2] at hbx ⊢
  have hcn : V.cn ≤ 4 := by omega
  have htn : V.tn ≤ 1048576 := by omega
  have h8 : V.gn ≤ 1048576 := by omega
  have HK : Hid (Bk (w.alloc (.cells #[.int .i64 V.now, .slice (some ⟨a.ca, a.oc, none⟩) V.cn a.cc, .slice (some ⟨a.ta, a.ot, none⟩) V.tn a.tc, .slice (some ⟨a.ga, a.og, none⟩) V.gn a.gc] 33)) w.heap.size 33 #[.int .i64 V.now, .slice (some ⟨a.ca, a.oc, none⟩) V.cn a.cc, .slice (some ⟨a.ta, a.ot, none⟩) V.tn a.tc, .slice (some ⟨a.ga, a.og, none⟩) V.gn a.gc]) := Bk.new w _ _
  have HN8 := Lib.hid n8
  have HT := Lib.hid T
  have HM := Lib.hid m
  have HLN := Lib.hid hl.l
  have HGI := Lib.hid f2
  have HTK := Lib.hid f3
  clear hl _hF hNE hr f1 f2 f3 hnow c1 c4 t12 T n8 m hAe hga
  have HTH : Hid (∀ y, Below w.heap.size w y → Calls Tryz.prog 24 #[.agg #[.int .i64 V.now, .slice (some ⟨a.ca, a.oc, none⟩) V.cn a.cc, .slice (some ⟨a.ta, a.ot, none⟩) V.tn a.tc, .slice (some ⟨a.ga, a.og, none⟩) V.gn a.gc], .int .i64 t] y fun e w' => e = .returned (.bool (thereB V t)) ∧ Below y.heap.size y w') := fun y hy => sTask_any V a t htn y (HM.out.below hy)
  cases hth : thereB V t
  · rw [hth] at HTH
    go_enter Tryz.func13, Tryz.ntmps13
    go_wp2_with (first | (go_at_call 17; refine HOK.out.mono ?_; rintro e w1 ⟨rfl, hb1⟩; obtain ⟨j0, j1, j2, j3⟩ := (HK.out.below hb1 HK.out.lt).four) | (go_at_call 24; refine (HTH.out _ (hbx.trans (hb1.mono hbx.size))).mono ?_; rintro e w2 ⟨rfl, hb2⟩))
    go_ret
    exact ⟨by simp [maskR, hth], hbx.trans ((hb1.trans (hb2.mono hb1.size)).mono hbx.size)⟩
  rw [hth] at HTH
  obtain ⟨k, rfl, hk⟩ := there_t hth
  have hst : (V.tv k).st ≠ 0 := by simp only [thereB, Bool.and_eq_true, Int.toNat_natCast] at hth; simpa using hth.2
  obtain ⟨hu, _, _⟩ := task_used2 HTK.out hk hst
  obtain ⟨u1, u2, u3⟩ := usedB_iff.1 hu
  obtain ⟨G, hGe⟩ := Int.eq_ofNat_of_zero_le u1
  rw [hGe] at u2 u3
  simp only [Int.toNat_natCast] at u3
  have hki : (k : Int) < (V.tn : Nat) := by omega
  have HWH : Hid (∀ y, Below w.heap.size w y → Calls Tryz.prog 35 #[.agg #[.int .i64 V.now, .slice (some ⟨a.ca, a.oc, none⟩) V.cn a.cc, .slice (some ⟨a.ta, a.ot, none⟩) V.tn a.tc, .slice (some ⟨a.ga, a.og, none⟩) V.gn a.gc], .int .i64 G, .int .i64 (V.tv k).ma] y fun e w' => e = .returned (.int .i64 (maskR V k)) ∧ Below y.heap.size y w') := fun y hy => by
    have := sWhere_any V HT.out a G (V.tv k).ma (by have := HN8.out; omega) u3 hcn y (HM.out.below hy)
    rw [show maskR V k = whereM V G (V.tv k).ma by simp [maskR, ho, hth, hGe]]
    exact this
  have e1 := HM.out.t k hk 1 _ rfl
  have e4 := HM.out.t k hk 4 _ rfl
  rw [hGe] at e1
  have htl := HM.out.tl
  clear hst hu hth u1 hGe
  go_enter Tryz.func13, Tryz.ntmps13
  go_upto_region 3 with (first | (go_at_call 17; refine HOK.out.mono ?_; rintro e w1 ⟨rfl, hb1⟩; obtain ⟨j0, j1, j2, j3⟩ := (HK.out.below hb1 HK.out.lt).four) | (go_at_call 24; refine (HTH.out _ (hbx.trans (hb1.mono hbx.size))).mono ?_; rintro e w2 ⟨rfl, hb2⟩; obtain ⟨i0, i1, i2, i3⟩ := ((HK.out.below hb1 HK.out.lt).below hb2 (HK.out.below hb1 HK.out.lt).lt).four))
  have hB2 := hbx.trans ((hb1.trans (hb2.mono hb1.size)).mono hbx.size)
  have hzx := hB2.size
  have hk2 := (HK.out.below hb1 HK.out.lt).below hb2 (HK.out.below hb1 HK.out.lt).lt
  clear j0 j1 j2 j3
  have KS : ∀ w', Below w2.heap.size w2 w' → (fun w' => Below w2.heap.size w2 w' ∧ w'.cell? ⟨w.heap.size, 0, none⟩ = some (.int .i64 V.now) ∧ w'.cell? ⟨w.heap.size, 1, none⟩ = some (.slice (some ⟨a.ca, a.oc, none⟩) V.cn a.cc) ∧ w'.cell? ⟨w.heap.size, 2, none⟩ = some (.slice (some ⟨a.ta, a.ot, none⟩) V.tn a.tc) ∧ w'.cell? ⟨w.heap.size, 3, none⟩ = some (.slice (some ⟨a.ga, a.og, none⟩) V.gn a.gc) ∧ w'.cell? ⟨a.ta, a.ot + k * 9 + 1, none⟩ = some (.int .i64 (G : Nat)) ∧ w'.cell? ⟨a.ta, a.ot + k * 9 + 4, none⟩ = some (.int .i64 (V.tv k).ma)) w' := fun w' h => ⟨h, (h.cell (p := ⟨w.heap.size, 0, none⟩) hk2.lt).trans i0, (h.cell (p := ⟨w.heap.size, 1, none⟩) hk2.lt).trans i1, (h.cell (p := ⟨w.heap.size, 2, none⟩) hk2.lt).trans i2, (h.cell (p := ⟨w.heap.size, 3, none⟩) hk2.lt).trans i3, (h.cell (p := ⟨a.ta, a.ot + k * 9 + 1, none⟩) (Nat.lt_of_lt_of_le htl hzx)).trans ((hB2.cell (p := ⟨a.ta, a.ot + k * 9 + 1, none⟩) htl).trans e1), (h.cell (p := ⟨a.ta, a.ot + k * 9 + 4, none⟩) (Nat.lt_of_lt_of_le htl hzx)).trans ((hB2.cell (p := ⟨a.ta, a.ot + k * 9 + 4, none⟩) htl).trans e4)⟩
  have KT : ∀ wa wb, (fun w' => Below w2.heap.size w2 w' ∧ w'.cell? ⟨w.heap.size, 0, none⟩ = some (.int .i64 V.now) ∧ w'.cell? ⟨w.heap.size, 1, none⟩ = some (.slice (some ⟨a.ca, a.oc, none⟩) V.cn a.cc) ∧ w'.cell? ⟨w.heap.size, 2, none⟩ = some (.slice (some ⟨a.ta, a.ot, none⟩) V.tn a.tc) ∧ w'.cell? ⟨w.heap.size, 3, none⟩ = some (.slice (some ⟨a.ga, a.og, none⟩) V.gn a.gc) ∧ w'.cell? ⟨a.ta, a.ot + k * 9 + 1, none⟩ = some (.int .i64 (G : Nat)) ∧ w'.cell? ⟨a.ta, a.ot + k * 9 + 4, none⟩ = some (.int .i64 (V.tv k).ma)) wa → Below wa.heap.size wa wb → (fun w' => Below w2.heap.size w2 w' ∧ w'.cell? ⟨w.heap.size, 0, none⟩ = some (.int .i64 V.now) ∧ w'.cell? ⟨w.heap.size, 1, none⟩ = some (.slice (some ⟨a.ca, a.oc, none⟩) V.cn a.cc) ∧ w'.cell? ⟨w.heap.size, 2, none⟩ = some (.slice (some ⟨a.ta, a.ot, none⟩) V.tn a.tc) ∧ w'.cell? ⟨w.heap.size, 3, none⟩ = some (.slice (some ⟨a.ga, a.og, none⟩) V.gn a.gc) ∧ w'.cell? ⟨a.ta, a.ot + k * 9 + 1, none⟩ = some (.int .i64 (G : Nat)) ∧ w'.cell? ⟨a.ta, a.ot + k * 9 + 4, none⟩ = some (.int .i64 (V.tv k).ma)) wb := fun wa wb h hab => KS wb (h.1.trans (hab.mono h.1.size))
  have HKS := Lib.hid KS
  have HKT := Lib.hid KT
  clear KS KT
  clear hk2 i0 i1 i2 i3 e1 e4
  refine wp_region_held_drew (S := (fun w' => Below w2.heap.size w2 w' ∧ w'.cell? ⟨w.heap.size, 0, none⟩ = some (.int .i64 V.now) ∧ w'.cell? ⟨w.heap.size, 1, none⟩ = some (.slice (some ⟨a.ca, a.oc, none⟩) V.cn a.cc) ∧ w'.cell? ⟨w.heap.size, 2, none⟩ = some (.slice (some ⟨a.ta, a.ot, none⟩) V.tn a.tc) ∧ w'.cell? ⟨w.heap.size, 3, none⟩ = some (.slice (some ⟨a.ga, a.og, none⟩) V.gn a.gc) ∧ w'.cell? ⟨a.ta, a.ot + k * 9 + 1, none⟩ = some (.int .i64 (G : Nat)) ∧ w'.cell? ⟨a.ta, a.ot + k * 9 + 4, none⟩ = some (.int .i64 (V.tv k).ma))) (by kernel_rfl) (HKS.out _ (Below.refl _ _).drew) (fun hH => ?_)
  refine rgT 0 ?_ ?_ hH ?_; rotate_left; · (intro w s; (try dsimp only at s); go_simp; try with_reducible rfl)
  try simp only [rgp, rg0, rg1]
  refine rgT 1 ?_ ?_ hH ?_; rotate_left; · (intro w s; (try dsimp only at s); go_simp; try with_reducible rfl)
  try simp only [rgp, rg0, rg1]
  refine rgT 2 ?_ ?_ hH ?_; rotate_left; · (intro w s; (try dsimp only at s); go_simp; try with_reducible rfl)
  try simp only [rgp, rg0, rg1]
  refine rgT 3 ?_ ?_ hH ?_; rotate_left; · (intro w s; (try dsimp only at s); go_simp; try with_reducible rfl)
  try simp only [rgp, rg0, rg1]
  refine rgT 4 ?_ ?_ hH ?_; rotate_left; · (intro w s; (try dsimp only at s); go_simp; try with_reducible rfl)
  try simp only [rgp, rg0, rg1]
  refine rgT 5 ?_ ?_ hH ?_; rotate_left; · (intro w s; (try dsimp only at s); go_simp; try with_reducible rfl)
  try simp only [rgp, rg0, rg1]
  refine rgT 6 ?_ ?_ hH ?_; rotate_left; · (intro w s; (try dsimp only at s); go_simp; try with_reducible rfl)
  try simp only [rgp, rg0, rg1]
  refine rgT 7 ?_ ?_ hH ?_; rotate_left; · (intro w s; (try dsimp only at s); go_simp; try with_reducible rfl)
  try simp only [rgp, rg0, rg1]
  refine rgT 8 ?_ ?_ hH ?_; rotate_left; · (intro w s; (try dsimp only at s); go_simp; try with_reducible rfl)
  try simp only [rgp, rg0, rg1]
  refine rgT 9 ?_ ?_ hH ?_; rotate_left; · (intro w s; (try dsimp only at s); go_simp; try with_reducible rfl)
  try simp only [rgp, rg0, rg1]
  refine rgT 10 ?_ ?_ hH ?_; rotate_left; · (intro w s; (try dsimp only at s); go_simp; try with_reducible rfl)
  try simp only [rgp, rg0, rg1]
  refine rgT 11 ?_ ?_ hH ?_; rotate_left; · (intro w s; (try dsimp only at s); go_simp; try with_reducible rfl)
  try simp only [rgp, rg0, rg1]
  refine rgT 12 ?_ ?_ hH ?_; rotate_left; · (intro w s; (try dsimp only at s); go_simp; try with_reducible rfl)
  try simp only [rgp, rg0, rg1]
  refine rgS 13 (fun K hK => ?_)
  go_simp
  (go_at_call 35; refine (HWH.out _ (hB2.trans (hH.1.mono hB2.size))).mono ?_; rintro e wv1 ⟨rfl, hbb1⟩)
  go_wp2_with fail
  refine hK.out _ _ (HKT.out _ _ hH hbb1) (fun hH_1 => ?_)
  clear hK K
  try simp only [rgp, rgn, rg0, rg1]
  refine rgT 14 ?_ ?_ hH_1 ?_; rotate_left; · (intro w s; (try dsimp only at s); go_simp; try with_reducible rfl)
  try simp only [rgp, rg0, rg1]
  refine wpAnyH_done (by kernel_rfl) ?_ _
  go_wp2
  go_ret
  exact ⟨rfl, hB2.trans (hH_1.1.mono hB2.size)⟩
end Go.Proofs.YtndbmeedimhohaaGreat

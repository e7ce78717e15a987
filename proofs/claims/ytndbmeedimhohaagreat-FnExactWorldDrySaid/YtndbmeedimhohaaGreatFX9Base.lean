/- Worlds: the reference: worlds (printed by mkv.py). -/
import Derived.Test.YtndbmeedimhohaaGreatFX8Base
namespace Go.Proofs.YtndbmeedimhohaaGreat
open Go.RowKit
set_option maxHeartbeats 4000000 in
set_option maxRecDepth 100000 in
theorem taskS_used {V : WV} (h : allTo (taskS V) V.tn = true) {t : Nat} (ht : t < V.tn) (hs : (V.tv t).st ≠ 0) : usedB (fun i => (V.gv i).us) V.gn (V.tv t).gr = true ∧ 0 ≤ (V.tv t).cp ∧ (V.tv t).cp.toNat < V.cn ∧ timeB (V.tv t).vv = true := by
  have h1 := allTo_at _ t _ ht h
  unfold taskS at h1
  rw [if_neg hs, Bool.and_eq_true, Bool.and_eq_true] at h1
  obtain ⟨⟨h2, h3⟩, _⟩ := h1
  simp only [headT, Bool.and_eq_true] at h2
  have h4 := where_lt (numT_t h3).2
  exact ⟨h2.1.1.1.2, h4.1, h4.2, (numT_t h3).1⟩
set_option maxHeartbeats 4000000 in
set_option maxRecDepth 100000 in
theorem shelfS_num {V : WV} (h : allTo (fun g => allTo (shelfS V g) (V.gv g).sn) V.gn = true) : allTo (fun g => allTo (numH V g) (V.gv g).sn) V.gn = true := by
  rw [allTo_iff] at h ⊢
  intro g hg
  have := h g hg
  rw [allTo_iff] at this ⊢
  intro c hc
  have := this c hc
  simp only [shelfS, Bool.and_eq_true] at this
  exact this.1
set_option maxHeartbeats 4000000 in
set_option maxRecDepth 100000 in
theorem groupS_I {V : WV} (T : Tree V) (h : allTo (groupS V) V.gn = true) : allTo (groupI V) V.gn = true := by
  have := groups_eq V T
  rw [h, Bool.and_eq_true] at this
  exact this.1
set_option maxHeartbeats 4000000 in
set_option maxRecDepth 100000 in
theorem worldS_e2 {V : WV} (h : allTo (groupS V) V.gn = false) : worldS V = false := by simp [worldS, h]
set_option maxHeartbeats 4000000 in
set_option maxRecDepth 100000 in
theorem worldS_e3 {V : WV} (h : allTo (taskS V) V.tn = false) : worldS V = false := by simp [worldS, h]
set_option maxHeartbeats 4000000 in
set_option maxRecDepth 100000 in
theorem worldS_e4 {V : WV} (h : allTo (fun g => allTo (shelfS V g) (V.gv g).sn) V.gn = false) : worldS V = false := by unfold worldS; rw [h]; simp
set_option maxHeartbeats 4000000 in
set_option maxRecDepth 100000 in
theorem worldS_e5 {V : WV} (h : allTo (cpuS V) V.cn = false) : worldS V = false := by simp [worldS, h]
set_option maxHeartbeats 4000000 in
set_option maxRecDepth 100000 in
theorem worldS_e {V : WV} (h1 : shapeB V = true) (h2 : allTo (groupS V) V.gn = true) (h3 : allTo (taskS V) V.tn = true) (h4 : allTo (fun g => allTo (shelfS V g) (V.gv g).sn) V.gn = true) (h5 : allTo (cpuS V) V.cn = true) : worldS V = true := by unfold worldS; rw [h1, h2, h3, h4, h5]; rfl
set_option maxHeartbeats 4000000 in
set_option maxRecDepth 100000 in
theorem sWorldOk_any (V : WV) (h : WH) (hl : WLen V) (hNE : ∀ k, (V.gv k).ne ≤ 9223372036854775807) (w : World) (hr : WRd w w.heap.size V h) :
    Calls Tryz.prog 17 #[.agg #[.int .i64 V.now, .slice h.ca V.cn h.cc, .slice h.ta V.tn h.tc, .slice h.ga V.gn h.gc]] w fun e w' => e = .returned (.bool (worldS V)) ∧ Below w.heap.size w w' := by
  have hbx : Below w.heap.size w (w.alloc (.cells #[.int .i64 V.now, .slice h.ca V.cn h.cc, .slice h.ta V.tn h.tc, .slice h.ga V.gn h.gc] 33)) := (Below.refl _ w).alloc (Nat.le_refl _) _
  have HTR : Hid (Calls Tryz.prog 40 #[.slice h.ga V.gn h.gc] (w.alloc (.cells #[.int .i64 V.now, .slice h.ca V.cn h.cc, .slice h.ta V.tn h.tc, .slice h.ga V.gn h.gc] 33)) fun e w' => e = .returned (.bool (treeV V)) ∧ Below ((w.alloc (.cells #[.int .i64 V.now, .slice h.ca V.cn h.cc, .slice h.ta V.tn h.tc, .slice h.ga V.gn h.gc] 33))).heap.size (w.alloc (.cells #[.int .i64 V.now, .slice h.ca V.cn h.cc, .slice h.ta V.tn h.tc, .slice h.ga V.gn h.gc] 33)) w') := sTreeOk_any _ _ _ hl.g _ _ _ _ w hbx hr.g.trd
  have HSE : Hid (shapeB V = false → false = worldS V) := fun h => by simp [worldS, h]
  have HSB : Hid (shapeB V = (timeB V.now && inR V.cn 1 4 && (ups V != 0) && ((V.tn : Int) == 12) && treeV V)) := rfl
  cases s1 : timeB V.now
  · have HN := Lib.hid (HSE.out (by rw [HSB.out, s1]; rfl))
    have s1' : inR V.now 0 100000000000000000 = false := s1
    clear hl hr HTR s1
    go_enter Tryz.func17, Tryz.ntmps17
    go_wp2_with (go_at_call 39; refine (l1In_any _ _ _ _).mono ?_; rintro e w' ⟨rfl, rfl⟩)
    go_ret
    exact ⟨ret_boolB HN.out, hbx⟩
  have s1' : inR V.now 0 100000000000000000 = true := s1
  cases s2 : inR V.cn 1 4
  · have HN := Lib.hid (HSE.out (by rw [HSB.out, s2]; simp))
    clear hl hr HTR s1
    go_enter Tryz.func17, Tryz.ntmps17
    go_wp2_with (go_at_call 39; refine (l1In_any _ _ _ _).mono ?_; rintro e w' ⟨rfl, rfl⟩)
    go_ret
    exact ⟨ret_boolB HN.out, hbx⟩
  cases s3 : ((V.tn : Int) != 12)
  case true =>
    have HN := Lib.hid (HSE.out (by rw [HSB.out, show ((V.tn : Int) == 12) = !((V.tn : Int) != 12) by simp [bne], s3]; simp))
    clear hl hr HTR s1
    go_enter Tryz.func17, Tryz.ntmps17
    go_wp2_with (go_at_call 39; refine (l1In_any _ _ _ _).mono ?_; rintro e w' ⟨rfl, rfl⟩)
    go_ret
    exact ⟨ret_boolB HN.out, hbx⟩
  cases s4 : treeV V
  · have HN := Lib.hid (HSE.out (by rw [HSB.out, s4]; simp))
    rw [s4] at HTR
    clear hl hr s1 s4
    go_enter Tryz.func17, Tryz.ntmps17
    go_wp2_with (first | (go_at_call 39; refine (l1In_any _ _ _ _).mono ?_; rintro e w' ⟨rfl, rfl⟩) | (go_at_call 40; refine HTR.out.mono ?_; rintro e w1 ⟨rfl, hb1⟩))
    go_ret
    exact ⟨ret_boolB HN.out, hbx.trans (hb1.mono hbx.size)⟩
  rw [s4] at HTR
  have T := Tree.of s4
  have n8 := T.n8
  obtain ⟨hc1, hc4⟩ := inR_iff.1 s2
  have ht12 : V.tn = 12 := by simp [bne] at s3; omega
  obtain ⟨a, m, hAe⟩ := MR.of2 hr (by omega) (by omega) (by omega)
  have hga : (h.ca = some ⟨a.ca, a.oc, none⟩ ∧ h.cc = a.cc) ∧ (h.ta = some ⟨a.ta, a.ot, none⟩ ∧ h.tc = a.tc) ∧ (h.ga = some ⟨a.ga, a.og, none⟩ ∧ h.gc = a.gc) := by
    simpa using hAe
  rw [hga.1.1, hga.1.2, hga.2.1.1, hga.2.1.2, hga.2.2.1, hga.2.2.2] at HTR hbx ⊢
  have HUP : Hid (∀ y, Below w.heap.size w y → Calls Tryz.prog 41 #[.agg #[.int .i64 V.now, .slice (some ⟨a.ca, a.oc, none⟩) V.cn a.cc, .slice (some ⟨a.ta, a.ot, none⟩) V.tn a.tc, .slice (some ⟨a.ga, a.og, none⟩) V.gn a.gc]] y fun e w' => e = .returned (.int .i64 (ups V)) ∧ Below y.heap.size y w') := fun y hy => sUps_any V a (by omega) y (m.below hy)
  have HK : Hid (Bk (w.alloc (.cells #[.int .i64 V.now, .slice (some ⟨a.ca, a.oc, none⟩) V.cn a.cc, .slice (some ⟨a.ta, a.ot, none⟩) V.tn a.tc, .slice (some ⟨a.ga, a.og, none⟩) V.gn a.gc] 33)) w.heap.size 33 #[.int .i64 V.now, .slice (some ⟨a.ca, a.oc, none⟩) V.cn a.cc, .slice (some ⟨a.ta, a.ot, none⟩) V.tn a.tc, .slice (some ⟨a.ga, a.og, none⟩) V.gn a.gc]) := Bk.new w _ _
  have HN8 := Lib.hid n8
  have HT := Lib.hid T
  have HM := Lib.hid m
  have HLN := Lib.hid hl.l
  have HNE := Lib.hid hNE
  have HNW := Lib.hid s1
  have hcn : V.cn ≤ 4 := by omega
  have htn : V.tn ≤ 1048576 := by omega
  have h8 : V.gn ≤ 1048576 := by omega
  cases s5 : (ups V == 0)
  case true =>
    have HN := Lib.hid (HSE.out (by rw [HSB.out, show (ups V != 0) = !(ups V == 0) from rfl, s5]; simp))
    clear hl hr s1 s4 T n8 hc1 hc4 ht12 hga m hNE hAe
    go_enter Tryz.func17, Tryz.ntmps17
    go_wp2_with (first | (go_at_call 39; refine (l1In_any _ _ _ _).mono ?_; rintro e w' ⟨rfl, rfl⟩) | (go_at_call 40; refine HTR.out.mono ?_; rintro e w1 ⟨rfl, hb1⟩; obtain ⟨j0, j1, j2, j3⟩ := (HK.out.below hb1 HK.out.lt).four) | (go_at_call 41; refine (HUP.out _ (hbx.trans (hb1.mono hbx.size))).mono ?_; rintro e w2 ⟨rfl, hb2⟩))
    go_ret
    exact ⟨ret_boolB HN.out, hbx.trans ((hb1.trans (hb2.mono hb1.size)).mono hbx.size)⟩
  have HSH : Hid (shapeB V = true) := by
    show shapeB V = true
    rw [HSB.out, s1, s2, s4, show (ups V != 0) = !(ups V == 0) from rfl, s5, show ((V.tn : Int) == 12) = !((V.tn : Int) != 12) by simp [bne], s3]; rfl
  obtain ⟨R, hR⟩ : ∃ R, R = worldS V := ⟨_, rfl⟩
  have HE2 : Hid (allTo (groupS V) V.gn = false → false = R) := fun h => by rw [hR]; exact (worldS_e2 h).symm
  have HE3 : Hid (allTo (taskS V) V.tn = false → false = R) := fun h => by rw [hR]; exact (worldS_e3 h).symm
  have HE4 : Hid (allTo (fun g => allTo (shelfS V g) (V.gv g).sn) V.gn = false → false = R) := fun h => by rw [hR]; exact (worldS_e4 h).symm
  have HE5 : Hid (allTo (cpuS V) V.cn = false → false = R) := fun h => by rw [hR]; exact (worldS_e5 h).symm
  have HEN : Hid (allTo (groupS V) V.gn = true → allTo (taskS V) V.tn = true → allTo (fun g => allTo (shelfS V g) (V.gv g).sn) V.gn = true → allTo (cpuS V) V.cn = true → true = R) := fun h2 h3 h4 h5 => by rw [hR]; exact (worldS_e HSH.out h2 h3 h4 h5).symm
  rw [← hR]
  clear hl hr s1 s4 T n8 hc1 hc4 ht12 hga m hNE hAe HSE HSB hR
  go_enter Tryz.func17, Tryz.ntmps17
  go_wp2_with (first | (go_at_call 39; refine (l1In_any _ _ _ _).mono ?_; rintro e w' ⟨rfl, rfl⟩) | (go_at_call 40; refine HTR.out.mono ?_; rintro e w1 ⟨rfl, hb1⟩; obtain ⟨j0, j1, j2, j3⟩ := (HK.out.below hb1 HK.out.lt).four) | (go_at_call 41; refine (HUP.out _ (hbx.trans (hb1.mono hbx.size))).mono ?_; rintro e w2 ⟨rfl, hb2⟩))
  have HB2 := Lib.hid (hbx.trans ((hb1.trans (hb2.mono hb1.size)).mono hbx.size))
  have HKB : Hid (Bk w2 w.heap.size 33 #[.int .i64 V.now, .slice (some ⟨a.ca, a.oc, none⟩) V.cn a.cc, .slice (some ⟨a.ta, a.ot, none⟩) V.tn a.tc, .slice (some ⟨a.ga, a.og, none⟩) V.gn a.gc]) := (HK.out.below hb1 HK.out.lt).below hb2 (HK.out.below hb1 HK.out.lt).lt
  clear hb1 hb2 j0 j1 j2 j3 hbx HK HTR HUP s1' s2 s3 s5 HSH
  go_loopw [3] (fun i wr => ∃ k : Nat, k ≤ V.gn ∧ i = .int .i64 k ∧ Hid (allTo (groupS V) k = true) ∧ Hid (Bk wr w.heap.size 33 #[.int .i64 V.now, .slice (some ⟨a.ca, a.oc, none⟩) V.cn a.cc, .slice (some ⟨a.ta, a.ot, none⟩) V.tn a.tc, .slice (some ⟨a.ga, a.og, none⟩) V.gn a.gc]) ∧ Hid (Below w.heap.size w wr)) (fun i _ => V.gn - (intOf i).toNat)
  case atStart => exact ⟨0, Nat.zero_le _, rfl, rfl, HKB, HB2⟩
  case round =>
    clear HKB HB2
    obtain ⟨k, hk, rfl, HA, HK, HB⟩ := hrel
    have hz := HB.out.size
    obtain ⟨j0, j1, j2, j3⟩ := HK.out.four
    by_cases hlt : k < V.gn
    · have HC : Hid (Calls Tryz.prog 42 #[.agg #[.int .i64 V.now, .slice (some ⟨a.ca, a.oc, none⟩) V.cn a.cc, .slice (some ⟨a.ta, a.ot, none⟩) V.tn a.tc, .slice (some ⟨a.ga, a.og, none⟩) V.gn a.gc], .int .i64 k] wr fun e w' => e = .returned (.bool (groupS V k)) ∧ Below wr.heap.size wr w') := sGroupOk_any V a k hlt h8 hcn HNW.out (HNE.out k) (HLN.out k hlt) wr (HM.out.below HB.out)
      have HF : Hid (groupS V k = false → false = R) := fun h => HE2.out (allTo_false _ k _ hlt h)
      have HX : Hid (groupS V k = true → allTo (groupS V) (k + 1) = true) := fun h => allTo_next _ k HA.out h
      clear HA
      cases hc : groupS V k
      · rw [hc] at HC
        have HN := Lib.hid (HF.out hc)
        clear hc
        go_wp2_with (go_at_call 42; refine HC.out.mono ?_; rintro e w3 ⟨rfl, hb3⟩)
        go_ret
        exact ⟨ret_boolB HN.out, HB.out.trans (hb3.mono hz)⟩
      · rw [hc] at HC
        have HN := Lib.hid (HX.out hc)
        clear hc
        go_wp2_with (go_at_call 42; refine HC.out.mono ?_; rintro e w3 ⟨rfl, hb3⟩)
        go_roundw
        case rel => exact ⟨k + 1, by omega, by go_num, HN, HK.out.below hb3 HK.out.lt, HB.out.trans (hb3.mono hz)⟩
        case measure => simp [intOf]; omega
    obtain rfl : k = V.gn := by omega
    have HGS := HA
    have HGI := Lib.hid (groupS_I HT.out HA.out)
    clear HA HE2 hz
    go_wp2
    clear j0 j1 j2 j3
    go_loopw [4] (fun i wr => ∃ k : Nat, k ≤ V.tn ∧ i = .int .i64 k ∧ Hid (allTo (taskS V) k = true) ∧ Hid (Bk wr w.heap.size 33 #[.int .i64 V.now, .slice (some ⟨a.ca, a.oc, none⟩) V.cn a.cc, .slice (some ⟨a.ta, a.ot, none⟩) V.tn a.tc, .slice (some ⟨a.ga, a.og, none⟩) V.gn a.gc]) ∧ Hid (Below w.heap.size w wr)) (fun i _ => V.tn - (intOf i).toNat)
    case atStart => exact ⟨0, Nat.zero_le _, rfl, rfl, HK, HB⟩
    case round =>
      clear HK HB
      obtain ⟨k, hk, rfl, HA, HK, HB⟩ := hrel
      have hz := HB.out.size
      obtain ⟨j0, j1, j2, j3⟩ := HK.out.four
      by_cases hlt : k < V.tn
      · have HC : Hid (Calls Tryz.prog 43 #[.agg #[.int .i64 V.now, .slice (some ⟨a.ca, a.oc, none⟩) V.cn a.cc, .slice (some ⟨a.ta, a.ot, none⟩) V.tn a.tc, .slice (some ⟨a.ga, a.og, none⟩) V.gn a.gc], .int .i64 k] wr fun e w' => e = .returned (.bool (taskS V k)) ∧ Below wr.heap.size wr w') := sTaskOk_any V HT.out a k hlt hcn htn HGI.out wr (HM.out.below HB.out)
        have HF : Hid (taskS V k = false → false = R) := fun h => HE3.out (allTo_false _ k _ hlt h)
        have HX : Hid (taskS V k = true → allTo (taskS V) (k + 1) = true) := fun h => allTo_next _ k HA.out h
        clear HA
        cases hc : taskS V k
        · rw [hc] at HC
          have HN := Lib.hid (HF.out hc)
          clear hc
          go_wp2_with (go_at_call 43; refine HC.out.mono ?_; rintro e w3 ⟨rfl, hb3⟩)
          go_ret
          exact ⟨ret_boolB HN.out, HB.out.trans (hb3.mono hz)⟩
        · rw [hc] at HC
          have HN := Lib.hid (HX.out hc)
          clear hc
          go_wp2_with (go_at_call 43; refine HC.out.mono ?_; rintro e w3 ⟨rfl, hb3⟩)
          go_roundw
          case rel => exact ⟨k + 1, by omega, by go_num, HN, HK.out.below hb3 HK.out.lt, HB.out.trans (hb3.mono hz)⟩
          case measure => simp [intOf]; omega
      obtain rfl : k = V.tn := by omega
      have HTS := HA
      clear HA HE3 hz
      go_wp2
      clear j0 j1 j2 j3
      go_loopw [5] (fun i wr => ∃ k : Nat, k ≤ V.gn ∧ i = .int .i64 k ∧ Hid (allTo (fun g => allTo (shelfS V g) (V.gv g).sn) k = true) ∧ Hid (Bk wr w.heap.size 33 #[.int .i64 V.now, .slice (some ⟨a.ca, a.oc, none⟩) V.cn a.cc, .slice (some ⟨a.ta, a.ot, none⟩) V.tn a.tc, .slice (some ⟨a.ga, a.og, none⟩) V.gn a.gc]) ∧ Hid (Below w.heap.size w wr)) (fun i _ => V.gn - (intOf i).toNat)
      case atStart => exact ⟨0, Nat.zero_le _, rfl, rfl, HK, HB⟩
      case round =>
        clear HK HB
        obtain ⟨k, hk, rfl, HA, HK, HB⟩ := hrel
        have hz := HB.out.size
        obtain ⟨j0, j1, j2, j3⟩ := HK.out.four
        by_cases hlt : k < V.gn
        · have hki : (k : Int) < (V.gn : Nat) := by omega
          have h9 : (V.gv k).sn ≤ 1048576 := (HLN.out k hlt).s
          have HXK : Hid (allTo (shelfS V k) (V.gv k).sn = true → allTo (fun g => allTo (shelfS V g) (V.gv g).sn) (k + 1) = true) := fun h => allTo_next _ k HA.out h
          have HFK : Hid (allTo (shelfS V k) (V.gv k).sn = false → false = R) := fun h => HE4.out (allTo_false (fun g => allTo (shelfS V g) (V.gv g).sn) k _ hlt h)
          clear HA
          go_wp2
          clear j0 j1 j2 j3
          go_loopw [6] (fun i wr => ∃ c : Nat, c ≤ (V.gv k).sn ∧ i = .int .i64 c ∧ Hid (allTo (shelfS V k) c = true) ∧ Hid (Bk wr w.heap.size 33 #[.int .i64 V.now, .slice (some ⟨a.ca, a.oc, none⟩) V.cn a.cc, .slice (some ⟨a.ta, a.ot, none⟩) V.tn a.tc, .slice (some ⟨a.ga, a.og, none⟩) V.gn a.gc]) ∧ Hid (Below w.heap.size w wr)) (fun i _ => (V.gv k).sn - (intOf i).toNat)
          case atStart => exact ⟨0, Nat.zero_le _, rfl, rfl, HK, HB⟩
          case round =>
            clear HK HB hz
            obtain ⟨c, hc, rfl, HA, HK, HB⟩ := hrel
            have hz := HB.out.size
            obtain ⟨j0, j1, j2, j3⟩ := HK.out.four
            have e13 := (HM.out.below HB.out).g k hlt 13 _ rfl
            by_cases hct : c < (V.gv k).sn
            · have HC : Hid (Calls Tryz.prog 44 #[.agg #[.int .i64 V.now, .slice (some ⟨a.ca, a.oc, none⟩) V.cn a.cc, .slice (some ⟨a.ta, a.ot, none⟩) V.tn a.tc, .slice (some ⟨a.ga, a.og, none⟩) V.gn a.gc], .int .i64 k, .int .i64 c] wr fun e w' => e = .returned (.bool (shelfS V k c)) ∧ Below wr.heap.size wr w') := sShelfOk_any V HT.out a k c hlt hct hcn htn HGI.out (fun g hg => (HLN.out g hg).d) wr (HM.out.below HB.out)
              have HF : Hid (shelfS V k c = false → false = R) := fun h => HFK.out (allTo_false _ c _ hct h)
              have HX : Hid (shelfS V k c = true → allTo (shelfS V k) (c + 1) = true) := fun h => allTo_next _ c HA.out h
              clear HA
              cases hsc : shelfS V k c
              · rw [hsc] at HC
                have HN := Lib.hid (HF.out hsc)
                clear hsc
                go_wp2_with (go_at_call 44; refine HC.out.mono ?_; rintro e w3 ⟨rfl, hb3⟩)
                go_ret
                exact ⟨ret_boolB HN.out, HB.out.trans (hb3.mono hz)⟩
              · rw [hsc] at HC
                have HN := Lib.hid (HX.out hsc)
                clear hsc
                go_wp2_with (go_at_call 44; refine HC.out.mono ?_; rintro e w3 ⟨rfl, hb3⟩)
                go_roundw
                case rel => exact ⟨c + 1, by omega, by go_num, HN, HK.out.below hb3 HK.out.lt, HB.out.trans (hb3.mono hz)⟩
                case measure => simp [intOf]; omega
            · obtain rfl : c = (V.gv k).sn := by omega
              have HN := Lib.hid (HXK.out HA.out)
              clear HA HXK HFK
              go_wp2
              go_roundw
              case rel => exact ⟨k + 1, by omega, by go_num, HN, HK, HB⟩
              case measure => simp [intOf]; omega
        obtain rfl : k = V.gn := by omega
        have HSS := HA
        have HNU := Lib.hid (shelfS_num HA.out)
        clear HA HE4 hz
        go_wp2
        clear j0 j1 j2 j3
        go_loopw [7] (fun i wr => ∃ k : Nat, k ≤ V.cn ∧ i = .int .i64 k ∧ Hid (allTo (cpuS V) k = true) ∧ Hid (Bk wr w.heap.size 33 #[.int .i64 V.now, .slice (some ⟨a.ca, a.oc, none⟩) V.cn a.cc, .slice (some ⟨a.ta, a.ot, none⟩) V.tn a.tc, .slice (some ⟨a.ga, a.og, none⟩) V.gn a.gc]) ∧ Hid (Below w.heap.size w wr)) (fun i _ => V.cn - (intOf i).toNat)
        case atStart => exact ⟨0, Nat.zero_le _, rfl, rfl, HK, HB⟩
        case round =>
          clear HK HB
          obtain ⟨k, hk, rfl, HA, HK, HB⟩ := hrel
          have hz := HB.out.size
          obtain ⟨j0, j1, j2, j3⟩ := HK.out.four
          by_cases hlt : k < V.cn
          · have HC : Hid (Calls Tryz.prog 45 #[.agg #[.int .i64 V.now, .slice (some ⟨a.ca, a.oc, none⟩) V.cn a.cc, .slice (some ⟨a.ta, a.ot, none⟩) V.tn a.tc, .slice (some ⟨a.ga, a.og, none⟩) V.gn a.gc], .int .i64 k] wr fun e w' => e = .returned (.bool (cpuS V k)) ∧ Below wr.heap.size wr w') := sCpuOk_any V HT.out a k hlt hcn htn HGI.out (fun t ht hs => taskS_used HTS.out ht (by omega)) HNU.out wr (HM.out.below HB.out)
            have HF : Hid (cpuS V k = false → false = R) := fun h => HE5.out (allTo_false _ k _ hlt h)
            have HX : Hid (cpuS V k = true → allTo (cpuS V) (k + 1) = true) := fun h => allTo_next _ k HA.out h
            clear HA
            cases hc : cpuS V k
            · rw [hc] at HC
              have HN := Lib.hid (HF.out hc)
              clear hc
              go_wp2_with (go_at_call 45; refine HC.out.mono ?_; rintro e w3 ⟨rfl, hb3⟩)
              go_ret
              exact ⟨ret_boolB HN.out, HB.out.trans (hb3.mono hz)⟩
            · rw [hc] at HC
              have HN := Lib.hid (HX.out hc)
              clear hc
              go_wp2_with (go_at_call 45; refine HC.out.mono ?_; rintro e w3 ⟨rfl, hb3⟩)
              go_roundw
              case rel => exact ⟨k + 1, by omega, by go_num, HN, HK.out.below hb3 HK.out.lt, HB.out.trans (hb3.mono hz)⟩
              case measure => simp [intOf]; omega
          · obtain rfl : k = V.cn := by omega
            have HN := Lib.hid (HEN.out HGS.out HTS.out HSS.out HA.out)
            go_wp2
            go_ret
            exact ⟨ret_boolB HN.out, HB.out⟩
end Go.Proofs.YtndbmeedimhohaaGreat

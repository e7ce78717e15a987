/- Worlds: the reference: groups (printed by mkv.py). -/
import Derived.Test.YtndbmeedimhohaaGreatFX7Base
namespace Go.Proofs.YtndbmeedimhohaaGreat
open Go.RowKit
set_option maxHeartbeats 4000000 in
set_option maxRecDepth 100000 in
theorem sGroupOk_any (V : WV) (a : WA) (k : Nat) (hk : k < V.gn) (_h8 : V.gn ≤ 1048576) (_hcn : V.cn ≤ 4) (hnow : timeB V.now = true) (hne : (V.gv k).ne ≤ 9223372036854775807) (hl : GLen (V.gv k)) (w : World) (m : MR w V a) :
    Calls Tryz.prog 42 #[.agg #[.int .i64 V.now, .slice (some ⟨a.ca, a.oc, none⟩) V.cn a.cc, .slice (some ⟨a.ta, a.ot, none⟩) V.tn a.tc, .slice (some ⟨a.ga, a.og, none⟩) V.gn a.gc], .int .i64 k] w fun e w' => e = .returned (.bool (groupS V k)) ∧ Below w.heap.size w w' := by
  have hbx : Below w.heap.size w (w.alloc (.cells #[.int .i64 V.now, .slice (some ⟨a.ca, a.oc, none⟩) V.cn a.cc, .slice (some ⟨a.ta, a.ot, none⟩) V.tn a.tc, .slice (some ⟨a.ga, a.og, none⟩) V.gn a.gc] 33)) := (Below.refl _ w).alloc (Nat.le_refl _) _
  have HM : Hid (MR (w.alloc (.cells #[.int .i64 V.now, .slice (some ⟨a.ca, a.oc, none⟩) V.cn a.cc, .slice (some ⟨a.ta, a.ot, none⟩) V.tn a.tc, .slice (some ⟨a.ga, a.og, none⟩) V.gn a.gc] 33)) V a) := m.below hbx
  have hki : (k : Int) < (V.gn : Nat) := by omega
  have HES : Hid (groupS V k = if (V.gv k).us then usedG V (V.gv k) && (decide (k ≠ 0) || rootI V) && quotaS V (V.gv k) else zeroG (V.gv k)) := rfl
  obtain ⟨R, hR⟩ : ∃ R, R = groupS V k := ⟨_, rfl⟩
  rw [← hR] at HES ⊢
  have hgr := HM.out.g k hk
  have e0 := hgr 0 _ rfl
  have e1 := hgr 1 _ rfl
  have e2 := hgr 2 _ rfl
  have e3 := hgr 3 _ rfl
  have e4 := hgr 4 _ rfl
  have e5 := hgr 5 _ rfl
  have e6 := hgr 6 _ rfl
  have e7 := hgr 7 _ rfl
  have e8 := hgr 8 _ rfl
  have e9 := hgr 9 _ rfl
  have e10 := hgr 10 _ rfl
  have e11 := hgr 11 _ rfl
  have e12 := hgr 12 _ rfl
  have e13 := hgr 13 _ rfl
  rw [Nat.add_zero] at e0
  have HD := Lib.hid (m.d k hk)
  have HL := Lib.hid hl
  have HNB : Hid (∀ y : World, Calls Tryz.prog 72 #[.agg #[.int .i64 (V.gv k).qu, .int .i64 (V.gv k).po, .int .i64 (V.gv k).sp, .slice (a.gh k).la (V.gv k).ln (a.gh k).lc, .slice (a.gh k).da (V.gv k).dn (a.gh k).dc]] y fun e w' => e = .returned (.bool (nobandB (V.gv k))) ∧ Below y.heap.size y w') := fun y => sNoBand_any (V.gv k) (a.gh k) y
  clear hR m hgr hl
  go_enter Tryz.func42, Tryz.ntmps42
  go_upto_region 2 with (fail)
  clear e0 e1 e2 e3 e4 e5 e6 e7 e8 e9 e10 e11 e12 e13 HM
  have hk0 : Bk ((w.alloc (.cells #[.int .i64 V.now, .slice (some ⟨a.ca, a.oc, none⟩) V.cn a.cc, .slice (some ⟨a.ta, a.ot, none⟩) V.tn a.tc, .slice (some ⟨a.ga, a.og, none⟩) V.gn a.gc] 33)).alloc (.cells #[.bool (V.gv k).us, .int .i64 (V.gv k).pa, .string (V.gv k).nm, .int .i64 (V.gv k).we, .int .i64 (V.gv k).cp, .int .i64 (V.gv k).pe, .int .i64 (V.gv k).ne, .int .i64 (V.gv k).su, .int .i64 (V.gv k).qu, .int .i64 (V.gv k).po, .int .i64 (V.gv k).sp, .slice (a.gh k).la (V.gv k).ln (a.gh k).lc, .slice (a.gh k).da (V.gv k).dn (a.gh k).dc, .slice (a.gh k).sa (V.gv k).sn (a.gh k).sc] 68)) w.heap.size 33 #[.int .i64 V.now, .slice (some ⟨a.ca, a.oc, none⟩) V.cn a.cc, .slice (some ⟨a.ta, a.ot, none⟩) V.tn a.tc, .slice (some ⟨a.ga, a.og, none⟩) V.gn a.gc] := (Bk.new w _ _).alloc _
  have hk1 : Bk ((w.alloc (.cells #[.int .i64 V.now, .slice (some ⟨a.ca, a.oc, none⟩) V.cn a.cc, .slice (some ⟨a.ta, a.ot, none⟩) V.tn a.tc, .slice (some ⟨a.ga, a.og, none⟩) V.gn a.gc] 33)).alloc (.cells #[.bool (V.gv k).us, .int .i64 (V.gv k).pa, .string (V.gv k).nm, .int .i64 (V.gv k).we, .int .i64 (V.gv k).cp, .int .i64 (V.gv k).pe, .int .i64 (V.gv k).ne, .int .i64 (V.gv k).su, .int .i64 (V.gv k).qu, .int .i64 (V.gv k).po, .int .i64 (V.gv k).sp, .slice (a.gh k).la (V.gv k).ln (a.gh k).lc, .slice (a.gh k).da (V.gv k).dn (a.gh k).dc, .slice (a.gh k).sa (V.gv k).sn (a.gh k).sc] 68)) (w.heap.size + 1) 68 #[.bool (V.gv k).us, .int .i64 (V.gv k).pa, .string (V.gv k).nm, .int .i64 (V.gv k).we, .int .i64 (V.gv k).cp, .int .i64 (V.gv k).pe, .int .i64 (V.gv k).ne, .int .i64 (V.gv k).su, .int .i64 (V.gv k).qu, .int .i64 (V.gv k).po, .int .i64 (V.gv k).sp, .slice (a.gh k).la (V.gv k).ln (a.gh k).lc, .slice (a.gh k).da (V.gv k).dn (a.gh k).dc, .slice (a.gh k).sa (V.gv k).sn (a.gh k).sc] := by
    have := Bk.new (w.alloc (.cells #[.int .i64 V.now, .slice (some ⟨a.ca, a.oc, none⟩) V.cn a.cc, .slice (some ⟨a.ta, a.ot, none⟩) V.tn a.tc, .slice (some ⟨a.ga, a.og, none⟩) V.gn a.gc] 33)) 68 #[.bool (V.gv k).us, .int .i64 (V.gv k).pa, .string (V.gv k).nm, .int .i64 (V.gv k).we, .int .i64 (V.gv k).cp, .int .i64 (V.gv k).pe, .int .i64 (V.gv k).ne, .int .i64 (V.gv k).su, .int .i64 (V.gv k).qu, .int .i64 (V.gv k).po, .int .i64 (V.gv k).sp, .slice (a.gh k).la (V.gv k).ln (a.gh k).lc, .slice (a.gh k).da (V.gv k).dn (a.gh k).dc, .slice (a.gh k).sa (V.gv k).sn (a.gh k).sc]
    rw [show ((w.alloc (.cells #[.int .i64 V.now, .slice (some ⟨a.ca, a.oc, none⟩) V.cn a.cc, .slice (some ⟨a.ta, a.ot, none⟩) V.tn a.tc, .slice (some ⟨a.ga, a.og, none⟩) V.gn a.gc] 33))).heap.size = w.heap.size + 1 by simp] at this
    exact this
  have hb2 : Below w.heap.size w ((w.alloc (.cells #[.int .i64 V.now, .slice (some ⟨a.ca, a.oc, none⟩) V.cn a.cc, .slice (some ⟨a.ta, a.ot, none⟩) V.tn a.tc, .slice (some ⟨a.ga, a.og, none⟩) V.gn a.gc] 33)).alloc (.cells #[.bool (V.gv k).us, .int .i64 (V.gv k).pa, .string (V.gv k).nm, .int .i64 (V.gv k).we, .int .i64 (V.gv k).cp, .int .i64 (V.gv k).pe, .int .i64 (V.gv k).ne, .int .i64 (V.gv k).su, .int .i64 (V.gv k).qu, .int .i64 (V.gv k).po, .int .i64 (V.gv k).sp, .slice (a.gh k).la (V.gv k).ln (a.gh k).lc, .slice (a.gh k).da (V.gv k).dn (a.gh k).dc, .slice (a.gh k).sa (V.gv k).sn (a.gh k).sc] 68)) := hbx.alloc hbx.size _
  generalize ((w.alloc (.cells #[.int .i64 V.now, .slice (some ⟨a.ca, a.oc, none⟩) V.cn a.cc, .slice (some ⟨a.ta, a.ot, none⟩) V.tn a.tc, .slice (some ⟨a.ga, a.og, none⟩) V.gn a.gc] 33)).alloc (.cells #[.bool (V.gv k).us, .int .i64 (V.gv k).pa, .string (V.gv k).nm, .int .i64 (V.gv k).we, .int .i64 (V.gv k).cp, .int .i64 (V.gv k).pe, .int .i64 (V.gv k).ne, .int .i64 (V.gv k).su, .int .i64 (V.gv k).qu, .int .i64 (V.gv k).po, .int .i64 (V.gv k).sp, .slice (a.gh k).la (V.gv k).ln (a.gh k).lc, .slice (a.gh k).da (V.gv k).dn (a.gh k).dc, .slice (a.gh k).sa (V.gv k).sn (a.gh k).sc] 68)) = wq at hk0 hk1 hb2 ⊢
  have HBO : Hid (Calls Tryz.prog 76 #[.agg #[.int .i64 (V.gv k).qu, .int .i64 (V.gv k).po, .int .i64 (V.gv k).sp, .slice (a.gh k).la (V.gv k).ln (a.gh k).lc, .slice (a.gh k).da (V.gv k).dn (a.gh k).dc]] wq fun e w' => e = .returned (.bool (bandOk (V.gv k).qu (V.gv k).po (V.gv k).sp (V.gv k).ln (V.gv k).dn (V.gv k).lf (V.gv k).df)) ∧ Below wq.heap.size wq w') := sBandOk_any _ _ _ _ _ _ _ _ _ (by have := HL.out.l; omega) (by have := HL.out.d; omega) _ _ wq wq (Below.refl _ _) (HD.out.at_ hb2).l (HD.out.at_ hb2).d
  have HK0 := Lib.hid hk0
  have HK1 := Lib.hid hk1
  have HB2 := Lib.hid hb2
  obtain ⟨j0, j1, j2, j3⟩ := hk0.four
  have t0 := hk1.cell 0
  have t1 := hk1.cell 1
  have t2 := hk1.cell 2
  have t3 := hk1.cell 3
  have t4 := hk1.cell 4
  have t5 := hk1.cell 5
  have t6 := hk1.cell 6
  have t7 := hk1.cell 7
  have t8 := hk1.cell 8
  have t9 := hk1.cell 9
  have t10 := hk1.cell 10
  have t11 := hk1.cell 11
  have t12 := hk1.cell 12
  have t13 := hk1.cell 13
  clear hk0 hk1 hb2 hbx
  cases hu : (V.gv k).us
  case false =>
    have HZ : Hid (R = zeroG (V.gv k)) := by rw [HES.out, hu]; rfl
    rw [hu] at t0
    clear HES HBO
    cases h1 : ((V.gv k).pa == 0)
    · go_wp2
      go_ret
      exact ⟨ret_boolB (by rw [HZ.out]; simp [zeroG, h1]), HB2.out⟩
    by_cases h2 : (V.gv k).nm = ByteArray.empty
    rotate_left
    · have h2s : ¬ (V.gv k).nm.toList = [] := fun e => h2 (ByteArray.ext (Array.toList_inj.1 (by rw [ByteArray.toList_eq] at e; rw [e]; rfl)))
      go_wp2
      go_ret
      exact ⟨ret_boolB (by rw [HZ.out]; simp [zeroG, h1, h2]), HB2.out⟩
    have h2s : (V.gv k).nm.toList = [] := by rw [h2]; simp [ByteArray.toList_eq]
    have h2x := Lib.hid h2
    clear h2
    cases h3 : ((V.gv k).we == 0)
    · go_wp2
      go_ret
      exact ⟨ret_boolB (by rw [HZ.out]; simp [zeroG, h1, h2x.out, h3]), HB2.out⟩
    cases h4 : ((V.gv k).cp == 0)
    · go_wp2
      go_ret
      exact ⟨ret_boolB (by rw [HZ.out]; simp [zeroG, h1, h2x.out, h3, h4]), HB2.out⟩
    cases h5 : ((V.gv k).pe == 0)
    · go_wp2
      go_ret
      exact ⟨ret_boolB (by rw [HZ.out]; simp [zeroG, h1, h2x.out, h3, h4, h5]), HB2.out⟩
    cases h6 : ((V.gv k).ne == 0)
    · go_wp2
      go_ret
      exact ⟨ret_boolB (by rw [HZ.out]; simp [zeroG, h1, h2x.out, h3, h4, h5, h6]), HB2.out⟩
    cases h7 : ((V.gv k).su == 0)
    · go_wp2
      go_ret
      exact ⟨ret_boolB (by rw [HZ.out]; simp [zeroG, h1, h2x.out, h3, h4, h5, h6, h7]), HB2.out⟩
    cases h8z : (((V.gv k).sn : Int) == 0)
    · go_wp2
      go_ret
      exact ⟨ret_boolB (by rw [HZ.out]; simp [zeroG, h1, h2x.out, h3, h4, h5, h6, h7, h8z]), HB2.out⟩
    cases h9z : (nobandB (V.gv k))
    · go_wp2_with (go_at_call 72; refine (HNB.out _).mono ?_; rintro e w4 ⟨rfl, hb4⟩; obtain ⟨i0, i1, i2, i3⟩ := (HK0.out.below hb4 HK0.out.lt).four; have f5 := (HK1.out.below hb4 HK1.out.lt).cell 5; have f6 := (HK1.out.below hb4 HK1.out.lt).cell 6)
      go_ret
      exact ⟨ret_boolB (by rw [HZ.out]; simp [zeroG, h1, h2x.out, h3, h4, h5, h6, h7, h8z, h9z]), HB2.out.trans (hb4.mono HB2.out.size)⟩
    go_wp2_with (go_at_call 72; refine (HNB.out _).mono ?_; rintro e w4 ⟨rfl, hb4⟩; obtain ⟨i0, i1, i2, i3⟩ := (HK0.out.below hb4 HK0.out.lt).four; have f5 := (HK1.out.below hb4 HK1.out.lt).cell 5; have f6 := (HK1.out.below hb4 HK1.out.lt).cell 6)
    go_ret
    exact ⟨ret_boolB (by rw [HZ.out]; simp [zeroG, h1, h2x.out, h3, h4, h5, h6, h7, h8z, h9z]), HB2.out.trans (hb4.mono HB2.out.size)⟩
  have HRU : Hid (R = (usedG V (V.gv k) && (decide (k ≠ 0) || rootI V) && quotaS V (V.gv k))) := by rw [HES.out, hu]; rfl
  rw [hu] at t0 HK1
  clear HES hu
  go_upto_region 4 with (fail)
  go_cut [87] from 6 (fun c wx => c = .bool (!(usedG V (V.gv k))) ∧ wx = wq)
  case first =>
    have HU : Hid (usedG V (V.gv k) = (inR (V.gv k).we 1 20 && inR (V.gv k).cp 0 15 && !((V.gv k).cp == 0) && timeB (V.gv k).su && !(((V.gv k).sn : Int) != V.cn))) := by show _ = _; unfold usedG; simp only [bne, Bool.not_not]
    cases c1 : (inR (V.gv k).we 1 20)
    case false =>
      go_wp2_with (first | (go_at_call 75; refine (l4Time_any _ _).mono ?_; rintro e w' ⟨rfl, rfl⟩) | (go_at_call 73; refine (l1Weight_any _ _).mono ?_; rintro e w' ⟨rfl, rfl⟩) | (go_at_call 74; refine (sMaskOk_any _ _).mono ?_; rintro e w' ⟨rfl, rfl⟩))
      go_meet
      exact ⟨by rw [HU.out, c1]; simp, rfl⟩
    cases c2 : (inR (V.gv k).cp 0 15)
    case false =>
      go_wp2_with (first | (go_at_call 75; refine (l4Time_any _ _).mono ?_; rintro e w' ⟨rfl, rfl⟩) | (go_at_call 73; refine (l1Weight_any _ _).mono ?_; rintro e w' ⟨rfl, rfl⟩) | (go_at_call 74; refine (sMaskOk_any _ _).mono ?_; rintro e w' ⟨rfl, rfl⟩))
      go_meet
      exact ⟨by rw [HU.out, c1, c2]; simp, rfl⟩
    cases c3 : ((V.gv k).cp == 0)
    case true =>
      go_wp2_with (first | (go_at_call 75; refine (l4Time_any _ _).mono ?_; rintro e w' ⟨rfl, rfl⟩) | (go_at_call 73; refine (l1Weight_any _ _).mono ?_; rintro e w' ⟨rfl, rfl⟩) | (go_at_call 74; refine (sMaskOk_any _ _).mono ?_; rintro e w' ⟨rfl, rfl⟩))
      go_meet
      exact ⟨by rw [HU.out, c1, c2, c3]; simp, rfl⟩
    cases c4 : (timeB (V.gv k).su)
    case false =>
      go_wp2_with (first | (go_at_call 75; refine (l4Time_any _ _).mono ?_; rintro e w' ⟨rfl, rfl⟩) | (go_at_call 73; refine (l1Weight_any _ _).mono ?_; rintro e w' ⟨rfl, rfl⟩) | (go_at_call 74; refine (sMaskOk_any _ _).mono ?_; rintro e w' ⟨rfl, rfl⟩))
      go_meet
      exact ⟨by rw [HU.out, c1, c2, c3, c4]; simp, rfl⟩
    cases c5 : (((V.gv k).sn : Int) != V.cn)
    case true =>
      go_wp2_with (first | (go_at_call 75; refine (l4Time_any _ _).mono ?_; rintro e w' ⟨rfl, rfl⟩) | (go_at_call 73; refine (l1Weight_any _ _).mono ?_; rintro e w' ⟨rfl, rfl⟩) | (go_at_call 74; refine (sMaskOk_any _ _).mono ?_; rintro e w' ⟨rfl, rfl⟩))
      go_meet
      exact ⟨by rw [HU.out, c1, c2, c3, c4, c5]; simp, rfl⟩
    go_wp2_with (first | (go_at_call 75; refine (l4Time_any _ _).mono ?_; rintro e w' ⟨rfl, rfl⟩) | (go_at_call 73; refine (l1Weight_any _ _).mono ?_; rintro e w' ⟨rfl, rfl⟩) | (go_at_call 74; refine (sMaskOk_any _ _).mono ?_; rintro e w' ⟨rfl, rfl⟩))
    go_meet
    exact ⟨by rw [HU.out, c1, c2, c3, c4, c5]; rfl, rfl⟩
  case rest =>
  obtain ⟨rfl, rfl⟩ := hcut
  rename World => wq
  cases hE : usedG V (V.gv k)
  · rw [hE] at HRU
    go_wp2
    go_ret
    exact ⟨ret_boolB (by rw [HRU.out]; rfl), HB2.out⟩
  rw [hE] at HRU
  clear hE
  go_upto_region 6 with (fail)
  go_cut [105] from 6 (fun c wx => c = .bool (!(decide (k ≠ 0) || rootI V)) ∧ wx = wq)
  case first =>
    by_cases h0 : k = 0
    · have h0' : ((k : Int) == 0) = true := by simp [h0]
      have HRT : Hid ((decide (k ≠ 0) || rootI V) = (!((V.gv k).we != 10) && !((V.gv k).cp != 15) && !((V.gv k).qu != 0))) := by show _ = _; simp only [bne, Bool.not_not]; rw [h0]; simp [rootI]
      clear h0
      cases r1 : ((V.gv k).we != 10)
      case true =>
        go_wp2
        go_meet
        exact ⟨by rw [HRT.out, r1]; simp, rfl⟩
      cases r2 : ((V.gv k).cp != 15)
      case true =>
        go_wp2
        go_meet
        exact ⟨by rw [HRT.out, r1, r2]; simp, rfl⟩
      cases r3 : ((V.gv k).qu != 0)
      case true =>
        go_wp2
        go_meet
        exact ⟨by rw [HRT.out, r1, r2, r3]; simp, rfl⟩
      go_wp2
      go_meet
      exact ⟨by rw [HRT.out, r1, r2, r3]; rfl, rfl⟩
    · have h0' : ((k : Int) == 0) = false := by simp [h0]
      go_wp2
      go_meet
      exact ⟨by simp [h0], rfl⟩
  case rest =>
  obtain ⟨rfl, rfl⟩ := hcut
  rename World => wq
  cases hE : (decide (k ≠ 0) || rootI V)
  · rw [hE] at HRU
    go_wp2
    go_ret
    exact ⟨ret_boolB (by rw [HRU.out]; rfl), HB2.out⟩
  rw [hE] at HRU
  clear hE
  have HRQ : Hid (R = if (V.gv k).qu = 0 then nobandB (V.gv k) && ((V.gv k).pe == 0) && ((V.gv k).ne == 0) else bandOk (V.gv k).qu (V.gv k).po (V.gv k).sp (V.gv k).ln (V.gv k).dn (V.gv k).lf (V.gv k).df && (((V.gv k).ln : Int) == V.cn) && inR (V.gv k).pe 1 1000 && decide (V.now < (V.gv k).ne) && decide ((V.gv k).ne - V.now ≤ (V.gv k).pe)) := by rw [HRU.out]; rfl
  clear HRU
  by_cases hq : (V.gv k).qu = 0
  · have hq' : ((V.gv k).qu == 0) = true := by simp [hq]
    have HR2 : Hid (R = (nobandB (V.gv k) && ((V.gv k).pe == 0) && ((V.gv k).ne == 0))) := by rw [HRQ.out, if_pos hq]; rfl
    clear hq HRQ HBO
    cases n1 : (nobandB (V.gv k))
    · go_wp2_with (go_at_call 72; refine (HNB.out _).mono ?_; rintro e w4 ⟨rfl, hb4⟩; obtain ⟨i0, i1, i2, i3⟩ := (HK0.out.below hb4 HK0.out.lt).four; have f5 := (HK1.out.below hb4 HK1.out.lt).cell 5; have f6 := (HK1.out.below hb4 HK1.out.lt).cell 6)
      go_ret
      exact ⟨ret_boolB (by rw [HR2.out, n1]; rfl), HB2.out.trans (hb4.mono HB2.out.size)⟩
    cases n2 : ((V.gv k).pe == 0)
    · go_wp2_with (go_at_call 72; refine (HNB.out _).mono ?_; rintro e w4 ⟨rfl, hb4⟩; obtain ⟨i0, i1, i2, i3⟩ := (HK0.out.below hb4 HK0.out.lt).four; have f5 := (HK1.out.below hb4 HK1.out.lt).cell 5; have f6 := (HK1.out.below hb4 HK1.out.lt).cell 6)
      go_ret
      exact ⟨ret_boolB (by rw [HR2.out, n1, n2]; rfl), HB2.out.trans (hb4.mono HB2.out.size)⟩
    cases n3 : ((V.gv k).ne == 0)
    · go_wp2_with (go_at_call 72; refine (HNB.out _).mono ?_; rintro e w4 ⟨rfl, hb4⟩; obtain ⟨i0, i1, i2, i3⟩ := (HK0.out.below hb4 HK0.out.lt).four; have f5 := (HK1.out.below hb4 HK1.out.lt).cell 5; have f6 := (HK1.out.below hb4 HK1.out.lt).cell 6)
      go_ret
      exact ⟨ret_boolB (by rw [HR2.out, n1, n2, n3]; rfl), HB2.out.trans (hb4.mono HB2.out.size)⟩
    go_wp2_with (go_at_call 72; refine (HNB.out _).mono ?_; rintro e w4 ⟨rfl, hb4⟩; obtain ⟨i0, i1, i2, i3⟩ := (HK0.out.below hb4 HK0.out.lt).four; have f5 := (HK1.out.below hb4 HK1.out.lt).cell 5; have f6 := (HK1.out.below hb4 HK1.out.lt).cell 6)
    go_ret
    exact ⟨ret_boolB (by rw [HR2.out, n1, n2, n3]; rfl), HB2.out.trans (hb4.mono HB2.out.size)⟩
  have hq' : ((V.gv k).qu == 0) = false := by simp [hq]
  have HR2 : Hid (R = (bandOk (V.gv k).qu (V.gv k).po (V.gv k).sp (V.gv k).ln (V.gv k).dn (V.gv k).lf (V.gv k).df && (((V.gv k).ln : Int) == V.cn) && inR (V.gv k).pe 1 1000 && decide (V.now < (V.gv k).ne) && decide ((V.gv k).ne - V.now ≤ (V.gv k).pe))) := by rw [HRQ.out, if_neg hq]; rfl
  obtain ⟨BK, hBK⟩ : ∃ BK, BK = bandOk (V.gv k).qu (V.gv k).po (V.gv k).sp (V.gv k).ln (V.gv k).dn (V.gv k).lf (V.gv k).df := ⟨_, rfl⟩
  rw [← hBK] at HR2 HBO
  clear hq HRQ hBK
  cases b1 : (BK)
  · go_wp2_with (first | (go_at_call 76; refine (HBO.out).mono ?_; rintro e w4 ⟨rfl, hb4⟩; obtain ⟨i0, i1, i2, i3⟩ := (HK0.out.below hb4 HK0.out.lt).four; have f5 := (HK1.out.below hb4 HK1.out.lt).cell 5; have f6 := (HK1.out.below hb4 HK1.out.lt).cell 6; have f11 := (HK1.out.below hb4 HK1.out.lt).cell 11) | (go_at_call 39; refine (l1In_any _ _ _ _).mono ?_; rintro e w' ⟨rfl, rfl⟩))
    go_ret
    exact ⟨ret_boolB (by rw [HR2.out, b1]; rfl), HB2.out.trans (hb4.mono HB2.out.size)⟩
  cases b2 : (((V.gv k).ln : Int) == V.cn)
  · go_wp2_with (first | (go_at_call 76; refine (HBO.out).mono ?_; rintro e w4 ⟨rfl, hb4⟩; obtain ⟨i0, i1, i2, i3⟩ := (HK0.out.below hb4 HK0.out.lt).four; have f5 := (HK1.out.below hb4 HK1.out.lt).cell 5; have f6 := (HK1.out.below hb4 HK1.out.lt).cell 6; have f11 := (HK1.out.below hb4 HK1.out.lt).cell 11) | (go_at_call 39; refine (l1In_any _ _ _ _).mono ?_; rintro e w' ⟨rfl, rfl⟩))
    go_ret
    exact ⟨ret_boolB (by rw [HR2.out, b1, b2]; rfl), HB2.out.trans (hb4.mono HB2.out.size)⟩
  cases b3 : (inR (V.gv k).pe 1 1000)
  · go_wp2_with (first | (go_at_call 76; refine (HBO.out).mono ?_; rintro e w4 ⟨rfl, hb4⟩; obtain ⟨i0, i1, i2, i3⟩ := (HK0.out.below hb4 HK0.out.lt).four; have f5 := (HK1.out.below hb4 HK1.out.lt).cell 5; have f6 := (HK1.out.below hb4 HK1.out.lt).cell 6; have f11 := (HK1.out.below hb4 HK1.out.lt).cell 11) | (go_at_call 39; refine (l1In_any _ _ _ _).mono ?_; rintro e w' ⟨rfl, rfl⟩))
    go_ret
    exact ⟨ret_boolB (by rw [HR2.out, b1, b2, b3]; rfl), HB2.out.trans (hb4.mono HB2.out.size)⟩
  cases b4 : (decide (V.now < (V.gv k).ne))
  · have b4n : ¬ V.now < (V.gv k).ne := by simpa using b4
    go_wp2_with (first | (go_at_call 76; refine (HBO.out).mono ?_; rintro e w4 ⟨rfl, hb4⟩; obtain ⟨i0, i1, i2, i3⟩ := (HK0.out.below hb4 HK0.out.lt).four; have f5 := (HK1.out.below hb4 HK1.out.lt).cell 5; have f6 := (HK1.out.below hb4 HK1.out.lt).cell 6; have f11 := (HK1.out.below hb4 HK1.out.lt).cell 11) | (go_at_call 39; refine (l1In_any _ _ _ _).mono ?_; rintro e w' ⟨rfl, rfl⟩))
    go_ret
    exact ⟨ret_boolB (by rw [HR2.out, b1, b2, b3, b4]; rfl), HB2.out.trans (hb4.mono HB2.out.size)⟩
  cases b5 : (decide ((V.gv k).ne - V.now ≤ (V.gv k).pe))
  · have b4n : V.now < (V.gv k).ne := by simpa using b4
    have HW : Hid (wrap64 ((V.gv k).ne - V.now) = (V.gv k).ne - V.now) := by have := timeB_t hnow; show _ = _; rw [wrap64]; omega
    have b5n : ¬ (V.gv k).ne - V.now ≤ (V.gv k).pe := by simpa using b5
    have HWO := HW.out
    go_wp2_with (first | (go_at_call 76; refine (HBO.out).mono ?_; rintro e w4 ⟨rfl, hb4⟩; obtain ⟨i0, i1, i2, i3⟩ := (HK0.out.below hb4 HK0.out.lt).four; have f5 := (HK1.out.below hb4 HK1.out.lt).cell 5; have f6 := (HK1.out.below hb4 HK1.out.lt).cell 6; have f11 := (HK1.out.below hb4 HK1.out.lt).cell 11) | (go_at_call 39; refine (l1In_any _ _ _ _).mono ?_; rintro e w' ⟨rfl, rfl⟩))
    go_ret
    exact ⟨ret_boolB (by rw [HR2.out, b1, b2, b3, b4, b5]; rfl), HB2.out.trans (hb4.mono HB2.out.size)⟩
  have b4n : V.now < (V.gv k).ne := by simpa using b4
  have HW : Hid (wrap64 ((V.gv k).ne - V.now) = (V.gv k).ne - V.now) := by have := timeB_t hnow; show _ = _; rw [wrap64]; omega
  have b5n : (V.gv k).ne - V.now ≤ (V.gv k).pe := by simpa using b5
  have HWO := HW.out
  go_wp2_with (first | (go_at_call 76; refine (HBO.out).mono ?_; rintro e w4 ⟨rfl, hb4⟩; obtain ⟨i0, i1, i2, i3⟩ := (HK0.out.below hb4 HK0.out.lt).four; have f5 := (HK1.out.below hb4 HK1.out.lt).cell 5; have f6 := (HK1.out.below hb4 HK1.out.lt).cell 6; have f11 := (HK1.out.below hb4 HK1.out.lt).cell 11) | (go_at_call 39; refine (l1In_any _ _ _ _).mono ?_; rintro e w' ⟨rfl, rfl⟩))
  go_ret
  exact ⟨ret_boolB (by rw [HR2.out, b1, b2, b3, b4, b5]; rfl), HB2.out.trans (hb4.mono HB2.out.size)⟩
end Go.Proofs.YtndbmeedimhohaaGreat

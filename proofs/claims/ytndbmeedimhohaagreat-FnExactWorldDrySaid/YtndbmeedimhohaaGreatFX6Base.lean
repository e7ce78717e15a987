/- Worlds: the reference: tasks (printed by mkv.py). -/
import Derived.Test.YtndbmeedimhohaaGreatFCK
namespace Go.Proofs.YtndbmeedimhohaaGreat
open Go.RowKit
set_option maxHeartbeats 4000000 in
set_option maxRecDepth 100000 in
theorem weight_zero (n : Int) : (weightOf n == 0) = !inR n (-10) 9 := by
  unfold weightOf
  cases h : inR n (-10) 9
  · simp
  · have := inR_iff.1 h
    simp; omega
set_option maxHeartbeats 4000000 in
set_option maxRecDepth 100000 in
theorem sTaskOk_any (V : WV) (T : Tree V) (a : WA) (t : Nat) (ht : t < V.tn) (hcn : V.cn ≤ 4) (_htn : V.tn ≤ 1048576) (hG : allTo (groupI V) V.gn = true) (w : World) (m : MR w V a) :
    Calls Tryz.prog 43 #[.agg #[.int .i64 V.now, .slice (some ⟨a.ca, a.oc, none⟩) V.cn a.cc, .slice (some ⟨a.ta, a.ot, none⟩) V.tn a.tc, .slice (some ⟨a.ga, a.og, none⟩) V.gn a.gc], .int .i64 t] w fun e w' => e = .returned (.bool (taskS V t)) ∧ Below w.heap.size w w' := by
  have hbx : Below w.heap.size w (w.alloc (.cells #[.int .i64 V.now, .slice (some ⟨a.ca, a.oc, none⟩) V.cn a.cc, .slice (some ⟨a.ta, a.ot, none⟩) V.tn a.tc, .slice (some ⟨a.ga, a.og, none⟩) V.gn a.gc] 33)) := (Below.refl _ w).alloc (Nat.le_refl _) _
  have HM : Hid (MR (w.alloc (.cells #[.int .i64 V.now, .slice (some ⟨a.ca, a.oc, none⟩) V.cn a.cc, .slice (some ⟨a.ta, a.ot, none⟩) V.tn a.tc, .slice (some ⟨a.ga, a.og, none⟩) V.gn a.gc] 33)) V a) := m.below hbx
  have HN8 := Lib.hid T.n8
  have h8 : V.gn ≤ 1048576 := by have := HN8.out; omega
  have hti : (t : Int) < (V.tn : Nat) := by omega
  have HES : Hid (taskS V t = if (V.tv t).st = 0 then zeroT (V.tv t) else headT V t && numT V t && (((V.tv t).st == 2) || standS (V.tv t).vv (flT V t) (weightOf (V.tv t).ni))) := rfl
  obtain ⟨R, hR⟩ : ∃ R, R = taskS V t := ⟨_, rfl⟩
  rw [← hR] at HES ⊢
  have e0 := HM.out.t t ht 0 _ rfl
  have e1 := HM.out.t t ht 1 _ rfl
  have e2 := HM.out.t t ht 2 _ rfl
  have e3 := HM.out.t t ht 3 _ rfl
  have e4 := HM.out.t t ht 4 _ rfl
  have e5 := HM.out.t t ht 5 _ rfl
  have e6 := HM.out.t t ht 6 _ rfl
  have e7 := HM.out.t t ht 7 _ rfl
  have e8 := HM.out.t t ht 8 _ rfl
  rw [Nat.add_zero] at e0
  have HMW := Lib.hid m
  have HGG := Lib.hid hG
  have HT := Lib.hid T
  clear hR m hG T
  go_enter Tryz.func43, Tryz.ntmps43
  go_upto_region 2 with (fail)
  clear e0 e1 e2 e3 e4 e5 e6 e7 e8 HM
  have hk0 : Bk ((w.alloc (.cells #[.int .i64 V.now, .slice (some ⟨a.ca, a.oc, none⟩) V.cn a.cc, .slice (some ⟨a.ta, a.ot, none⟩) V.tn a.tc, .slice (some ⟨a.ga, a.og, none⟩) V.gn a.gc] 33)).alloc (.cells #[.int .i64 (V.tv t).st, .int .i64 (V.tv t).gr, .int .i64 (V.tv t).cp, .int .i64 (V.tv t).ni, .int .i64 (V.tv t).ma, .int .i64 (V.tv t).vv, .int .i64 (V.tv t).su, .int .i64 (V.tv t).us, .int .i64 (V.tv t).lo] 54)) w.heap.size 33 #[.int .i64 V.now, .slice (some ⟨a.ca, a.oc, none⟩) V.cn a.cc, .slice (some ⟨a.ta, a.ot, none⟩) V.tn a.tc, .slice (some ⟨a.ga, a.og, none⟩) V.gn a.gc] := (Bk.new w _ _).alloc _
  have hk1 : Bk ((w.alloc (.cells #[.int .i64 V.now, .slice (some ⟨a.ca, a.oc, none⟩) V.cn a.cc, .slice (some ⟨a.ta, a.ot, none⟩) V.tn a.tc, .slice (some ⟨a.ga, a.og, none⟩) V.gn a.gc] 33)).alloc (.cells #[.int .i64 (V.tv t).st, .int .i64 (V.tv t).gr, .int .i64 (V.tv t).cp, .int .i64 (V.tv t).ni, .int .i64 (V.tv t).ma, .int .i64 (V.tv t).vv, .int .i64 (V.tv t).su, .int .i64 (V.tv t).us, .int .i64 (V.tv t).lo] 54)) (w.heap.size + 1) 54 #[.int .i64 (V.tv t).st, .int .i64 (V.tv t).gr, .int .i64 (V.tv t).cp, .int .i64 (V.tv t).ni, .int .i64 (V.tv t).ma, .int .i64 (V.tv t).vv, .int .i64 (V.tv t).su, .int .i64 (V.tv t).us, .int .i64 (V.tv t).lo] := by
    have := Bk.new (w.alloc (.cells #[.int .i64 V.now, .slice (some ⟨a.ca, a.oc, none⟩) V.cn a.cc, .slice (some ⟨a.ta, a.ot, none⟩) V.tn a.tc, .slice (some ⟨a.ga, a.og, none⟩) V.gn a.gc] 33)) 54 #[.int .i64 (V.tv t).st, .int .i64 (V.tv t).gr, .int .i64 (V.tv t).cp, .int .i64 (V.tv t).ni, .int .i64 (V.tv t).ma, .int .i64 (V.tv t).vv, .int .i64 (V.tv t).su, .int .i64 (V.tv t).us, .int .i64 (V.tv t).lo]
    rw [show ((w.alloc (.cells #[.int .i64 V.now, .slice (some ⟨a.ca, a.oc, none⟩) V.cn a.cc, .slice (some ⟨a.ta, a.ot, none⟩) V.tn a.tc, .slice (some ⟨a.ga, a.og, none⟩) V.gn a.gc] 33))).heap.size = w.heap.size + 1 by simp] at this
    exact this
  have hb2 : Below w.heap.size w ((w.alloc (.cells #[.int .i64 V.now, .slice (some ⟨a.ca, a.oc, none⟩) V.cn a.cc, .slice (some ⟨a.ta, a.ot, none⟩) V.tn a.tc, .slice (some ⟨a.ga, a.og, none⟩) V.gn a.gc] 33)).alloc (.cells #[.int .i64 (V.tv t).st, .int .i64 (V.tv t).gr, .int .i64 (V.tv t).cp, .int .i64 (V.tv t).ni, .int .i64 (V.tv t).ma, .int .i64 (V.tv t).vv, .int .i64 (V.tv t).su, .int .i64 (V.tv t).us, .int .i64 (V.tv t).lo] 54)) := hbx.alloc hbx.size _
  generalize ((w.alloc (.cells #[.int .i64 V.now, .slice (some ⟨a.ca, a.oc, none⟩) V.cn a.cc, .slice (some ⟨a.ta, a.ot, none⟩) V.tn a.tc, .slice (some ⟨a.ga, a.og, none⟩) V.gn a.gc] 33)).alloc (.cells #[.int .i64 (V.tv t).st, .int .i64 (V.tv t).gr, .int .i64 (V.tv t).cp, .int .i64 (V.tv t).ni, .int .i64 (V.tv t).ma, .int .i64 (V.tv t).vv, .int .i64 (V.tv t).su, .int .i64 (V.tv t).us, .int .i64 (V.tv t).lo] 54)) = wq at hk0 hk1 hb2 ⊢
  have HK0 := Lib.hid hk0
  have HK1 := Lib.hid hk1
  have HB2 := Lib.hid hb2
  obtain ⟨j0, j1, j2, j3⟩ := hk0.four
  have t0 := hk1.cell 0
  have t1 := hk1.cell 1
  have t2 := hk1.cell 2
  have t3 := hk1.cell 3
  have t4 := hk1.cell 4
  have t5 := hk1.cell 5
  have t6 := hk1.cell 6
  have t7 := hk1.cell 7
  have t8 := hk1.cell 8
  have HTRD : Hid (TRd wq wq.heap.size (some ⟨a.ga, a.og, none⟩) V.gn (fun i => (V.gv i).us) (fun i => (V.gv i).pa) (fun i => (V.gv i).nm)) := (HMW.out.below hb2).trd
  clear hk0 hk1 hb2 hbx
  by_cases hs0 : (V.tv t).st = 0
  · have hs0' : ((V.tv t).st == 0) = true := by simp [hs0]
    have HZ : Hid (R = zeroT (V.tv t)) := by rw [HES.out, if_pos hs0]; rfl
    clear hs0 HES t1 t2 t3 t4 t5 t6 t7 t8
    go_upto_region 3 with (fail)
    refine wp_region_lit ?_
    refine wpList_load_mid rfl 54 _ rfl (w.heap.size + 1) 0 rfl [.int .i64 (V.tv t).st, .int .i64 (V.tv t).gr, .int .i64 (V.tv t).cp, .int .i64 (V.tv t).ni, .int .i64 (V.tv t).ma, .int .i64 (V.tv t).vv, .int .i64 (V.tv t).su, .int .i64 (V.tv t).us, .int .i64 (V.tv t).lo] _ (Bk.range HK1.out) Tryz.underlying54 rfl (by kernel_rfl) ?_
    refine wpList_run rfl (.agg #[.int .i64 0, .int .i64 0, .int .i64 0, .int .i64 0, .int .i64 0, .int .i64 0, .int .i64 0, .int .i64 0, .int .i64 0]) (execBuildT _ _ rfl _) ?_
    refine wpList_run rfl (.bool (zeroT (V.tv t))) (execTask _ (V.tv t) _ _ _ _ rfl rfl rfl _) ?_
    simp only [rgp, rg0, rg1]
    go_wp2
    go_ret
    exact ⟨by rw [HZ.out]; rfl, HB2.out⟩
  have hs0' : ((V.tv t).st == 0) = false := by simp [hs0]
  have HES2 : Hid (R = (headT V t && numT V t && (((V.tv t).st == 2) || standS (V.tv t).vv (flT V t) (weightOf (V.tv t).ni)))) := by rw [HES.out, if_neg hs0]; rfl
  clear HES hs0
  go_upto_region 4 with (fail)
  go_cut [49] from 11 (fun c wx => c = .bool (!(headT V t)) ∧ wx = wq)
  case first =>
    have HHD : Hid (headT V t = ((((V.tv t).st == 1) || ((V.tv t).st == 2)) && usedB (fun i => (V.gv i).us) V.gn (V.tv t).gr && !(weightOf (V.tv t).ni == 0) && inR (V.tv t).ma 0 15 && !((V.tv t).ma == 0))) := by
      show headT V t = _
      rw [weight_zero, Bool.not_not]
      unfold headT
      rw [show ((V.tv t).ma != 0) = !((V.tv t).ma == 0) from rfl]
      simp only [Bool.and_assoc, Bool.and_comm (inR (V.tv t).ma 0 15)]
    clear hs0'
    cases s1 : ((V.tv t).st != 1)
    case false =>
      cases c1 : usedB (fun i => (V.gv i).us) V.gn (V.tv t).gr
      case false =>
        go_wp2_with (first | (go_at_call 51; refine (sUsed_any _ _ _ (by omega) _ _ _ _ _ HTRD.out).mono ?_; rintro e w9 ⟨rfl, rfl⟩) | (go_at_call 77; refine (sWeightOf_any _ _).mono ?_; rintro e w' ⟨rfl, rfl⟩) | (go_at_call 74; refine (sMaskOk_any _ _).mono ?_; rintro e w' ⟨rfl, rfl⟩))
        go_meet
        exact ⟨by rw [HHD.out, c1]; simp at s1; simp [s1], rfl⟩
      cases c2 : (weightOf (V.tv t).ni == 0)
      case true =>
        go_wp2_with (first | (go_at_call 51; refine (sUsed_any _ _ _ (by omega) _ _ _ _ _ HTRD.out).mono ?_; rintro e w9 ⟨rfl, rfl⟩) | (go_at_call 77; refine (sWeightOf_any _ _).mono ?_; rintro e w' ⟨rfl, rfl⟩) | (go_at_call 74; refine (sMaskOk_any _ _).mono ?_; rintro e w' ⟨rfl, rfl⟩))
        go_meet
        exact ⟨by rw [HHD.out, c1, c2]; simp at s1; simp [s1], rfl⟩
      cases c3 : inR (V.tv t).ma 0 15
      case false =>
        go_wp2_with (first | (go_at_call 51; refine (sUsed_any _ _ _ (by omega) _ _ _ _ _ HTRD.out).mono ?_; rintro e w9 ⟨rfl, rfl⟩) | (go_at_call 77; refine (sWeightOf_any _ _).mono ?_; rintro e w' ⟨rfl, rfl⟩) | (go_at_call 74; refine (sMaskOk_any _ _).mono ?_; rintro e w' ⟨rfl, rfl⟩))
        go_meet
        exact ⟨by rw [HHD.out, c1, c2, c3]; simp at s1; simp [s1], rfl⟩
      cases c4 : ((V.tv t).ma == 0)
      case true =>
        go_wp2_with (first | (go_at_call 51; refine (sUsed_any _ _ _ (by omega) _ _ _ _ _ HTRD.out).mono ?_; rintro e w9 ⟨rfl, rfl⟩) | (go_at_call 77; refine (sWeightOf_any _ _).mono ?_; rintro e w' ⟨rfl, rfl⟩) | (go_at_call 74; refine (sMaskOk_any _ _).mono ?_; rintro e w' ⟨rfl, rfl⟩))
        go_meet
        exact ⟨by rw [HHD.out, c1, c2, c3, c4]; simp at s1; simp [s1], rfl⟩
      go_wp2_with (first | (go_at_call 51; refine (sUsed_any _ _ _ (by omega) _ _ _ _ _ HTRD.out).mono ?_; rintro e w9 ⟨rfl, rfl⟩) | (go_at_call 77; refine (sWeightOf_any _ _).mono ?_; rintro e w' ⟨rfl, rfl⟩) | (go_at_call 74; refine (sMaskOk_any _ _).mono ?_; rintro e w' ⟨rfl, rfl⟩))
      go_meet
      exact ⟨by rw [HHD.out, c1, c2, c3, c4]; simp at s1; simp [s1], rfl⟩
    cases s2 : ((V.tv t).st != 2)
    case false =>
      cases c1 : usedB (fun i => (V.gv i).us) V.gn (V.tv t).gr
      case false =>
        go_wp2_with (first | (go_at_call 51; refine (sUsed_any _ _ _ (by omega) _ _ _ _ _ HTRD.out).mono ?_; rintro e w9 ⟨rfl, rfl⟩) | (go_at_call 77; refine (sWeightOf_any _ _).mono ?_; rintro e w' ⟨rfl, rfl⟩) | (go_at_call 74; refine (sMaskOk_any _ _).mono ?_; rintro e w' ⟨rfl, rfl⟩))
        go_meet
        exact ⟨by rw [HHD.out, c1]; simp at s1; simp at s2; simp [s2], rfl⟩
      cases c2 : (weightOf (V.tv t).ni == 0)
      case true =>
        go_wp2_with (first | (go_at_call 51; refine (sUsed_any _ _ _ (by omega) _ _ _ _ _ HTRD.out).mono ?_; rintro e w9 ⟨rfl, rfl⟩) | (go_at_call 77; refine (sWeightOf_any _ _).mono ?_; rintro e w' ⟨rfl, rfl⟩) | (go_at_call 74; refine (sMaskOk_any _ _).mono ?_; rintro e w' ⟨rfl, rfl⟩))
        go_meet
        exact ⟨by rw [HHD.out, c1, c2]; simp at s1; simp at s2; simp [s2], rfl⟩
      cases c3 : inR (V.tv t).ma 0 15
      case false =>
        go_wp2_with (first | (go_at_call 51; refine (sUsed_any _ _ _ (by omega) _ _ _ _ _ HTRD.out).mono ?_; rintro e w9 ⟨rfl, rfl⟩) | (go_at_call 77; refine (sWeightOf_any _ _).mono ?_; rintro e w' ⟨rfl, rfl⟩) | (go_at_call 74; refine (sMaskOk_any _ _).mono ?_; rintro e w' ⟨rfl, rfl⟩))
        go_meet
        exact ⟨by rw [HHD.out, c1, c2, c3]; simp at s1; simp at s2; simp [s2], rfl⟩
      cases c4 : ((V.tv t).ma == 0)
      case true =>
        go_wp2_with (first | (go_at_call 51; refine (sUsed_any _ _ _ (by omega) _ _ _ _ _ HTRD.out).mono ?_; rintro e w9 ⟨rfl, rfl⟩) | (go_at_call 77; refine (sWeightOf_any _ _).mono ?_; rintro e w' ⟨rfl, rfl⟩) | (go_at_call 74; refine (sMaskOk_any _ _).mono ?_; rintro e w' ⟨rfl, rfl⟩))
        go_meet
        exact ⟨by rw [HHD.out, c1, c2, c3, c4]; simp at s1; simp at s2; simp [s2], rfl⟩
      go_wp2_with (first | (go_at_call 51; refine (sUsed_any _ _ _ (by omega) _ _ _ _ _ HTRD.out).mono ?_; rintro e w9 ⟨rfl, rfl⟩) | (go_at_call 77; refine (sWeightOf_any _ _).mono ?_; rintro e w' ⟨rfl, rfl⟩) | (go_at_call 74; refine (sMaskOk_any _ _).mono ?_; rintro e w' ⟨rfl, rfl⟩))
      go_meet
      exact ⟨by rw [HHD.out, c1, c2, c3, c4]; simp at s1; simp at s2; simp [s2], rfl⟩
    go_wp2_with (first | (go_at_call 51; refine (sUsed_any _ _ _ (by omega) _ _ _ _ _ HTRD.out).mono ?_; rintro e w9 ⟨rfl, rfl⟩) | (go_at_call 77; refine (sWeightOf_any _ _).mono ?_; rintro e w' ⟨rfl, rfl⟩) | (go_at_call 74; refine (sMaskOk_any _ _).mono ?_; rintro e w' ⟨rfl, rfl⟩))
    go_meet
    exact ⟨by rw [HHD.out]; simp at s1; simp at s2; simp [s1, s2], rfl⟩
  case rest =>
    obtain ⟨rfl, rfl⟩ := hcut
    rename World => wq
    cases hE : headT V t
    · rw [hE] at HES2
      go_wp2
      go_ret
      exact ⟨ret_boolB (by rw [HES2.out]; rfl), HB2.out⟩
    rw [hE] at HES2
    have hu : usedB (fun i => (V.gv i).us) V.gn (V.tv t).gr = true := by
      simp only [headT, Bool.and_eq_true] at hE
      exact hE.1.1.1.2
    clear hE
    obtain ⟨u1, u2, u3⟩ := usedB_iff.1 hu
    obtain ⟨G, hGe⟩ := Int.eq_ofNat_of_zero_le u1
    rw [hGe] at u2 u3 t1
    simp only [Int.toNat_natCast] at u3
    have HND : Hid (numT V t = (timeB (V.tv t).vv && timeB (V.tv t).su && timeB (V.tv t).us && inR (V.tv t).lo 0 8000000 && maskHas (whereM V G (V.tv t).ma) (V.tv t).cp)) := by show _ = _; unfold numT time3; rw [hGe, Int.toNat_natCast]
    have HWH : Hid (∀ y, Below w.heap.size w y → Calls Tryz.prog 35 #[.agg #[.int .i64 V.now, .slice (some ⟨a.ca, a.oc, none⟩) V.cn a.cc, .slice (some ⟨a.ta, a.ot, none⟩) V.tn a.tc, .slice (some ⟨a.ga, a.og, none⟩) V.gn a.gc], .int .i64 G, .int .i64 (V.tv t).ma] y fun e w' => e = .returned (.int .i64 (whereM V G (V.tv t).ma)) ∧ Below y.heap.size y w') := fun y hy => sWhere_any V HT.out a G _ (by have := HN8.out; omega) u3 hcn y (HMW.out.below hy)
    have HGE := Lib.hid hGe
    have hk0 := HK0.out
    have hk1 := HK1.out
    have hbx := HB2.out
    clear hu u1 hGe HTRD
    go_upto_region 6 with (fail)
    go_cut [83] from 11 (fun c wx => c = .bool (!(numT V t)) ∧ Hid (Below wq.heap.size wq wx))
    case first =>
      have KS : ∀ w', Below wq.heap.size wq w' → (fun w' => Below wq.heap.size wq w' ∧ w'.cell? ⟨w.heap.size, 0, none⟩ = some (.int .i64 V.now) ∧ w'.cell? ⟨w.heap.size, 1, none⟩ = some (.slice (some ⟨a.ca, a.oc, none⟩) V.cn a.cc) ∧ w'.cell? ⟨w.heap.size, 2, none⟩ = some (.slice (some ⟨a.ta, a.ot, none⟩) V.tn a.tc) ∧ w'.cell? ⟨w.heap.size, 3, none⟩ = some (.slice (some ⟨a.ga, a.og, none⟩) V.gn a.gc) ∧ w'.cell? ⟨w.heap.size + 1, 1, none⟩ = some (.int .i64 (G : Nat)) ∧ w'.cell? ⟨w.heap.size + 1, 2, none⟩ = some (.int .i64 (V.tv t).cp) ∧ w'.cell? ⟨w.heap.size + 1, 3, none⟩ = some (.int .i64 (V.tv t).ni) ∧ w'.cell? ⟨w.heap.size + 1, 4, none⟩ = some (.int .i64 (V.tv t).ma) ∧ w'.cell? ⟨w.heap.size + 1, 5, none⟩ = some (.int .i64 (V.tv t).vv) ∧ w'.cell? ⟨w.heap.size + 1, 6, none⟩ = some (.int .i64 (V.tv t).su) ∧ w'.cell? ⟨w.heap.size + 1, 7, none⟩ = some (.int .i64 (V.tv t).us) ∧ w'.cell? ⟨w.heap.size + 1, 8, none⟩ = some (.int .i64 (V.tv t).lo)) w' := fun w' h => ⟨h, (h.cell (p := ⟨w.heap.size, 0, none⟩) hk0.lt).trans j0, (h.cell (p := ⟨w.heap.size, 1, none⟩) hk0.lt).trans j1, (h.cell (p := ⟨w.heap.size, 2, none⟩) hk0.lt).trans j2, (h.cell (p := ⟨w.heap.size, 3, none⟩) hk0.lt).trans j3, (h.cell (p := ⟨w.heap.size + 1, 1, none⟩) hk1.lt).trans t1, (h.cell (p := ⟨w.heap.size + 1, 2, none⟩) hk1.lt).trans t2, (h.cell (p := ⟨w.heap.size + 1, 3, none⟩) hk1.lt).trans t3, (h.cell (p := ⟨w.heap.size + 1, 4, none⟩) hk1.lt).trans t4, (h.cell (p := ⟨w.heap.size + 1, 5, none⟩) hk1.lt).trans t5, (h.cell (p := ⟨w.heap.size + 1, 6, none⟩) hk1.lt).trans t6, (h.cell (p := ⟨w.heap.size + 1, 7, none⟩) hk1.lt).trans t7, (h.cell (p := ⟨w.heap.size + 1, 8, none⟩) hk1.lt).trans t8⟩
      have KT : ∀ wa wb, (fun w' => Below wq.heap.size wq w' ∧ w'.cell? ⟨w.heap.size, 0, none⟩ = some (.int .i64 V.now) ∧ w'.cell? ⟨w.heap.size, 1, none⟩ = some (.slice (some ⟨a.ca, a.oc, none⟩) V.cn a.cc) ∧ w'.cell? ⟨w.heap.size, 2, none⟩ = some (.slice (some ⟨a.ta, a.ot, none⟩) V.tn a.tc) ∧ w'.cell? ⟨w.heap.size, 3, none⟩ = some (.slice (some ⟨a.ga, a.og, none⟩) V.gn a.gc) ∧ w'.cell? ⟨w.heap.size + 1, 1, none⟩ = some (.int .i64 (G : Nat)) ∧ w'.cell? ⟨w.heap.size + 1, 2, none⟩ = some (.int .i64 (V.tv t).cp) ∧ w'.cell? ⟨w.heap.size + 1, 3, none⟩ = some (.int .i64 (V.tv t).ni) ∧ w'.cell? ⟨w.heap.size + 1, 4, none⟩ = some (.int .i64 (V.tv t).ma) ∧ w'.cell? ⟨w.heap.size + 1, 5, none⟩ = some (.int .i64 (V.tv t).vv) ∧ w'.cell? ⟨w.heap.size + 1, 6, none⟩ = some (.int .i64 (V.tv t).su) ∧ w'.cell? ⟨w.heap.size + 1, 7, none⟩ = some (.int .i64 (V.tv t).us) ∧ w'.cell? ⟨w.heap.size + 1, 8, none⟩ = some (.int .i64 (V.tv t).lo)) wa → Below wa.heap.size wa wb → (fun w' => Below wq.heap.size wq w' ∧ w'.cell? ⟨w.heap.size, 0, none⟩ = some (.int .i64 V.now) ∧ w'.cell? ⟨w.heap.size, 1, none⟩ = some (.slice (some ⟨a.ca, a.oc, none⟩) V.cn a.cc) ∧ w'.cell? ⟨w.heap.size, 2, none⟩ = some (.slice (some ⟨a.ta, a.ot, none⟩) V.tn a.tc) ∧ w'.cell? ⟨w.heap.size, 3, none⟩ = some (.slice (some ⟨a.ga, a.og, none⟩) V.gn a.gc) ∧ w'.cell? ⟨w.heap.size + 1, 1, none⟩ = some (.int .i64 (G : Nat)) ∧ w'.cell? ⟨w.heap.size + 1, 2, none⟩ = some (.int .i64 (V.tv t).cp) ∧ w'.cell? ⟨w.heap.size + 1, 3, none⟩ = some (.int .i64 (V.tv t).ni) ∧ w'.cell? ⟨w.heap.size + 1, 4, none⟩ = some (.int .i64 (V.tv t).ma) ∧ w'.cell? ⟨w.heap.size + 1, 5, none⟩ = some (.int .i64 (V.tv t).vv) ∧ w'.cell? ⟨w.heap.size + 1, 6, none⟩ = some (.int .i64 (V.tv t).su) ∧ w'.cell? ⟨w.heap.size + 1, 7, none⟩ = some (.int .i64 (V.tv t).us) ∧ w'.cell? ⟨w.heap.size + 1, 8, none⟩ = some (.int .i64 (V.tv t).lo)) wb := fun wa wb h hab => KS wb (h.1.trans (hab.mono h.1.size))
      have HKS := Lib.hid KS
      have HKT := Lib.hid KT
      clear KS KT
      clear hk0 hk1 j0 j1 j2 j3 t0 t1 t2 t3 t4 t5 t6 t7 t8
      refine wp_region_held_drew (S := (fun w' => Below wq.heap.size wq w' ∧ w'.cell? ⟨w.heap.size, 0, none⟩ = some (.int .i64 V.now) ∧ w'.cell? ⟨w.heap.size, 1, none⟩ = some (.slice (some ⟨a.ca, a.oc, none⟩) V.cn a.cc) ∧ w'.cell? ⟨w.heap.size, 2, none⟩ = some (.slice (some ⟨a.ta, a.ot, none⟩) V.tn a.tc) ∧ w'.cell? ⟨w.heap.size, 3, none⟩ = some (.slice (some ⟨a.ga, a.og, none⟩) V.gn a.gc) ∧ w'.cell? ⟨w.heap.size + 1, 1, none⟩ = some (.int .i64 (G : Nat)) ∧ w'.cell? ⟨w.heap.size + 1, 2, none⟩ = some (.int .i64 (V.tv t).cp) ∧ w'.cell? ⟨w.heap.size + 1, 3, none⟩ = some (.int .i64 (V.tv t).ni) ∧ w'.cell? ⟨w.heap.size + 1, 4, none⟩ = some (.int .i64 (V.tv t).ma) ∧ w'.cell? ⟨w.heap.size + 1, 5, none⟩ = some (.int .i64 (V.tv t).vv) ∧ w'.cell? ⟨w.heap.size + 1, 6, none⟩ = some (.int .i64 (V.tv t).su) ∧ w'.cell? ⟨w.heap.size + 1, 7, none⟩ = some (.int .i64 (V.tv t).us) ∧ w'.cell? ⟨w.heap.size + 1, 8, none⟩ = some (.int .i64 (V.tv t).lo))) (by kernel_rfl) (HKS.out _ (Below.refl _ _).drew) (fun hH => ?_)
      refine rgT 0 ?_ ?_ hH ?_; rotate_left; · (intro w s; (try dsimp only at s); go_simp; try with_reducible rfl)
      try simp only [rgp, rg0, rg1]
      refine rgT 1 ?_ ?_ hH ?_; rotate_left; · (intro w s; (try dsimp only at s); go_simp; try with_reducible rfl)
      try simp only [rgp, rg0, rg1]
      cases d1 : (timeB (V.tv t).vv)
      · refine rgS 2 (fun K hK => ?_)
        go_simp
        (go_at_call 75; refine (l4Time_any _ _).mono ?_; rintro e wv1 ⟨rfl, rfl⟩)
        go_wp2_with fail
        refine hK.out _ _ (hH) (fun hH_1 => ?_)
        clear hK K
        try simp only [rgp, rgn, rg0, rg1]
        refine rgT 3 ?_ ?_ hH_1 ?_; rotate_left; · (intro w s; (try dsimp only at s); go_simp; try with_reducible rfl)
        try simp only [rgp, rg0, rg1]
        refine rgT 4 ?_ ?_ hH_1 ?_; rotate_left; · (intro w s; (try dsimp only at s); go_simp; try with_reducible rfl)
        try simp only [rgp, rg0, rg1]
        refine rgU 5 hH_1 ?_; try simp only [rgp, rg0, rg1]
        refine rgU 6 hH_1 ?_; try simp only [rgp, rg0, rg1]
        refine rgU 7 hH_1 ?_; try simp only [rgp, rg0, rg1]
        refine rgU 8 hH_1 ?_; try simp only [rgp, rg0, rg1]
        refine rgT 9 ?_ ?_ hH_1 ?_; rotate_left; · (intro w s; (try dsimp only at s); go_simp; try with_reducible rfl)
        try simp only [rgp, rg0, rg1]
        refine rgT 10 ?_ ?_ hH_1 ?_; rotate_left; · (intro w s; (try dsimp only at s); go_simp; try with_reducible rfl)
        try simp only [rgp, rg0, rg1]
        refine rgU 11 hH_1 ?_; try simp only [rgp, rg0, rg1]
        refine rgU 12 hH_1 ?_; try simp only [rgp, rg0, rg1]
        refine rgU 13 hH_1 ?_; try simp only [rgp, rg0, rg1]
        refine rgU 14 hH_1 ?_; try simp only [rgp, rg0, rg1]
        refine rgT 15 ?_ ?_ hH_1 ?_; rotate_left; · (intro w s; (try dsimp only at s); go_simp; try with_reducible rfl)
        try simp only [rgp, rg0, rg1]
        refine rgT 16 ?_ ?_ hH_1 ?_; rotate_left; · (intro w s; (try dsimp only at s); go_simp; try with_reducible rfl)
        try simp only [rgp, rg0, rg1]
        refine rgU 17 hH_1 ?_; try simp only [rgp, rg0, rg1]
        refine rgU 18 hH_1 ?_; try simp only [rgp, rg0, rg1]
        refine rgU 19 hH_1 ?_; try simp only [rgp, rg0, rg1]
        refine rgU 20 hH_1 ?_; try simp only [rgp, rg0, rg1]
        refine rgT 21 ?_ ?_ hH_1 ?_; rotate_left; · (intro w s; (try dsimp only at s); go_simp; try with_reducible rfl)
        try simp only [rgp, rg0, rg1]
        refine rgT 22 ?_ ?_ hH_1 ?_; rotate_left; · (intro w s; (try dsimp only at s); go_simp; try with_reducible rfl)
        try simp only [rgp, rg0, rg1]
        refine rgU 23 hH_1 ?_; try simp only [rgp, rg0, rg1]
        refine rgU 24 hH_1 ?_; try simp only [rgp, rg0, rg1]
        refine rgU 25 hH_1 ?_; try simp only [rgp, rg0, rg1]
        refine rgU 26 hH_1 ?_; try simp only [rgp, rg0, rg1]
        refine rgU 27 hH_1 ?_; try simp only [rgp, rg0, rg1]
        refine rgU 28 hH_1 ?_; try simp only [rgp, rg0, rg1]
        refine rgU 29 hH_1 ?_; try simp only [rgp, rg0, rg1]
        refine rgU 30 hH_1 ?_; try simp only [rgp, rg0, rg1]
        refine rgU 31 hH_1 ?_; try simp only [rgp, rg0, rg1]
        refine rgU 32 hH_1 ?_; try simp only [rgp, rg0, rg1]
        refine rgT 33 ?_ ?_ hH_1 ?_; rotate_left; · (intro w s; (try dsimp only at s); go_simp; try with_reducible rfl)
        try simp only [rgp, rg0, rg1]
        refine wpAnyH_done (by kernel_rfl) ?_ _
        go_wp2
        go_meet
        exact ⟨by rw [HND.out, d1]; rfl, hH_1.1⟩
      · refine rgS 2 (fun K hK => ?_)
        go_simp
        (go_at_call 75; refine (l4Time_any _ _).mono ?_; rintro e wv2 ⟨rfl, rfl⟩)
        go_wp2_with fail
        refine hK.out _ _ (hH) (fun hH_2 => ?_)
        clear hK K
        try simp only [rgp, rgn, rg0, rg1]
        refine rgT 3 ?_ ?_ hH_2 ?_; rotate_left; · (intro w s; (try dsimp only at s); go_simp; try with_reducible rfl)
        try simp only [rgp, rg0, rg1]
        refine rgT 4 ?_ ?_ hH_2 ?_; rotate_left; · (intro w s; (try dsimp only at s); go_simp; try with_reducible rfl)
        try simp only [rgp, rg0, rg1]
        refine rgT 5 ?_ ?_ hH_2 ?_; rotate_left; · (intro w s; (try dsimp only at s); go_simp; try with_reducible rfl)
        try simp only [rgp, rg0, rg1]
        refine rgT 6 ?_ ?_ hH_2 ?_; rotate_left; · (intro w s; (try dsimp only at s); go_simp; try with_reducible rfl)
        try simp only [rgp, rg0, rg1]
        cases d2 : (timeB (V.tv t).su)
        · refine rgS 7 (fun K hK => ?_)
          go_simp
          (go_at_call 75; refine (l4Time_any _ _).mono ?_; rintro e wv3 ⟨rfl, rfl⟩)
          go_wp2_with fail
          refine hK.out _ _ (hH_2) (fun hH_3 => ?_)
          clear hK K
          try simp only [rgp, rgn, rg0, rg1]
          refine rgT 8 ?_ ?_ hH_3 ?_; rotate_left; · (intro w s; (try dsimp only at s); go_simp; try with_reducible rfl)
          try simp only [rgp, rg0, rg1]
          refine rgT 9 ?_ ?_ hH_3 ?_; rotate_left; · (intro w s; (try dsimp only at s); go_simp; try with_reducible rfl)
          try simp only [rgp, rg0, rg1]
          refine rgT 10 ?_ ?_ hH_3 ?_; rotate_left; · (intro w s; (try dsimp only at s); go_simp; try with_reducible rfl)
          try simp only [rgp, rg0, rg1]
          refine rgU 11 hH_3 ?_; try simp only [rgp, rg0, rg1]
          refine rgU 12 hH_3 ?_; try simp only [rgp, rg0, rg1]
          refine rgU 13 hH_3 ?_; try simp only [rgp, rg0, rg1]
          refine rgU 14 hH_3 ?_; try simp only [rgp, rg0, rg1]
          refine rgT 15 ?_ ?_ hH_3 ?_; rotate_left; · (intro w s; (try dsimp only at s); go_simp; try with_reducible rfl)
          try simp only [rgp, rg0, rg1]
          refine rgT 16 ?_ ?_ hH_3 ?_; rotate_left; · (intro w s; (try dsimp only at s); go_simp; try with_reducible rfl)
          try simp only [rgp, rg0, rg1]
          refine rgU 17 hH_3 ?_; try simp only [rgp, rg0, rg1]
          refine rgU 18 hH_3 ?_; try simp only [rgp, rg0, rg1]
          refine rgU 19 hH_3 ?_; try simp only [rgp, rg0, rg1]
          refine rgU 20 hH_3 ?_; try simp only [rgp, rg0, rg1]
          refine rgT 21 ?_ ?_ hH_3 ?_; rotate_left; · (intro w s; (try dsimp only at s); go_simp; try with_reducible rfl)
          try simp only [rgp, rg0, rg1]
          refine rgT 22 ?_ ?_ hH_3 ?_; rotate_left; · (intro w s; (try dsimp only at s); go_simp; try with_reducible rfl)
          try simp only [rgp, rg0, rg1]
          refine rgU 23 hH_3 ?_; try simp only [rgp, rg0, rg1]
          refine rgU 24 hH_3 ?_; try simp only [rgp, rg0, rg1]
          refine rgU 25 hH_3 ?_; try simp only [rgp, rg0, rg1]
          refine rgU 26 hH_3 ?_; try simp only [rgp, rg0, rg1]
          refine rgU 27 hH_3 ?_; try simp only [rgp, rg0, rg1]
          refine rgU 28 hH_3 ?_; try simp only [rgp, rg0, rg1]
          refine rgU 29 hH_3 ?_; try simp only [rgp, rg0, rg1]
          refine rgU 30 hH_3 ?_; try simp only [rgp, rg0, rg1]
          refine rgU 31 hH_3 ?_; try simp only [rgp, rg0, rg1]
          refine rgU 32 hH_3 ?_; try simp only [rgp, rg0, rg1]
          refine rgT 33 ?_ ?_ hH_3 ?_; rotate_left; · (intro w s; (try dsimp only at s); go_simp; try with_reducible rfl)
          try simp only [rgp, rg0, rg1]
          refine wpAnyH_done (by kernel_rfl) ?_ _
          go_wp2
          go_meet
          exact ⟨by rw [HND.out, d1, d2]; rfl, hH_3.1⟩
        · refine rgS 7 (fun K hK => ?_)
          go_simp
          (go_at_call 75; refine (l4Time_any _ _).mono ?_; rintro e wv4 ⟨rfl, rfl⟩)
          go_wp2_with fail
          refine hK.out _ _ (hH_2) (fun hH_4 => ?_)
          clear hK K
          try simp only [rgp, rgn, rg0, rg1]
          refine rgT 8 ?_ ?_ hH_4 ?_; rotate_left; · (intro w s; (try dsimp only at s); go_simp; try with_reducible rfl)
          try simp only [rgp, rg0, rg1]
          refine rgT 9 ?_ ?_ hH_4 ?_; rotate_left; · (intro w s; (try dsimp only at s); go_simp; try with_reducible rfl)
          try simp only [rgp, rg0, rg1]
          refine rgT 10 ?_ ?_ hH_4 ?_; rotate_left; · (intro w s; (try dsimp only at s); go_simp; try with_reducible rfl)
          try simp only [rgp, rg0, rg1]
          refine rgT 11 ?_ ?_ hH_4 ?_; rotate_left; · (intro w s; (try dsimp only at s); go_simp; try with_reducible rfl)
          try simp only [rgp, rg0, rg1]
          refine rgT 12 ?_ ?_ hH_4 ?_; rotate_left; · (intro w s; (try dsimp only at s); go_simp; try with_reducible rfl)
          try simp only [rgp, rg0, rg1]
          cases d3 : (timeB (V.tv t).us)
          · refine rgS 13 (fun K hK => ?_)
            go_simp
            (go_at_call 75; refine (l4Time_any _ _).mono ?_; rintro e wv5 ⟨rfl, rfl⟩)
            go_wp2_with fail
            refine hK.out _ _ (hH_4) (fun hH_5 => ?_)
            clear hK K
            try simp only [rgp, rgn, rg0, rg1]
            refine rgT 14 ?_ ?_ hH_5 ?_; rotate_left; · (intro w s; (try dsimp only at s); go_simp; try with_reducible rfl)
            try simp only [rgp, rg0, rg1]
            refine rgT 15 ?_ ?_ hH_5 ?_; rotate_left; · (intro w s; (try dsimp only at s); go_simp; try with_reducible rfl)
            try simp only [rgp, rg0, rg1]
            refine rgT 16 ?_ ?_ hH_5 ?_; rotate_left; · (intro w s; (try dsimp only at s); go_simp; try with_reducible rfl)
            try simp only [rgp, rg0, rg1]
            refine rgU 17 hH_5 ?_; try simp only [rgp, rg0, rg1]
            refine rgU 18 hH_5 ?_; try simp only [rgp, rg0, rg1]
            refine rgU 19 hH_5 ?_; try simp only [rgp, rg0, rg1]
            refine rgU 20 hH_5 ?_; try simp only [rgp, rg0, rg1]
            refine rgT 21 ?_ ?_ hH_5 ?_; rotate_left; · (intro w s; (try dsimp only at s); go_simp; try with_reducible rfl)
            try simp only [rgp, rg0, rg1]
            refine rgT 22 ?_ ?_ hH_5 ?_; rotate_left; · (intro w s; (try dsimp only at s); go_simp; try with_reducible rfl)
            try simp only [rgp, rg0, rg1]
            refine rgU 23 hH_5 ?_; try simp only [rgp, rg0, rg1]
            refine rgU 24 hH_5 ?_; try simp only [rgp, rg0, rg1]
            refine rgU 25 hH_5 ?_; try simp only [rgp, rg0, rg1]
            refine rgU 26 hH_5 ?_; try simp only [rgp, rg0, rg1]
            refine rgU 27 hH_5 ?_; try simp only [rgp, rg0, rg1]
            refine rgU 28 hH_5 ?_; try simp only [rgp, rg0, rg1]
            refine rgU 29 hH_5 ?_; try simp only [rgp, rg0, rg1]
            refine rgU 30 hH_5 ?_; try simp only [rgp, rg0, rg1]
            refine rgU 31 hH_5 ?_; try simp only [rgp, rg0, rg1]
            refine rgU 32 hH_5 ?_; try simp only [rgp, rg0, rg1]
            refine rgT 33 ?_ ?_ hH_5 ?_; rotate_left; · (intro w s; (try dsimp only at s); go_simp; try with_reducible rfl)
            try simp only [rgp, rg0, rg1]
            refine wpAnyH_done (by kernel_rfl) ?_ _
            go_wp2
            go_meet
            exact ⟨by rw [HND.out, d1, d2, d3]; rfl, hH_5.1⟩
          · refine rgS 13 (fun K hK => ?_)
            go_simp
            (go_at_call 75; refine (l4Time_any _ _).mono ?_; rintro e wv6 ⟨rfl, rfl⟩)
            go_wp2_with fail
            refine hK.out _ _ (hH_4) (fun hH_6 => ?_)
            clear hK K
            try simp only [rgp, rgn, rg0, rg1]
            refine rgT 14 ?_ ?_ hH_6 ?_; rotate_left; · (intro w s; (try dsimp only at s); go_simp; try with_reducible rfl)
            try simp only [rgp, rg0, rg1]
            refine rgT 15 ?_ ?_ hH_6 ?_; rotate_left; · (intro w s; (try dsimp only at s); go_simp; try with_reducible rfl)
            try simp only [rgp, rg0, rg1]
            refine rgT 16 ?_ ?_ hH_6 ?_; rotate_left; · (intro w s; (try dsimp only at s); go_simp; try with_reducible rfl)
            try simp only [rgp, rg0, rg1]
            refine rgT 17 ?_ ?_ hH_6 ?_; rotate_left; · (intro w s; (try dsimp only at s); go_simp; try with_reducible rfl)
            try simp only [rgp, rg0, rg1]
            refine rgT 18 ?_ ?_ hH_6 ?_; rotate_left; · (intro w s; (try dsimp only at s); go_simp; try with_reducible rfl)
            try simp only [rgp, rg0, rg1]
            cases d4 : (inR (V.tv t).lo 0 8000000)
            · refine rgS 19 (fun K hK => ?_)
              go_simp
              (go_at_call 39; refine (l1In_any _ _ _ _).mono ?_; rintro e wv7 ⟨rfl, rfl⟩)
              go_wp2_with fail
              refine hK.out _ _ (hH_6) (fun hH_7 => ?_)
              clear hK K
              try simp only [rgp, rgn, rg0, rg1]
              refine rgT 20 ?_ ?_ hH_7 ?_; rotate_left; · (intro w s; (try dsimp only at s); go_simp; try with_reducible rfl)
              try simp only [rgp, rg0, rg1]
              refine rgT 21 ?_ ?_ hH_7 ?_; rotate_left; · (intro w s; (try dsimp only at s); go_simp; try with_reducible rfl)
              try simp only [rgp, rg0, rg1]
              refine rgT 22 ?_ ?_ hH_7 ?_; rotate_left; · (intro w s; (try dsimp only at s); go_simp; try with_reducible rfl)
              try simp only [rgp, rg0, rg1]
              refine rgU 23 hH_7 ?_; try simp only [rgp, rg0, rg1]
              refine rgU 24 hH_7 ?_; try simp only [rgp, rg0, rg1]
              refine rgU 25 hH_7 ?_; try simp only [rgp, rg0, rg1]
              refine rgU 26 hH_7 ?_; try simp only [rgp, rg0, rg1]
              refine rgU 27 hH_7 ?_; try simp only [rgp, rg0, rg1]
              refine rgU 28 hH_7 ?_; try simp only [rgp, rg0, rg1]
              refine rgU 29 hH_7 ?_; try simp only [rgp, rg0, rg1]
              refine rgU 30 hH_7 ?_; try simp only [rgp, rg0, rg1]
              refine rgU 31 hH_7 ?_; try simp only [rgp, rg0, rg1]
              refine rgU 32 hH_7 ?_; try simp only [rgp, rg0, rg1]
              refine rgT 33 ?_ ?_ hH_7 ?_; rotate_left; · (intro w s; (try dsimp only at s); go_simp; try with_reducible rfl)
              try simp only [rgp, rg0, rg1]
              refine wpAnyH_done (by kernel_rfl) ?_ _
              go_wp2
              go_meet
              exact ⟨by rw [HND.out, d1, d2, d3, d4]; rfl, hH_7.1⟩
            · refine rgS 19 (fun K hK => ?_)
              go_simp
              (go_at_call 39; refine (l1In_any _ _ _ _).mono ?_; rintro e wv8 ⟨rfl, rfl⟩)
              go_wp2_with fail
              refine hK.out _ _ (hH_6) (fun hH_8 => ?_)
              clear hK K
              try simp only [rgp, rgn, rg0, rg1]
              refine rgT 20 ?_ ?_ hH_8 ?_; rotate_left; · (intro w s; (try dsimp only at s); go_simp; try with_reducible rfl)
              try simp only [rgp, rg0, rg1]
              refine rgT 21 ?_ ?_ hH_8 ?_; rotate_left; · (intro w s; (try dsimp only at s); go_simp; try with_reducible rfl)
              try simp only [rgp, rg0, rg1]
              refine rgT 22 ?_ ?_ hH_8 ?_; rotate_left; · (intro w s; (try dsimp only at s); go_simp; try with_reducible rfl)
              try simp only [rgp, rg0, rg1]
              refine rgT 23 ?_ ?_ hH_8 ?_; rotate_left; · (intro w s; (try dsimp only at s); go_simp; try with_reducible rfl)
              try simp only [rgp, rg0, rg1]
              refine rgT 24 ?_ ?_ hH_8 ?_; rotate_left; · (intro w s; (try dsimp only at s); go_simp; try with_reducible rfl)
              try simp only [rgp, rg0, rg1]
              refine rgT 25 ?_ ?_ hH_8 ?_; rotate_left; · (intro w s; (try dsimp only at s); go_simp; try with_reducible rfl)
              try simp only [rgp, rg0, rg1]
              refine rgT 26 ?_ ?_ hH_8 ?_; rotate_left; · (intro w s; (try dsimp only at s); go_simp; try with_reducible rfl)
              try simp only [rgp, rg0, rg1]
              refine rgT 27 ?_ ?_ hH_8 ?_; rotate_left; · (intro w s; (try dsimp only at s); go_simp; try with_reducible rfl)
              try simp only [rgp, rg0, rg1]
              refine rgT 29 ?_ ?_ hH_8 ?_; rotate_left; · (intro w s; (try dsimp only at s); go_simp; try with_reducible rfl)
              try simp only [rgp, rg0, rg1]
              refine rgT 30 ?_ ?_ hH_8 ?_; rotate_left; · (intro w s; (try dsimp only at s); go_simp; try with_reducible rfl)
              try simp only [rgp, rg0, rg1]
              refine rgS 28 (fun K hK => ?_)
              go_simp
              (go_at_call 35; refine (HWH.out _ (hbx.trans (hH_8.1.mono hbx.size))).mono ?_; rintro e wv9 ⟨rfl, hbb9⟩)
              go_wp2_with fail
              refine hK.out _ _ (HKT.out _ _ hH_8 hbb9) (fun hH_9 => ?_)
              clear hK K
              try simp only [rgp, rgn, rg0, rg1]
              cases d5 : (maskHas (whereM V G (V.tv t).ma) (V.tv t).cp)
              · refine rgS 31 (fun K hK => ?_)
                go_simp
                (go_at_call 78; refine (sMaskHas_any _ _ _).mono ?_; rintro e wv10 ⟨rfl, rfl⟩)
                go_wp2_with fail
                refine hK.out _ _ (hH_9) (fun hH_10 => ?_)
                clear hK K
                try simp only [rgp, rgn, rg0, rg1]
                refine rgT 32 ?_ ?_ hH_10 ?_; rotate_left; · (intro w s; (try dsimp only at s); go_simp; try with_reducible rfl)
                try simp only [rgp, rg0, rg1]
                refine rgT 33 ?_ ?_ hH_10 ?_; rotate_left; · (intro w s; (try dsimp only at s); go_simp; try with_reducible rfl)
                try simp only [rgp, rg0, rg1]
                refine wpAnyH_done (by kernel_rfl) ?_ _
                go_wp2
                go_meet
                exact ⟨by rw [HND.out, d1, d2, d3, d4, d5]; rfl, hH_10.1⟩
              · refine rgS 31 (fun K hK => ?_)
                go_simp
                (go_at_call 78; refine (sMaskHas_any _ _ _).mono ?_; rintro e wv11 ⟨rfl, rfl⟩)
                go_wp2_with fail
                refine hK.out _ _ (hH_9) (fun hH_11 => ?_)
                clear hK K
                try simp only [rgp, rgn, rg0, rg1]
                refine rgT 32 ?_ ?_ hH_11 ?_; rotate_left; · (intro w s; (try dsimp only at s); go_simp; try with_reducible rfl)
                try simp only [rgp, rg0, rg1]
                refine rgT 33 ?_ ?_ hH_11 ?_; rotate_left; · (intro w s; (try dsimp only at s); go_simp; try with_reducible rfl)
                try simp only [rgp, rg0, rg1]
                refine wpAnyH_done (by kernel_rfl) ?_ _
                go_wp2
                go_meet
                exact ⟨by rw [HND.out, d1, d2, d3, d4, d5]; rfl, hH_11.1⟩
    case rest =>
      obtain ⟨rfl, HXX⟩ := hcut
      rename World => wd
      have HBD : Hid (Below w.heap.size w wd) := HB2.out.trans (HXX.out.mono HB2.out.size)
      cases hN : numT V t
      · rw [hN] at HES2
        go_wp2
        go_ret
        exact ⟨ret_boolB (by rw [HES2.out]; rfl), HBD.out⟩
      rw [hN] at HES2
      have hN3 := numT_t hN
      clear hN HND HWH
      obtain ⟨q1, q2⟩ := where_lt hN3.2
      obtain ⟨C, hC⟩ := Int.eq_ofNat_of_zero_le q1
      rw [hC, Int.toNat_natCast] at q2
      have hsn := sn_of HGG.out (k := G) (by omega)
      rw [if_pos u3] at hsn
      have hcs : C < (V.gv G).sn := by omega
      have hci : (C : Int) < ((V.gv G).sn : Nat) := by omega
      obtain ⟨x13, s2, s3⟩ := HMW.out.s G (by omega) (by omega)
      have f13 := HMW.out.g G (by omega) 13 _ rfl
      rw [x13] at f13
      have f0 := s3 C hcs 0 _ rfl
      rw [Nat.add_zero] at f0
      have HFL : Hid (flT V t = (V.gv G).s0 C) := by show (V.gv (V.tv t).gr.toNat).s0 (V.tv t).cp.toNat = _; rw [HGE.out, hC]; rfl
      have HRE : Hid (R = (((V.tv t).st == 2) || standS (V.tv t).vv ((V.gv G).s0 C) (weightOf (V.tv t).ni))) := by rw [HES2.out, HFL.out]; rfl
      have hk0 := HK0.out.below HXX.out HK0.out.lt
      have hk1 := HK1.out.below HXX.out HK1.out.lt
      have k1 : wd.cell? ⟨w.heap.size + 1, 1, none⟩ = some (.int .i64 (G : Nat)) := (hk1.cell 1).trans (by rw [HGE.out]; rfl)
      have k2 : wd.cell? ⟨w.heap.size + 1, 2, none⟩ = some (.int .i64 (C : Nat)) := (hk1.cell 2).trans (by rw [hC]; rfl)
      have hbx := HBD.out
      have hgl := HMW.out.gl
      clear HES2 HFL hC hsn hcs q1 q2 s3 x13 hN3 HXX HK0 HK1 HGE t0 t1 t2 t3 t4 t5 t6 t7 t8 j0 j1 j2 j3
      go_upto_region 8 with (fail)
      have hzx := hbx.size
      have KS : ∀ w', Below wd.heap.size wd w' → (fun w' => Below wd.heap.size wd w' ∧ w'.cell? ⟨w.heap.size, 3, none⟩ = some (.slice (some ⟨a.ga, a.og, none⟩) V.gn a.gc) ∧ w'.cell? ⟨w.heap.size + 1, 0, none⟩ = some (.int .i64 (V.tv t).st) ∧ w'.cell? ⟨w.heap.size + 1, 1, none⟩ = some (.int .i64 (G : Nat)) ∧ w'.cell? ⟨w.heap.size + 1, 2, none⟩ = some (.int .i64 (C : Nat)) ∧ w'.cell? ⟨w.heap.size + 1, 3, none⟩ = some (.int .i64 (V.tv t).ni) ∧ w'.cell? ⟨w.heap.size + 1, 5, none⟩ = some (.int .i64 (V.tv t).vv) ∧ w'.cell? ⟨a.ga, a.og + G * 14 + 13, none⟩ = some (.slice (some ⟨a.sb G, a.so G, none⟩) (V.gv G).sn (a.gh G).sc) ∧ w'.cell? ⟨a.sb G, a.so G + C * 5, none⟩ = some (.int .i64 ((V.gv G).s0 C))) w' := fun w' h => ⟨h, (h.cell (p := ⟨w.heap.size, 3, none⟩) hk0.lt).trans (hk0.cell 3), (h.cell (p := ⟨w.heap.size + 1, 0, none⟩) hk1.lt).trans (hk1.cell 0), (h.cell (p := ⟨w.heap.size + 1, 1, none⟩) hk1.lt).trans k1, (h.cell (p := ⟨w.heap.size + 1, 2, none⟩) hk1.lt).trans k2, (h.cell (p := ⟨w.heap.size + 1, 3, none⟩) hk1.lt).trans (hk1.cell 3), (h.cell (p := ⟨w.heap.size + 1, 5, none⟩) hk1.lt).trans (hk1.cell 5), (h.cell (p := ⟨a.ga, a.og + G * 14 + 13, none⟩) (Nat.lt_of_lt_of_le hgl hzx)).trans ((hbx.cell (p := ⟨a.ga, a.og + G * 14 + 13, none⟩) hgl).trans f13), (h.cell (p := ⟨a.sb G, a.so G + C * 5, none⟩) (Nat.lt_of_lt_of_le s2 hzx)).trans ((hbx.cell (p := ⟨a.sb G, a.so G + C * 5, none⟩) s2).trans f0)⟩
      have KT : ∀ wa wb, (fun w' => Below wd.heap.size wd w' ∧ w'.cell? ⟨w.heap.size, 3, none⟩ = some (.slice (some ⟨a.ga, a.og, none⟩) V.gn a.gc) ∧ w'.cell? ⟨w.heap.size + 1, 0, none⟩ = some (.int .i64 (V.tv t).st) ∧ w'.cell? ⟨w.heap.size + 1, 1, none⟩ = some (.int .i64 (G : Nat)) ∧ w'.cell? ⟨w.heap.size + 1, 2, none⟩ = some (.int .i64 (C : Nat)) ∧ w'.cell? ⟨w.heap.size + 1, 3, none⟩ = some (.int .i64 (V.tv t).ni) ∧ w'.cell? ⟨w.heap.size + 1, 5, none⟩ = some (.int .i64 (V.tv t).vv) ∧ w'.cell? ⟨a.ga, a.og + G * 14 + 13, none⟩ = some (.slice (some ⟨a.sb G, a.so G, none⟩) (V.gv G).sn (a.gh G).sc) ∧ w'.cell? ⟨a.sb G, a.so G + C * 5, none⟩ = some (.int .i64 ((V.gv G).s0 C))) wa → Below wa.heap.size wa wb → (fun w' => Below wd.heap.size wd w' ∧ w'.cell? ⟨w.heap.size, 3, none⟩ = some (.slice (some ⟨a.ga, a.og, none⟩) V.gn a.gc) ∧ w'.cell? ⟨w.heap.size + 1, 0, none⟩ = some (.int .i64 (V.tv t).st) ∧ w'.cell? ⟨w.heap.size + 1, 1, none⟩ = some (.int .i64 (G : Nat)) ∧ w'.cell? ⟨w.heap.size + 1, 2, none⟩ = some (.int .i64 (C : Nat)) ∧ w'.cell? ⟨w.heap.size + 1, 3, none⟩ = some (.int .i64 (V.tv t).ni) ∧ w'.cell? ⟨w.heap.size + 1, 5, none⟩ = some (.int .i64 (V.tv t).vv) ∧ w'.cell? ⟨a.ga, a.og + G * 14 + 13, none⟩ = some (.slice (some ⟨a.sb G, a.so G, none⟩) (V.gv G).sn (a.gh G).sc) ∧ w'.cell? ⟨a.sb G, a.so G + C * 5, none⟩ = some (.int .i64 ((V.gv G).s0 C))) wb := fun wa wb h hab => KS wb (h.1.trans (hab.mono h.1.size))
      have HKS := Lib.hid KS
      have HKT := Lib.hid KT
      clear KS KT
      clear hk0 hk1 k1 k2 f13 f0
      refine wp_region_held_drew (S := (fun w' => Below wd.heap.size wd w' ∧ w'.cell? ⟨w.heap.size, 3, none⟩ = some (.slice (some ⟨a.ga, a.og, none⟩) V.gn a.gc) ∧ w'.cell? ⟨w.heap.size + 1, 0, none⟩ = some (.int .i64 (V.tv t).st) ∧ w'.cell? ⟨w.heap.size + 1, 1, none⟩ = some (.int .i64 (G : Nat)) ∧ w'.cell? ⟨w.heap.size + 1, 2, none⟩ = some (.int .i64 (C : Nat)) ∧ w'.cell? ⟨w.heap.size + 1, 3, none⟩ = some (.int .i64 (V.tv t).ni) ∧ w'.cell? ⟨w.heap.size + 1, 5, none⟩ = some (.int .i64 (V.tv t).vv) ∧ w'.cell? ⟨a.ga, a.og + G * 14 + 13, none⟩ = some (.slice (some ⟨a.sb G, a.so G, none⟩) (V.gv G).sn (a.gh G).sc) ∧ w'.cell? ⟨a.sb G, a.so G + C * 5, none⟩ = some (.int .i64 ((V.gv G).s0 C)))) (by kernel_rfl) (HKS.out _ (Below.refl _ _).drew) (fun hH => ?_)
      refine rgT 0 ?_ ?_ hH ?_; rotate_left; · (intro w s; (try dsimp only at s); go_simp; try with_reducible rfl)
      try simp only [rgp, rg0, rg1]
      refine rgT 1 ?_ ?_ hH ?_; rotate_left; · (intro w s; (try dsimp only at s); go_simp; try with_reducible rfl)
      try simp only [rgp, rg0, rg1]
      cases e1 : ((V.tv t).st == 2)
      · refine rgT 2 ?_ ?_ hH ?_; rotate_left; · (intro w s; (try dsimp only at s); go_simp; try with_reducible rfl)
        try simp only [rgp, rg0, rg1]
        refine rgT 3 ?_ ?_ hH ?_; rotate_left; · (intro w s; (try dsimp only at s); go_simp; try with_reducible rfl)
        try simp only [rgp, rg0, rg1]
        refine rgT 4 ?_ ?_ hH ?_; rotate_left; · (intro w s; (try dsimp only at s); go_simp; try with_reducible rfl)
        try simp only [rgp, rg0, rg1]
        refine rgT 5 ?_ ?_ hH ?_; rotate_left; · (intro w s; (try dsimp only at s); go_simp; try with_reducible rfl)
        try simp only [rgp, rg0, rg1]
        refine rgT 6 ?_ ?_ hH ?_; rotate_left; · (intro w s; (try dsimp only at s); go_simp; try with_reducible rfl)
        try simp only [rgp, rg0, rg1]
        refine rgT 7 ?_ ?_ hH ?_; rotate_left; · (intro w s; (try dsimp only at s); go_simp; try with_reducible rfl)
        try simp only [rgp, rg0, rg1]
        refine rgT 8 ?_ ?_ hH ?_; rotate_left; · (intro w s; (try dsimp only at s); go_simp; try with_reducible rfl)
        try simp only [rgp, rg0, rg1]
        refine rgT 9 ?_ ?_ hH ?_; rotate_left; · (intro w s; (try dsimp only at s); go_simp; try with_reducible rfl)
        try simp only [rgp, rg0, rg1]
        refine rgT 10 ?_ ?_ hH ?_; rotate_left; · (intro w s; (try dsimp only at s); go_simp; try with_reducible rfl)
        try simp only [rgp, rg0, rg1]
        refine rgT 11 ?_ ?_ hH ?_; rotate_left; · (intro w s; (try dsimp only at s); go_simp; try with_reducible rfl)
        try simp only [rgp, rg0, rg1]
        refine rgT 12 ?_ ?_ hH ?_; rotate_left; · (intro w s; (try dsimp only at s); go_simp; try with_reducible rfl)
        try simp only [rgp, rg0, rg1]
        refine rgT 13 ?_ ?_ hH ?_; rotate_left; · (intro w s; (try dsimp only at s); go_simp; try with_reducible rfl)
        try simp only [rgp, rg0, rg1]
        refine rgT 14 ?_ ?_ hH ?_; rotate_left; · (intro w s; (try dsimp only at s); go_simp; try with_reducible rfl)
        try simp only [rgp, rg0, rg1]
        refine rgT 15 ?_ ?_ hH ?_; rotate_left; · (intro w s; (try dsimp only at s); go_simp; try with_reducible rfl)
        try simp only [rgp, rg0, rg1]
        refine rgT 16 ?_ ?_ hH ?_; rotate_left; · (intro w s; (try dsimp only at s); go_simp; try with_reducible rfl)
        try simp only [rgp, rg0, rg1]
        refine rgT 17 ?_ ?_ hH ?_; rotate_left; · (intro w s; (try dsimp only at s); go_simp; try with_reducible rfl)
        try simp only [rgp, rg0, rg1]
        refine rgT 18 ?_ ?_ hH ?_; rotate_left; · (intro w s; (try dsimp only at s); go_simp; try with_reducible rfl)
        try simp only [rgp, rg0, rg1]
        refine rgT 19 ?_ ?_ hH ?_; rotate_left; · (intro w s; (try dsimp only at s); go_simp; try with_reducible rfl)
        try simp only [rgp, rg0, rg1]
        refine rgS 20 (fun K hK => ?_)
        go_simp
        (go_at_call 77; refine (sWeightOf_any _ _).mono ?_; rintro e wv1 ⟨rfl, rfl⟩)
        go_wp2_with fail
        refine hK.out _ _ (hH) (fun hH_1 => ?_)
        clear hK K
        try simp only [rgp, rgn, rg0, rg1]
        cases e2 : (standS (V.tv t).vv ((V.gv G).s0 C) (weightOf (V.tv t).ni))
        · refine rgS 21 (fun K hK => ?_)
          go_simp
          (go_at_call 79; refine (sStand_any _ _ _ _).mono ?_; rintro e wv2 ⟨rfl, rfl⟩)
          go_wp2_with fail
          refine hK.out _ _ (hH_1) (fun hH_2 => ?_)
          clear hK K
          try simp only [rgp, rgn, rg0, rg1]
          refine rgT 22 ?_ ?_ hH_2 ?_; rotate_left; · (intro w s; (try dsimp only at s); go_simp; try with_reducible rfl)
          try simp only [rgp, rg0, rg1]
          refine rgT 23 ?_ ?_ hH_2 ?_; rotate_left; · (intro w s; (try dsimp only at s); go_simp; try with_reducible rfl)
          try simp only [rgp, rg0, rg1]
          refine wpAnyH_done (by kernel_rfl) ?_ _
          go_wp2
          go_ret
          exact ⟨ret_boolB (by rw [HRE.out, e1, e2]; rfl), hbx.trans (hH_2.1.mono hbx.size)⟩
        · refine rgS 21 (fun K hK => ?_)
          go_simp
          (go_at_call 79; refine (sStand_any _ _ _ _).mono ?_; rintro e wv3 ⟨rfl, rfl⟩)
          go_wp2_with fail
          refine hK.out _ _ (hH_1) (fun hH_3 => ?_)
          clear hK K
          try simp only [rgp, rgn, rg0, rg1]
          refine rgT 22 ?_ ?_ hH_3 ?_; rotate_left; · (intro w s; (try dsimp only at s); go_simp; try with_reducible rfl)
          try simp only [rgp, rg0, rg1]
          refine rgT 23 ?_ ?_ hH_3 ?_; rotate_left; · (intro w s; (try dsimp only at s); go_simp; try with_reducible rfl)
          try simp only [rgp, rg0, rg1]
          refine wpAnyH_done (by kernel_rfl) ?_ _
          go_wp2
          go_ret
          exact ⟨ret_boolB (by rw [HRE.out, e1, e2]; rfl), hbx.trans (hH_3.1.mono hbx.size)⟩
      · refine rgT 2 ?_ ?_ hH ?_; rotate_left; · (intro w s; (try dsimp only at s); go_simp; try with_reducible rfl)
        try simp only [rgp, rg0, rg1]
        refine rgT 3 ?_ ?_ hH ?_; rotate_left; · (intro w s; (try dsimp only at s); go_simp; try with_reducible rfl)
        try simp only [rgp, rg0, rg1]
        refine rgU 4 hH ?_; try simp only [rgp, rg0, rg1]
        refine rgU 5 hH ?_; try simp only [rgp, rg0, rg1]
        refine rgU 6 hH ?_; try simp only [rgp, rg0, rg1]
        refine rgU 7 hH ?_; try simp only [rgp, rg0, rg1]
        refine rgU 8 hH ?_; try simp only [rgp, rg0, rg1]
        refine rgU 9 hH ?_; try simp only [rgp, rg0, rg1]
        refine rgU 10 hH ?_; try simp only [rgp, rg0, rg1]
        refine rgU 11 hH ?_; try simp only [rgp, rg0, rg1]
        refine rgU 12 hH ?_; try simp only [rgp, rg0, rg1]
        refine rgU 13 hH ?_; try simp only [rgp, rg0, rg1]
        refine rgU 14 hH ?_; try simp only [rgp, rg0, rg1]
        refine rgU 15 hH ?_; try simp only [rgp, rg0, rg1]
        refine rgU 16 hH ?_; try simp only [rgp, rg0, rg1]
        refine rgU 17 hH ?_; try simp only [rgp, rg0, rg1]
        refine rgU 18 hH ?_; try simp only [rgp, rg0, rg1]
        refine rgU 19 hH ?_; try simp only [rgp, rg0, rg1]
        refine rgU 20 hH ?_; try simp only [rgp, rg0, rg1]
        refine rgU 21 hH ?_; try simp only [rgp, rg0, rg1]
        refine rgT 22 ?_ ?_ hH ?_; rotate_left; · (intro w s; (try dsimp only at s); go_simp; try with_reducible rfl)
        try simp only [rgp, rg0, rg1]
        refine rgT 23 ?_ ?_ hH ?_; rotate_left; · (intro w s; (try dsimp only at s); go_simp; try with_reducible rfl)
        try simp only [rgp, rg0, rg1]
        refine wpAnyH_done (by kernel_rfl) ?_ _
        go_wp2
        go_ret
        exact ⟨ret_boolB (by rw [HRE.out, e1]; rfl), hbx.trans (hH.1.mono hbx.size)⟩
end Go.Proofs.YtndbmeedimhohaaGreat

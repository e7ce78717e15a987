/- Worlds: the processors of a world (printed by mkv.py). -/
import Derived.Test.YtndbmeedimhohaaGreatFV9Base
namespace Go.Proofs.YtndbmeedimhohaaGreat
open Go.RowKit
set_option maxHeartbeats 4000000 in
set_option maxRecDepth 100000 in
theorem task_used {V : WV} (h : allTo (taskI V) V.tn = true) {t : Nat} (ht : t < V.tn) (hs : (V.tv t).st = 1) : usedB (fun i => (V.gv i).us) V.gn (V.tv t).gr = true ∧ timeB (V.tv t).vv = true := by
  have h1 := allTo_at _ t _ ht h
  unfold taskI at h1
  have hz : zeroT (V.tv t) = false := by simp [zeroT, hs]
  rw [hz, Bool.false_or, Bool.and_eq_true, Bool.and_eq_true] at h1
  obtain ⟨⟨h2, h3⟩, _⟩ := h1
  simp only [headT, Bool.and_eq_true] at h2
  exact ⟨h2.1.1.1.2, (numT_t h3).1⟩
set_option maxHeartbeats 4000000 in
set_option maxRecDepth 100000 in
theorem decGt (a b : Int) : decide (b < a) = !decide (a ≤ b) := by
  by_cases h : a ≤ b
  · simp [h, Int.not_lt.2 h]
  · simp [h, Int.not_le.1 h]
set_option maxHeartbeats 4000000 in
set_option maxRecDepth 100000 in
theorem there_t {V : WV} {x : Int} (h : thereB V x = true) : ∃ t : Nat, x = t ∧ t < V.tn := by
  simp only [thereB, Bool.and_eq_true] at h
  obtain ⟨h1, h2⟩ := inR_iff.1 h.1
  obtain ⟨t, rfl⟩ := Int.eq_ofNat_of_zero_le h1
  exact ⟨t, rfl, by omega⟩
set_option maxHeartbeats 4000000 in
set_option maxRecDepth 100000 in
theorem cpusOk_any (V : WV) (T : Tree V) (a : WA) (hw : Nat) (hcn : V.cn ≤ 4) (htn : V.tn ≤ 1048576) (hG : allTo (groupI V) V.gn = true) (hTK : allTo (taskI V) V.tn = true) (hNU : allTo (fun g => allTo (numH V g) (V.gv g).sn) V.gn = true) (w : World) (hk : Bk w hw 33 #[.int .i64 V.now, .slice (some ⟨a.ca, a.oc, none⟩) V.cn a.cc, .slice (some ⟨a.ta, a.ot, none⟩) V.tn a.tc, .slice (some ⟨a.ga, a.og, none⟩) V.gn a.gc]) (m : MR w V a) :
    Calls Tryz.prog 50 #[.pointer (some ⟨hw, 0, none⟩)] w fun e w' => e = .returned (.bool (allTo (cpuI V) V.cn)) ∧ Below w.heap.size w w' := by
  obtain ⟨k0, k1, k2, k3⟩ := hk.four
  have hkl := hk.lt
  have hcl := m.cl
  have hgl := m.gl
  have htl := m.tl
  have HN8 := Lib.hid T.n8
  have h8 : V.gn ≤ 1048576 := by have := HN8.out; omega
  have HK := Lib.hid hk
  have HM := Lib.hid m
  have HT := Lib.hid T
  have HGG := Lib.hid hG
  have HTK := Lib.hid hTK
  have HNU := Lib.hid hNU
  clear hk m T hG hTK hNU
  go_enter Tryz.func50, Tryz.ntmps50
  go_wp2
  go_loopw [14] (fun i wr => ∃ c : Nat, c ≤ V.cn ∧ i = .int .i64 c ∧ Hid (allTo (cpuI V) c = true) ∧ Hid (Below w.heap.size w wr)) (fun i _ => V.cn - (intOf i).toNat)
  case atStart => exact ⟨0, Nat.zero_le _, rfl, rfl, Below.refl _ _⟩
  case round =>
    obtain ⟨c, hc, rfl, HA, HB⟩ := hrel
    have hz := HB.out.size
    by_cases hlt : c < V.cn
    · have hr : Hid (wr.rangeAt a.ca (a.oc + c * 5) [.bool (V.cv c).up, .int .i64 (V.cv c).cu, .int .i64 (V.cv c).ra, .int .i64 (V.cv c).bu, .int .i64 (V.cv c).id]) := rangeAt_below (HM.out.c c hlt) HB.out hcl
      have HF : Hid (cpuI V c = false → allTo (cpuI V) V.cn = false) := fun h => allTo_false _ c _ hlt h
      have HX : Hid (cpuI V c = true → allTo (cpuI V) (c + 1) = true) := fun h => allTo_next _ c HA.out h
      have HE : Hid (cpuI V c = (time2 (V.cv c).bu (V.cv c).id && (((V.cv c).cu == -1 && (V.cv c).ra == 0) || (((V.cv c).up && thereB V (V.cv c).cu && inlI V (V.cv c).cu.toNat c && inR (V.cv c).ra 1 149) && stayB V c)))) := rfl
      clear HA
      cases n1 : time2 (V.cv c).bu (V.cv c).id
      · rw [n1] at HE
        go_wp2_with (first | (refine wpList_load_mid rfl 61 _ rfl a.ca (a.oc + c * 5) rfl _ _ (rangeAt_below hr.out (B := w.heap.size) (by go_grown) hcl) Tryz.underlying61 rfl (by kernel_rfl) ?_) | (go_at_call 82; refine (timeOk_two _ _ _ _ _ _ (by simp)).mono ?_; rintro e w9 ⟨rfl, rfl⟩))
        go_ret
        exact ⟨ret_boolB (HF.out (by rw [HE.out]; rfl)).symm, (HB.out.alloc hz _).alloc (by simp; omega) _⟩
      rw [n1] at HE
      go_upto_region 6 with (first | (refine wpList_load_mid rfl 61 _ rfl a.ca (a.oc + c * 5) rfl _ _ (rangeAt_below hr.out (B := w.heap.size) (by go_grown) hcl) Tryz.underlying61 rfl (by kernel_rfl) ?_) | (go_at_call 82; refine (timeOk_two _ _ _ _ _ _ (by simp)).mono ?_; rintro e w9 ⟨rfl, rfl⟩))
      have hbx : Bk ((wr.alloc (.cells #[.bool (V.cv c).up, .int .i64 (V.cv c).cu, .int .i64 (V.cv c).ra, .int .i64 (V.cv c).bu, .int .i64 (V.cv c).id] 61)).alloc (.cells #[.int .i64 (V.cv c).bu, .int .i64 (V.cv c).id] 3)) wr.heap.size 61 #[.bool (V.cv c).up, .int .i64 (V.cv c).cu, .int .i64 (V.cv c).ra, .int .i64 (V.cv c).bu, .int .i64 (V.cv c).id] := (Bk.new wr _ _).alloc _
      have hbb : Below w.heap.size w ((wr.alloc (.cells #[.bool (V.cv c).up, .int .i64 (V.cv c).cu, .int .i64 (V.cv c).ra, .int .i64 (V.cv c).bu, .int .i64 (V.cv c).id] 61)).alloc (.cells #[.int .i64 (V.cv c).bu, .int .i64 (V.cv c).id] 3)) := (HB.out.alloc hz _).alloc (by simp; omega) _
      generalize ((wr.alloc (.cells #[.bool (V.cv c).up, .int .i64 (V.cv c).cu, .int .i64 (V.cv c).ra, .int .i64 (V.cv c).bu, .int .i64 (V.cv c).id] 61)).alloc (.cells #[.int .i64 (V.cv c).bu, .int .i64 (V.cv c).id] 3)) = wq at hbx hbb ⊢
      generalize wr.heap.size = nb at hbx ⊢
      have HBX := Lib.hid hbx
      have HBB := Lib.hid hbb
      have b1 := hbx.cell 1
      have b2 := hbx.cell 2
      clear hbx hbb hr HB hz
      go_cut [33] from 15 to 126 (fun c' wx => c' = .bool ((V.cv c).cu == -1 && (V.cv c).ra == 0) ∧ wx = wq)
      case first =>
        cases z1 : ((V.cv c).cu == -1)
        · go_wp2
          go_meet
          exact ⟨by rw [z1]; rfl, rfl⟩
        cases z2 : ((V.cv c).ra == 0)
        all_goals
          go_wp2
          go_meet
          exact ⟨by rw [z1, z2]; rfl, rfl⟩
      case rest =>
        obtain ⟨rfl, rfl⟩ := hcut
        clear b1 b2
        cases hI : ((V.cv c).cu == -1 && (V.cv c).ra == 0)
        case true =>
          rw [hI] at HE
          go_wp2
          go_roundw
          case rel => exact ⟨c + 1, by omega, by go_num, HX.out (by rw [HE.out]; rfl), HBB⟩
          case measure => simp [intOf]; omega
        rw [hI] at HE
        clear hI
        have HSS : Hid (∀ k, k < V.gn → (V.gv k).us = true → c < (V.gv k).sn ∧ (V.gv k).sn ≤ 1048576) := fun k hk hu => by
          have := sn_of HGG.out hk
          rw [hu, if_pos rfl] at this
          omega
        go_upto_region 8 with (go_at_call 30; refine (lane_any hw _ _).mono ?_; rintro e w1 ⟨rfl, hb1⟩)
        have hlk : Bk (w1.alloc (.cells #[.pointer (some ⟨hw, 0, none⟩), .int .i64 (c : Nat)] 51)) w1.heap.size 51 #[.pointer (some ⟨hw, 0, none⟩), .int .i64 (c : Nat)] := Bk.new w1 _ _
        have hb2 : Below w.heap.size w (w1.alloc (.cells #[.pointer (some ⟨hw, 0, none⟩), .int .i64 (c : Nat)] 51)) := (HBB.out.trans (hb1.mono HBB.out.size)).alloc (Nat.le_trans HBB.out.size hb1.size) _
        have hbk : Bk (w1.alloc (.cells #[.pointer (some ⟨hw, 0, none⟩), .int .i64 (c : Nat)] 51)) nb 61 #[.bool (V.cv c).up, .int .i64 (V.cv c).cu, .int .i64 (V.cv c).ra, .int .i64 (V.cv c).bu, .int .i64 (V.cv c).id] := (HBX.out.below hb1 HBX.out.lt).alloc _
        generalize (w1.alloc (.cells #[.pointer (some ⟨hw, 0, none⟩), .int .i64 (c : Nat)] 51)) = wa at hlk hb2 hbk ⊢
        clear HBX HBB hb1
        have HLK := Lib.hid hlk
        have HB2 := Lib.hid hb2
        have HBK := Lib.hid hbk
        have b0 := hbk.cell 0
        have b1 := hbk.cell 1
        have b2 := hbk.cell 2
        have l0 := hlk.cell 0
        have l1 := hlk.cell 1
        clear hlk hb2 hbk
        go_cut [59] from 15 to 126 (fun c' wx => c' = .bool (!((V.cv c).up && thereB V (V.cv c).cu && inlI V (V.cv c).cu.toNat c && inR (V.cv c).ra 1 149)) ∧ Hid (Below wa.heap.size wa wx))
        case first =>
          cases u0 : (V.cv c).up
          · rw [u0] at b0
            go_wp2
            go_meet
            exact ⟨by rw [u0]; rfl, Below.refl _ _⟩
          rw [u0] at b0
          have HTH := Lib.hid (taskThere_any V a hw (V.cv c).cu htn wa (HK.out.below HB2.out hkl) (HM.out.below HB2.out))
          cases u1 : thereB V (V.cv c).cu
          · go_wp2_with (go_at_call 29; refine HTH.out.mono ?_; rintro e w8 ⟨rfl, rfl⟩)
            go_meet
            exact ⟨by rw [u0, u1]; rfl, Below.refl _ _⟩
          obtain ⟨t, ht, htt⟩ := there_t u1
          have HIL : Hid (Calls Tryz.prog 31 #[.agg #[.pointer (some ⟨hw, 0, none⟩), .int .i64 (c : Nat)], .int .i64 t] wa fun e w' => e = .returned (.bool (inlI V t c)) ∧ Below wa.heap.size wa w') := inLine_any V HT.out a hw t c HSS.out htt htn (fun hs => (task_used HTK.out htt hs).1) wa (HK.out.below HB2.out hkl) (HM.out.below HB2.out)
          have HQ : Hid (∀ b2 b3 b4 : Bool, (V.cv c).up = b2 → inlI V t c = b3 → inR (V.cv c).ra 1 149 = b4 → (!((V.cv c).up && thereB V (V.cv c).cu && inlI V (V.cv c).cu.toNat c && inR (V.cv c).ra 1 149)) = !(b2 && true && b3 && b4)) := fun b2 b3 b4 h2 h3 h4 => by rw [u1, h4, h2, ht, Int.toNat_natCast, h3]
          have HTH2 : Hid (Calls Tryz.prog 29 #[.pointer (some ⟨hw, 0, none⟩), .int .i64 (t : Nat)] wa fun e w' => e = .returned (.bool true) ∧ wa = w') := by have := HTH.out; rw [u1, ht] at this; exact this
          rw [ht] at b1
          clear u1 ht HTH
          cases u2 : inlI V t c
          · go_wp2_with (first | (go_at_call 29; refine HTH2.out.mono ?_; rintro e w8 ⟨rfl, rfl⟩) | (go_at_call 31; refine HIL.out.mono ?_; rintro e w9 ⟨rfl, hb9⟩))
            go_meet
            exact ⟨by rw [HQ.out _ _ _ u0 u2 rfl]; simp, hb9⟩
          cases u3 : inR (V.cv c).ra 1 149
          all_goals
            go_wp2_with (first | (go_at_call 29; refine HTH2.out.mono ?_; rintro e w8 ⟨rfl, rfl⟩) | (go_at_call 31; refine HIL.out.mono ?_; rintro e w9 ⟨rfl, hb9⟩; have b3 := (hb9.cell (p := ⟨nb, 2, none⟩) HBK.out.lt).trans b2) | (go_at_call 61; refine (inRange_any _ _ _ _).mono ?_; rintro e w' ⟨rfl, rfl⟩))
            go_meet
            exact ⟨by rw [HQ.out _ _ _ u0 u2 u3]; rfl, hb9⟩
        case rest =>
          obtain ⟨rfl, HXX⟩ := hcut
          rename World => wd
          have HBD : Hid (Below w.heap.size w wd) := HB2.out.trans (HXX.out.mono HB2.out.size)
          have HLD : Hid (Bk wd w1.heap.size 51 #[.pointer (some ⟨hw, 0, none⟩), .int .i64 (c : Nat)]) := HLK.out.below HXX.out HLK.out.lt
          have HCD : Hid (Bk wd nb 61 #[.bool (V.cv c).up, .int .i64 (V.cv c).cu, .int .i64 (V.cv c).ra, .int .i64 (V.cv c).bu, .int .i64 (V.cv c).id]) := HBK.out.below HXX.out HBK.out.lt
          clear HXX HB2 HLK HBK b0 b1 b2 l0 l1
          cases hE : ((V.cv c).up && thereB V (V.cv c).cu && inlI V (V.cv c).cu.toNat c && inR (V.cv c).ra 1 149)
          · rw [hE] at HE
            go_wp2
            go_ret
            exact ⟨ret_boolB (HF.out (by rw [HE.out]; rfl)).symm, HBD.out⟩
          rw [hE] at HE
          simp only [Bool.and_eq_true] at hE
          obtain ⟨t, ht, htt⟩ := there_t hE.1.1.2
          have hin := hE.1.2
          rw [ht, Int.toNat_natCast] at hin
          simp only [inlI, Bool.and_eq_true, beq_iff_eq] at hin
          obtain ⟨hus, hvv⟩ := task_used HTK.out htt hin.1.1
          obtain ⟨v1, v2, v3⟩ := usedB_iff.1 hus
          obtain ⟨G, hG⟩ := Int.eq_ofNat_of_zero_le v1
          rw [hG] at v2 v3
          simp only [Int.toNat_natCast] at v3
          have HST : Hid (stayB V c = (decide ((V.tv t).vv - (V.gv G).s0 c ≤ virtualStep (V.cv c).ra (weightOf (V.tv t).ni)) && styB V c (V.cv c).ra G)) := by
            show stayB V c = _
            unfold stayB
            rw [ht, Int.toNat_natCast, hG, Int.toNat_natCast]
          have b1 := HCD.out.cell 1
          rw [ht] at b1
          have HGE := Lib.hid hG
          clear hE hin ht hG
          have j2 := (HBD.out.cell (p := ⟨hw, 2, none⟩) hkl).trans k2
          have hrt := rangeAt_below (HM.out.t t htt) HBD.out htl
          have e0 := hrt 0 _ rfl
          have e1 := hrt 1 _ rfl
          have e2 := hrt 2 _ rfl
          have e3 := hrt 3 _ rfl
          have e4 := hrt 4 _ rfl
          have e5 := hrt 5 _ rfl
          have e6 := hrt 6 _ rfl
          have e7 := hrt 7 _ rfl
          have e8 := hrt 8 _ rfl
          simp only [Nat.add_zero] at e0
          clear hrt
          go_upto_region 10 with (fail)
          go_cut [6] from 15 to 126 (fun p wx => ∃ b, p = .pointer (some ⟨b, 0, none⟩) ∧ Hid (Bk wx b 54 #[.int .i64 (V.tv t).st, .int .i64 (V.tv t).gr, .int .i64 (V.tv t).cp, .int .i64 (V.tv t).ni, .int .i64 (V.tv t).ma, .int .i64 (V.tv t).vv, .int .i64 (V.tv t).su, .int .i64 (V.tv t).us, .int .i64 (V.tv t).lo]) ∧ Hid (Below wd.heap.size wd wx))
          case first =>
            have hbx := HBD.out
            have hzx := hbx.size
            have KS : ∀ w', Below wd.heap.size wd w' → (fun w' => Below wd.heap.size wd w' ∧ w'.cell? ⟨nb, 1, none⟩ = some (.int .i64 (t : Nat)) ∧ w'.cell? ⟨hw, 2, none⟩ = some (.slice (some ⟨a.ta, a.ot, none⟩) V.tn a.tc) ∧ w'.cell? ⟨a.ta, a.ot + t * 9, none⟩ = some (.int .i64 (V.tv t).st) ∧ w'.cell? ⟨a.ta, a.ot + t * 9 + 1, none⟩ = some (.int .i64 (V.tv t).gr) ∧ w'.cell? ⟨a.ta, a.ot + t * 9 + 2, none⟩ = some (.int .i64 (V.tv t).cp) ∧ w'.cell? ⟨a.ta, a.ot + t * 9 + 3, none⟩ = some (.int .i64 (V.tv t).ni) ∧ w'.cell? ⟨a.ta, a.ot + t * 9 + 4, none⟩ = some (.int .i64 (V.tv t).ma) ∧ w'.cell? ⟨a.ta, a.ot + t * 9 + 5, none⟩ = some (.int .i64 (V.tv t).vv) ∧ w'.cell? ⟨a.ta, a.ot + t * 9 + 6, none⟩ = some (.int .i64 (V.tv t).su) ∧ w'.cell? ⟨a.ta, a.ot + t * 9 + 7, none⟩ = some (.int .i64 (V.tv t).us) ∧ w'.cell? ⟨a.ta, a.ot + t * 9 + 8, none⟩ = some (.int .i64 (V.tv t).lo)) w' := fun w' h => ⟨h, (h.cell (p := ⟨nb, 1, none⟩) HCD.out.lt).trans b1, (h.cell (p := ⟨hw, 2, none⟩) (Nat.lt_of_lt_of_le hkl hzx)).trans j2, (h.cell (p := ⟨a.ta, a.ot + t * 9, none⟩) (Nat.lt_of_lt_of_le htl hzx)).trans e0, (h.cell (p := ⟨a.ta, a.ot + t * 9 + 1, none⟩) (Nat.lt_of_lt_of_le htl hzx)).trans e1, (h.cell (p := ⟨a.ta, a.ot + t * 9 + 2, none⟩) (Nat.lt_of_lt_of_le htl hzx)).trans e2, (h.cell (p := ⟨a.ta, a.ot + t * 9 + 3, none⟩) (Nat.lt_of_lt_of_le htl hzx)).trans e3, (h.cell (p := ⟨a.ta, a.ot + t * 9 + 4, none⟩) (Nat.lt_of_lt_of_le htl hzx)).trans e4, (h.cell (p := ⟨a.ta, a.ot + t * 9 + 5, none⟩) (Nat.lt_of_lt_of_le htl hzx)).trans e5, (h.cell (p := ⟨a.ta, a.ot + t * 9 + 6, none⟩) (Nat.lt_of_lt_of_le htl hzx)).trans e6, (h.cell (p := ⟨a.ta, a.ot + t * 9 + 7, none⟩) (Nat.lt_of_lt_of_le htl hzx)).trans e7, (h.cell (p := ⟨a.ta, a.ot + t * 9 + 8, none⟩) (Nat.lt_of_lt_of_le htl hzx)).trans e8⟩
            have KT : ∀ wa wb, (fun w' => Below wd.heap.size wd w' ∧ w'.cell? ⟨nb, 1, none⟩ = some (.int .i64 (t : Nat)) ∧ w'.cell? ⟨hw, 2, none⟩ = some (.slice (some ⟨a.ta, a.ot, none⟩) V.tn a.tc) ∧ w'.cell? ⟨a.ta, a.ot + t * 9, none⟩ = some (.int .i64 (V.tv t).st) ∧ w'.cell? ⟨a.ta, a.ot + t * 9 + 1, none⟩ = some (.int .i64 (V.tv t).gr) ∧ w'.cell? ⟨a.ta, a.ot + t * 9 + 2, none⟩ = some (.int .i64 (V.tv t).cp) ∧ w'.cell? ⟨a.ta, a.ot + t * 9 + 3, none⟩ = some (.int .i64 (V.tv t).ni) ∧ w'.cell? ⟨a.ta, a.ot + t * 9 + 4, none⟩ = some (.int .i64 (V.tv t).ma) ∧ w'.cell? ⟨a.ta, a.ot + t * 9 + 5, none⟩ = some (.int .i64 (V.tv t).vv) ∧ w'.cell? ⟨a.ta, a.ot + t * 9 + 6, none⟩ = some (.int .i64 (V.tv t).su) ∧ w'.cell? ⟨a.ta, a.ot + t * 9 + 7, none⟩ = some (.int .i64 (V.tv t).us) ∧ w'.cell? ⟨a.ta, a.ot + t * 9 + 8, none⟩ = some (.int .i64 (V.tv t).lo)) wa → Below wa.heap.size wa wb → (fun w' => Below wd.heap.size wd w' ∧ w'.cell? ⟨nb, 1, none⟩ = some (.int .i64 (t : Nat)) ∧ w'.cell? ⟨hw, 2, none⟩ = some (.slice (some ⟨a.ta, a.ot, none⟩) V.tn a.tc) ∧ w'.cell? ⟨a.ta, a.ot + t * 9, none⟩ = some (.int .i64 (V.tv t).st) ∧ w'.cell? ⟨a.ta, a.ot + t * 9 + 1, none⟩ = some (.int .i64 (V.tv t).gr) ∧ w'.cell? ⟨a.ta, a.ot + t * 9 + 2, none⟩ = some (.int .i64 (V.tv t).cp) ∧ w'.cell? ⟨a.ta, a.ot + t * 9 + 3, none⟩ = some (.int .i64 (V.tv t).ni) ∧ w'.cell? ⟨a.ta, a.ot + t * 9 + 4, none⟩ = some (.int .i64 (V.tv t).ma) ∧ w'.cell? ⟨a.ta, a.ot + t * 9 + 5, none⟩ = some (.int .i64 (V.tv t).vv) ∧ w'.cell? ⟨a.ta, a.ot + t * 9 + 6, none⟩ = some (.int .i64 (V.tv t).su) ∧ w'.cell? ⟨a.ta, a.ot + t * 9 + 7, none⟩ = some (.int .i64 (V.tv t).us) ∧ w'.cell? ⟨a.ta, a.ot + t * 9 + 8, none⟩ = some (.int .i64 (V.tv t).lo)) wb := fun wa wb h hab => KS wb (h.1.trans (hab.mono h.1.size))
            have HKS := Lib.hid KS
            have HKT := Lib.hid KT
            clear KS KT
            clear b1 j2 e0 e1 e2 e3 e4 e5 e6 e7 e8
            refine wp_region_held_drew (S := (fun w' => Below wd.heap.size wd w' ∧ w'.cell? ⟨nb, 1, none⟩ = some (.int .i64 (t : Nat)) ∧ w'.cell? ⟨hw, 2, none⟩ = some (.slice (some ⟨a.ta, a.ot, none⟩) V.tn a.tc) ∧ w'.cell? ⟨a.ta, a.ot + t * 9, none⟩ = some (.int .i64 (V.tv t).st) ∧ w'.cell? ⟨a.ta, a.ot + t * 9 + 1, none⟩ = some (.int .i64 (V.tv t).gr) ∧ w'.cell? ⟨a.ta, a.ot + t * 9 + 2, none⟩ = some (.int .i64 (V.tv t).cp) ∧ w'.cell? ⟨a.ta, a.ot + t * 9 + 3, none⟩ = some (.int .i64 (V.tv t).ni) ∧ w'.cell? ⟨a.ta, a.ot + t * 9 + 4, none⟩ = some (.int .i64 (V.tv t).ma) ∧ w'.cell? ⟨a.ta, a.ot + t * 9 + 5, none⟩ = some (.int .i64 (V.tv t).vv) ∧ w'.cell? ⟨a.ta, a.ot + t * 9 + 6, none⟩ = some (.int .i64 (V.tv t).su) ∧ w'.cell? ⟨a.ta, a.ot + t * 9 + 7, none⟩ = some (.int .i64 (V.tv t).us) ∧ w'.cell? ⟨a.ta, a.ot + t * 9 + 8, none⟩ = some (.int .i64 (V.tv t).lo))) (by kernel_rfl) (HKS.out _ (Below.refl _ _).drew) (fun hH => ?_)
            refine rgT 0 ?_ ?_ hH ?_; rotate_left; · (intro w s; (try dsimp only at s); go_simp; try with_reducible rfl)
            try simp only [rgp, rg0, rg1]
            refine rgT 1 ?_ ?_ hH ?_; rotate_left; · (intro w s; (try dsimp only at s); go_simp; try with_reducible rfl)
            try simp only [rgp, rg0, rg1]
            refine rgT 2 ?_ ?_ hH ?_; rotate_left; · (intro w s; (try dsimp only at s); go_simp; try with_reducible rfl)
            try simp only [rgp, rg0, rg1]
            refine rgT 3 ?_ ?_ hH ?_; rotate_left; · (intro w s; (try dsimp only at s); go_simp; try with_reducible rfl)
            try simp only [rgp, rg0, rg1]
            refine rgT 4 ?_ ?_ hH ?_; rotate_left; · (intro w s; (try dsimp only at s); go_simp; try with_reducible rfl)
            try simp only [rgp, rg0, rg1]
            refine rgT 5 ?_ ?_ hH ?_; rotate_left; · (intro w s; (try dsimp only at s); go_simp; try with_reducible rfl)
            try simp only [rgp, rg0, rg1]
            refine rgT 6 ?_ ?_ hH ?_; rotate_left; · (intro w s; (try dsimp only at s); go_simp; try with_reducible rfl)
            try simp only [rgp, rg0, rg1]
            refine rgT 7 ?_ ?_ hH ?_; rotate_left; · (intro w s; (try dsimp only at s); go_simp; try with_reducible rfl)
            try simp only [rgp, rg0, rg1]
            refine rgS 8 (fun K hK => ?_)
            go_simp
            refine hK.out _ _ (HKT.out _ _ hH ((Below.refl _ _).alloc (Nat.le_refl _) _)) (fun hH_1 => ?_)
            clear hK K
            try simp only [rgp, rgn, rg0, rg1]
            refine rgS 9 (fun K hK => ?_)
            go_simp
            refine hK.out _ _ (HKT.out _ _ hH ((Below.refl _ _).alloc (Nat.le_refl _) _)) (fun hH_2 => ?_)
            clear hK K
            try simp only [rgp, rgn, rg0, rg1]
            refine wpAnyH_done (by kernel_rfl) ?_ _
            go_wp2
            go_meet
            exact ⟨_, rfl, Bk.new wd _ _, hH_2.1⟩
          case rest =>
            obtain ⟨b6, rfl, HTB, HBY⟩ := hcut
            rename World => we
            clear e0 e1 e2 e3 e4 e5 e6 e7 e8 j2 b1
            have HBE : Hid (Below w.heap.size w we) := HBD.out.trans (HBY.out.mono HBD.out.size)
            have HLE : Hid (Bk we w1.heap.size 51 #[.pointer (some ⟨hw, 0, none⟩), .int .i64 (c : Nat)]) := HLD.out.below HBY.out HLD.out.lt
            have HCE : Hid (Bk we nb 61 #[.bool (V.cv c).up, .int .i64 (V.cv c).cu, .int .i64 (V.cv c).ra, .int .i64 (V.cv c).bu, .int .i64 (V.cv c).id]) := HCD.out.below HBY.out HCD.out.lt
            clear HBY HBD HLD HCD
            obtain ⟨q1, q2⟩ := HSS.out G (by omega) v3
            obtain ⟨_, s2, s3⟩ := HM.out.s G (by omega) (by omega)
            have f0 := s3 c q1 0 _ rfl
            rw [Nat.add_zero] at f0
            have HNG := Lib.hid (numH_t (allTo_at (numH V G) c _ q1 (allTo_at (fun g => allTo (numH V g) (V.gv g).sn) G _ (by omega) HNU.out)))
            have HW : Hid (IntKind.i64.wrap ((V.tv t).vv - (V.gv G).s0 c) = (V.tv t).vv - (V.gv G).s0 c) := by
              obtain ⟨y1, y2⟩ := timeB_t hvv
              obtain ⟨y3, y4⟩ := timeB_t HNG.out.1
              exact wrap_in (by omega) (by omega)
            have HSG : Hid (∀ x, Below w.heap.size w x → Calls Tryz.prog 62 #[.agg #[.pointer (some ⟨hw, 0, none⟩), .int .i64 (c : Nat)], .int .i64 G] x fun e w' => e = .returned (.pointer (some ⟨a.sb G, a.so G + c * 5, none⟩)) ∧ Below x.heap.size x w') := fun x hx => shelf_any V a hw G c (by omega) h8 q1 q2 x (HK.out.below hx hkl) (HM.out.below hx)
            have t1 : we.cell? ⟨b6, 1, none⟩ = some (.int .i64 (G : Nat)) := (HTB.out.cell 1).trans (by rw [HGE.out]; rfl)
            clear s3 q1 q2
            go_upto_region 11 with (fail)
            go_cut [84] from 15 to 126 (fun c' wx => c' = .bool (!(decide ((V.tv t).vv - (V.gv G).s0 c ≤ virtualStep (V.cv c).ra (weightOf (V.tv t).ni)))) ∧ Hid (Below we.heap.size we wx))
            case first =>
              have hbx := HBE.out
              have hzx := hbx.size
              have KS : ∀ w', Below we.heap.size we w' → (fun w' => Below we.heap.size we w' ∧ w'.cell? ⟨w1.heap.size, 0, none⟩ = some (.pointer (some ⟨hw, 0, none⟩)) ∧ w'.cell? ⟨w1.heap.size, 1, none⟩ = some (.int .i64 (c : Nat)) ∧ w'.cell? ⟨nb, 2, none⟩ = some (.int .i64 (V.cv c).ra) ∧ w'.cell? ⟨b6, 1, none⟩ = some (.int .i64 (G : Nat)) ∧ w'.cell? ⟨b6, 3, none⟩ = some (.int .i64 (V.tv t).ni) ∧ w'.cell? ⟨b6, 5, none⟩ = some (.int .i64 (V.tv t).vv) ∧ w'.cell? ⟨a.sb G, a.so G + c * 5, none⟩ = some (.int .i64 ((V.gv G).s0 c))) w' := fun w' h => ⟨h, (h.cell (p := ⟨w1.heap.size, 0, none⟩) HLE.out.lt).trans (HLE.out.cell 0), (h.cell (p := ⟨w1.heap.size, 1, none⟩) HLE.out.lt).trans (HLE.out.cell 1), (h.cell (p := ⟨nb, 2, none⟩) HCE.out.lt).trans (HCE.out.cell 2), (h.cell (p := ⟨b6, 1, none⟩) HTB.out.lt).trans t1, (h.cell (p := ⟨b6, 3, none⟩) HTB.out.lt).trans (HTB.out.cell 3), (h.cell (p := ⟨b6, 5, none⟩) HTB.out.lt).trans (HTB.out.cell 5), (h.cell (p := ⟨a.sb G, a.so G + c * 5, none⟩) (Nat.lt_of_lt_of_le s2 hzx)).trans ((hbx.cell (p := ⟨a.sb G, a.so G + c * 5, none⟩) s2).trans f0)⟩
              have KT : ∀ wa wb, (fun w' => Below we.heap.size we w' ∧ w'.cell? ⟨w1.heap.size, 0, none⟩ = some (.pointer (some ⟨hw, 0, none⟩)) ∧ w'.cell? ⟨w1.heap.size, 1, none⟩ = some (.int .i64 (c : Nat)) ∧ w'.cell? ⟨nb, 2, none⟩ = some (.int .i64 (V.cv c).ra) ∧ w'.cell? ⟨b6, 1, none⟩ = some (.int .i64 (G : Nat)) ∧ w'.cell? ⟨b6, 3, none⟩ = some (.int .i64 (V.tv t).ni) ∧ w'.cell? ⟨b6, 5, none⟩ = some (.int .i64 (V.tv t).vv) ∧ w'.cell? ⟨a.sb G, a.so G + c * 5, none⟩ = some (.int .i64 ((V.gv G).s0 c))) wa → Below wa.heap.size wa wb → (fun w' => Below we.heap.size we w' ∧ w'.cell? ⟨w1.heap.size, 0, none⟩ = some (.pointer (some ⟨hw, 0, none⟩)) ∧ w'.cell? ⟨w1.heap.size, 1, none⟩ = some (.int .i64 (c : Nat)) ∧ w'.cell? ⟨nb, 2, none⟩ = some (.int .i64 (V.cv c).ra) ∧ w'.cell? ⟨b6, 1, none⟩ = some (.int .i64 (G : Nat)) ∧ w'.cell? ⟨b6, 3, none⟩ = some (.int .i64 (V.tv t).ni) ∧ w'.cell? ⟨b6, 5, none⟩ = some (.int .i64 (V.tv t).vv) ∧ w'.cell? ⟨a.sb G, a.so G + c * 5, none⟩ = some (.int .i64 ((V.gv G).s0 c))) wb := fun wa wb h hab => KS wb (h.1.trans (hab.mono h.1.size))
              have HKS := Lib.hid KS
              have HKT := Lib.hid KT
              clear KS KT
              clear t1
              refine wp_region_held_drew (S := (fun w' => Below we.heap.size we w' ∧ w'.cell? ⟨w1.heap.size, 0, none⟩ = some (.pointer (some ⟨hw, 0, none⟩)) ∧ w'.cell? ⟨w1.heap.size, 1, none⟩ = some (.int .i64 (c : Nat)) ∧ w'.cell? ⟨nb, 2, none⟩ = some (.int .i64 (V.cv c).ra) ∧ w'.cell? ⟨b6, 1, none⟩ = some (.int .i64 (G : Nat)) ∧ w'.cell? ⟨b6, 3, none⟩ = some (.int .i64 (V.tv t).ni) ∧ w'.cell? ⟨b6, 5, none⟩ = some (.int .i64 (V.tv t).vv) ∧ w'.cell? ⟨a.sb G, a.so G + c * 5, none⟩ = some (.int .i64 ((V.gv G).s0 c)))) (by kernel_rfl) (HKS.out _ (Below.refl _ _).drew) (fun hH => ?_)
              refine rgT 0 ?_ ?_ hH ?_; rotate_left; · (intro w s; (try dsimp only at s); go_simp; try with_reducible rfl)
              try simp only [rgp, rg0, rg1]
              refine rgT 1 ?_ ?_ hH ?_; rotate_left; · (intro w s; (try dsimp only at s); go_simp; try with_reducible rfl)
              try simp only [rgp, rg0, rg1]
              refine rgT 2 ?_ ?_ hH ?_; rotate_left; · (intro w s; (try dsimp only at s); go_simp; try with_reducible rfl)
              try simp only [rgp, rg0, rg1]
              refine rgT 3 ?_ ?_ hH ?_; rotate_left; · (intro w s; (try dsimp only at s); go_simp; try with_reducible rfl)
              try simp only [rgp, rg0, rg1]
              refine rgT 4 ?_ ?_ hH ?_; rotate_left; · (intro w s; (try dsimp only at s); go_simp; try with_reducible rfl)
              try simp only [rgp, rg0, rg1]
              refine rgT 10 ?_ ?_ hH ?_; rotate_left; · (intro w s; (try dsimp only at s); go_simp; try with_reducible rfl)
              try simp only [rgp, rg0, rg1]
              refine rgT 11 ?_ ?_ hH ?_; rotate_left; · (intro w s; (try dsimp only at s); go_simp; try with_reducible rfl)
              try simp only [rgp, rg0, rg1]
              refine rgT 12 ?_ ?_ hH ?_; rotate_left; · (intro w s; (try dsimp only at s); go_simp; try with_reducible rfl)
              try simp only [rgp, rg0, rg1]
              refine rgT 13 ?_ ?_ hH ?_; rotate_left; · (intro w s; (try dsimp only at s); go_simp; try with_reducible rfl)
              try simp only [rgp, rg0, rg1]
              refine rgS 5 (fun K hK => ?_)
              go_simp
              (go_at_call 62; refine (HSG.out _ (hbx.trans (hH.1.mono hbx.size))).mono ?_; rintro e wv1 ⟨rfl, hbb1⟩)
              go_wp2_with fail
              refine hK.out _ _ (HKT.out _ _ hH hbb1) (fun hH_1 => ?_)
              clear hK K
              try simp only [rgp, rgn, rg0, rg1]
              refine rgT 6 ?_ ?_ hH_1 ?_; rotate_left; · (intro w s; (try dsimp only at s); go_simp; try with_reducible rfl)
              try simp only [rgp, rg0, rg1]
              refine rgT 7 ?_ ?_ hH_1 ?_; rotate_left; · (intro w s; (try dsimp only at s); go_simp; try with_reducible rfl)
              try simp only [rgp, rg0, rg1]
              refine rgT 8 ?_ ?_ hH_1 ?_; rotate_left; · (intro w s; (try dsimp only at s); go_simp; try with_reducible rfl)
              try simp only [rgp, rg0, rg1]
              refine rgT 9 ?_ ?_ hH_1 ?_; rotate_left; · (intro w s; (try dsimp only at s); go_simp; try with_reducible rfl)
              try simp only [rgp, rg0, rg1]
              refine rgS 14 (fun K hK => ?_)
              go_simp
              (go_at_call 93; refine (iWeightOf_any _ _).mono ?_; rintro e wv2 ⟨rfl, rfl⟩)
              go_wp2_with fail
              refine hK.out _ _ (hH_1) (fun hH_2 => ?_)
              clear hK K
              try simp only [rgp, rgn, rg0, rg1]
              refine rgS 15 (fun K hK => ?_)
              go_simp
              (go_at_call 95; refine (iVirtualStep_any _ _ _ _ (Below.refl _ _)).mono ?_; rintro e wv3 ⟨rfl, hbb3⟩)
              go_wp2_with fail
              refine hK.out _ _ (HKT.out _ _ hH_2 hbb3) (fun hH_3 => ?_)
              clear hK K
              try simp only [rgp, rgn, rg0, rg1]
              refine rgT 16 ?_ ?_ hH_3 ?_; rotate_left; · (intro w s; (try dsimp only at s); go_simp; try with_reducible rfl)
              try simp only [rgp, rg0, rg1]
              refine wpAnyH_done (by kernel_rfl) ?_ _
              go_wp2
              go_meet
              exact ⟨by rw [HW.out]; exact congrArg Value.bool (decGt _ _), hH_3.1⟩
            case rest =>
              obtain ⟨rfl, HXX⟩ := hcut
              rename World => wf
              have HBF : Hid (Below w.heap.size w wf) := HBE.out.trans (HXX.out.mono HBE.out.size)
              have HLF : Hid (Bk wf w1.heap.size 51 #[.pointer (some ⟨hw, 0, none⟩), .int .i64 (c : Nat)]) := HLE.out.below HXX.out HLE.out.lt
              have HCF : Hid (Bk wf nb 61 #[.bool (V.cv c).up, .int .i64 (V.cv c).cu, .int .i64 (V.cv c).ra, .int .i64 (V.cv c).bu, .int .i64 (V.cv c).id]) := HCE.out.below HXX.out HCE.out.lt
              have t1f := (HXX.out.cell (p := ⟨b6, 1, none⟩) HTB.out.lt).trans t1
              clear HXX HBE HLE HCE t1 f0 HW HSG s2 HTB HNG HGE hvv
              cases hD : decide ((V.tv t).vv - (V.gv G).s0 c ≤ virtualStep (V.cv c).ra (weightOf (V.tv t).ni))
              · rw [hD] at HST
                go_wp2
                go_ret
                exact ⟨ret_boolB (HF.out (by rw [HE.out, HST.out]; rfl)).symm, HBF.out⟩
              rw [hD] at HST
              have HEF : Hid (styB V c (V.cv c).ra G = true → cpuI V c = true) := fun h => by rw [HE.out, HST.out, h]; rfl
              have HEN : Hid (styB V c (V.cv c).ra G = false → allTo (cpuI V) V.cn = false) := fun h => HF.out (by rw [HE.out, HST.out, h]; rfl)
              clear hD HE HST HF
              go_wp2
              go_loopw [7] (fun i wr' => ∃ g : Nat, g < 8 ∧ (V.gv g).us = true ∧ i = .int .i64 g ∧ Hid (styB V c (V.cv c).ra G = styB V c (V.cv c).ra g) ∧ Hid (Bk wr' w1.heap.size 51 #[.pointer (some ⟨hw, 0, none⟩), .int .i64 (c : Nat)]) ∧ Hid (Bk wr' nb 61 #[.bool (V.cv c).up, .int .i64 (V.cv c).cu, .int .i64 (V.cv c).ra, .int .i64 (V.cv c).bu, .int .i64 (V.cv c).id]) ∧ Hid (Below w.heap.size w wr')) (fun i _ => dN V (intOf i).toNat)
              case atStart => exact ⟨G, by have := HN8.out; omega, v3, rfl, rfl, HLF, HCF, HBF⟩
              case round =>
                clear HLF HCF HBF t1f
                obtain ⟨g, hg8, hgu, rfl, HSY, HL, HC, HB⟩ := hrel
                have hz := HB.out.size
                by_cases h0 : g = 0
                · subst h0
                  have HN := Lib.hid (HX.out (HEF.out (HSY.out.trans (HT.out.sty0 c _))))
                  clear HSY
                  go_wp2
                  go_roundw
                  case rel => exact ⟨c + 1, by omega, by go_num, HN, HB⟩
                  case measure => simp [intOf]; omega
                · have h0' : ((g : Int) != 0) = true := by simp [h0]
                  have HSTG := Lib.hid (HT.out.sty h0 hg8 hgu c (V.cv c).ra)
                  obtain ⟨p1, p2, p3, p4⟩ := HT.out.pa g h0 hg8 hgu
                  have hgn : g < V.gn := by have := HN8.out; omega
                  have hpn : pN V g < V.gn := by have := HN8.out; omega
                  obtain ⟨q1, q2⟩ := HSS.out g hgn hgu
                  obtain ⟨r1, r2⟩ := HSS.out (pN V g) hpn p3
                  obtain ⟨_, y2, y3⟩ := HM.out.s g hgn (by omega)
                  obtain ⟨_, z2, z3⟩ := HM.out.s (pN V g) hpn (by omega)
                  have x2 := y3 c q1 2 _ rfl
                  have x3 := y3 c q1 3 _ rfl
                  have x0 := z3 c r1 0 _ rfl
                  rw [Nat.add_zero] at x0
                  have xp := HM.out.g g hgn 1 _ rfl
                  rw [p1] at xp
                  have l0 := HL.out.cell 0
                  have l1 := HL.out.cell 1
                  have HW : Hid (IntKind.i64.wrap ((V.gv g).s2 c - (V.gv (pN V g)).s0 c) = (V.gv g).s2 c - (V.gv (pN V g)).s0 c) := by
                    obtain ⟨o1, o2⟩ := timeB_t (numH_t (allTo_at (numH V g) c _ q1 (allTo_at (fun g => allTo (numH V g) (V.gv g).sn) g _ hgn HNU.out))).2.1
                    obtain ⟨o3, o4⟩ := timeB_t (numH_t (allTo_at (numH V (pN V g)) c _ r1 (allTo_at (fun g => allTo (numH V g) (V.gv g).sn) (pN V g) _ hpn HNU.out))).1
                    exact wrap_in (by omega) (by omega)
                  have HSG : Hid (∀ x, Below w.heap.size w x → Calls Tryz.prog 62 #[.agg #[.pointer (some ⟨hw, 0, none⟩), .int .i64 (c : Nat)], .int .i64 g] x fun e w' => e = .returned (.pointer (some ⟨a.sb g, a.so g + c * 5, none⟩)) ∧ Below x.heap.size x w') := fun x hx => shelf_any V a hw g c hgn h8 q1 q2 x (HK.out.below hx hkl) (HM.out.below hx)
                  have HSP : Hid (∀ x, Below w.heap.size w x → Calls Tryz.prog 62 #[.agg #[.pointer (some ⟨hw, 0, none⟩), .int .i64 (c : Nat)], .int .i64 (pN V g : Nat)] x fun e w' => e = .returned (.pointer (some ⟨a.sb (pN V g), a.so (pN V g) + c * 5, none⟩)) ∧ Below x.heap.size x w') := fun x hx => shelf_any V a hw (pN V g) c hpn h8 r1 r2 x (HK.out.below hx hkl) (HM.out.below hx)
                  have hgi : (g : Int) < (V.gn : Nat) := by omega
                  clear y3 z3 q1 q2 r1 r2 p1 hpn
                  go_upto_region 17 with (go_at_call 62; refine (HSG.out _ HB.out).mono ?_; rintro e w3 ⟨rfl, hb3⟩)
                  go_cut [125] from 87 to 125 (fun c' wx => c' = .bool (!(decide ((V.gv g).s2 c - (V.gv (pN V g)).s0 c ≤ virtualStep (V.cv c).ra ((V.gv g).s3 c)))) ∧ Hid (Below w3.heap.size w3 wx))
                  case first =>
                    have hbx := HB.out.trans (hb3.mono hz)
                    have hlx := HL.out.below hb3 HL.out.lt
                    have hcx := HC.out.below hb3 HC.out.lt
                    have hzx := hbx.size
                    clear l0 l1
                    have KS : ∀ w', Below w3.heap.size w3 w' → (fun w' => Below w3.heap.size w3 w' ∧ w'.cell? ⟨w1.heap.size, 0, none⟩ = some (.pointer (some ⟨hw, 0, none⟩)) ∧ w'.cell? ⟨w1.heap.size, 1, none⟩ = some (.int .i64 (c : Nat)) ∧ w'.cell? ⟨nb, 2, none⟩ = some (.int .i64 (V.cv c).ra) ∧ w'.cell? ⟨hw, 3, none⟩ = some (.slice (some ⟨a.ga, a.og, none⟩) V.gn a.gc) ∧ w'.cell? ⟨a.ga, a.og + g * 14 + 1, none⟩ = some (.int .i64 (pN V g : Nat)) ∧ w'.cell? ⟨a.sb g, a.so g + c * 5 + 2, none⟩ = some (.int .i64 ((V.gv g).s2 c)) ∧ w'.cell? ⟨a.sb g, a.so g + c * 5 + 3, none⟩ = some (.int .i64 ((V.gv g).s3 c)) ∧ w'.cell? ⟨a.sb (pN V g), a.so (pN V g) + c * 5, none⟩ = some (.int .i64 ((V.gv (pN V g)).s0 c))) w' := fun w' h => ⟨h, (h.cell (p := ⟨w1.heap.size, 0, none⟩) hlx.lt).trans (hlx.cell 0), (h.cell (p := ⟨w1.heap.size, 1, none⟩) hlx.lt).trans (hlx.cell 1), (h.cell (p := ⟨nb, 2, none⟩) hcx.lt).trans (hcx.cell 2), (h.cell (p := ⟨hw, 3, none⟩) (Nat.lt_of_lt_of_le hkl hzx)).trans ((hbx.cell (p := ⟨hw, 3, none⟩) hkl).trans k3), (h.cell (p := ⟨a.ga, a.og + g * 14 + 1, none⟩) (Nat.lt_of_lt_of_le hgl hzx)).trans ((hbx.cell (p := ⟨a.ga, a.og + g * 14 + 1, none⟩) hgl).trans xp), (h.cell (p := ⟨a.sb g, a.so g + c * 5 + 2, none⟩) (Nat.lt_of_lt_of_le y2 hzx)).trans ((hbx.cell (p := ⟨a.sb g, a.so g + c * 5 + 2, none⟩) y2).trans x2), (h.cell (p := ⟨a.sb g, a.so g + c * 5 + 3, none⟩) (Nat.lt_of_lt_of_le y2 hzx)).trans ((hbx.cell (p := ⟨a.sb g, a.so g + c * 5 + 3, none⟩) y2).trans x3), (h.cell (p := ⟨a.sb (pN V g), a.so (pN V g) + c * 5, none⟩) (Nat.lt_of_lt_of_le z2 hzx)).trans ((hbx.cell (p := ⟨a.sb (pN V g), a.so (pN V g) + c * 5, none⟩) z2).trans x0)⟩
                    have KT : ∀ wa wb, (fun w' => Below w3.heap.size w3 w' ∧ w'.cell? ⟨w1.heap.size, 0, none⟩ = some (.pointer (some ⟨hw, 0, none⟩)) ∧ w'.cell? ⟨w1.heap.size, 1, none⟩ = some (.int .i64 (c : Nat)) ∧ w'.cell? ⟨nb, 2, none⟩ = some (.int .i64 (V.cv c).ra) ∧ w'.cell? ⟨hw, 3, none⟩ = some (.slice (some ⟨a.ga, a.og, none⟩) V.gn a.gc) ∧ w'.cell? ⟨a.ga, a.og + g * 14 + 1, none⟩ = some (.int .i64 (pN V g : Nat)) ∧ w'.cell? ⟨a.sb g, a.so g + c * 5 + 2, none⟩ = some (.int .i64 ((V.gv g).s2 c)) ∧ w'.cell? ⟨a.sb g, a.so g + c * 5 + 3, none⟩ = some (.int .i64 ((V.gv g).s3 c)) ∧ w'.cell? ⟨a.sb (pN V g), a.so (pN V g) + c * 5, none⟩ = some (.int .i64 ((V.gv (pN V g)).s0 c))) wa → Below wa.heap.size wa wb → (fun w' => Below w3.heap.size w3 w' ∧ w'.cell? ⟨w1.heap.size, 0, none⟩ = some (.pointer (some ⟨hw, 0, none⟩)) ∧ w'.cell? ⟨w1.heap.size, 1, none⟩ = some (.int .i64 (c : Nat)) ∧ w'.cell? ⟨nb, 2, none⟩ = some (.int .i64 (V.cv c).ra) ∧ w'.cell? ⟨hw, 3, none⟩ = some (.slice (some ⟨a.ga, a.og, none⟩) V.gn a.gc) ∧ w'.cell? ⟨a.ga, a.og + g * 14 + 1, none⟩ = some (.int .i64 (pN V g : Nat)) ∧ w'.cell? ⟨a.sb g, a.so g + c * 5 + 2, none⟩ = some (.int .i64 ((V.gv g).s2 c)) ∧ w'.cell? ⟨a.sb g, a.so g + c * 5 + 3, none⟩ = some (.int .i64 ((V.gv g).s3 c)) ∧ w'.cell? ⟨a.sb (pN V g), a.so (pN V g) + c * 5, none⟩ = some (.int .i64 ((V.gv (pN V g)).s0 c))) wb := fun wa wb h hab => KS wb (h.1.trans (hab.mono h.1.size))
                    have HKS := Lib.hid KS
                    have HKT := Lib.hid KT
                    clear KS KT
                    clear x0 x2 x3 xp hlx hcx
                    refine wp_region_held_drew (S := (fun w' => Below w3.heap.size w3 w' ∧ w'.cell? ⟨w1.heap.size, 0, none⟩ = some (.pointer (some ⟨hw, 0, none⟩)) ∧ w'.cell? ⟨w1.heap.size, 1, none⟩ = some (.int .i64 (c : Nat)) ∧ w'.cell? ⟨nb, 2, none⟩ = some (.int .i64 (V.cv c).ra) ∧ w'.cell? ⟨hw, 3, none⟩ = some (.slice (some ⟨a.ga, a.og, none⟩) V.gn a.gc) ∧ w'.cell? ⟨a.ga, a.og + g * 14 + 1, none⟩ = some (.int .i64 (pN V g : Nat)) ∧ w'.cell? ⟨a.sb g, a.so g + c * 5 + 2, none⟩ = some (.int .i64 ((V.gv g).s2 c)) ∧ w'.cell? ⟨a.sb g, a.so g + c * 5 + 3, none⟩ = some (.int .i64 ((V.gv g).s3 c)) ∧ w'.cell? ⟨a.sb (pN V g), a.so (pN V g) + c * 5, none⟩ = some (.int .i64 ((V.gv (pN V g)).s0 c)))) (by kernel_rfl) (HKS.out _ (Below.refl _ _).drew) (fun hH => ?_)
                    refine rgT 0 ?_ ?_ hH ?_; rotate_left; · (intro w s; (try dsimp only at s); go_simp; try with_reducible rfl)
                    try simp only [rgp, rg0, rg1]
                    refine rgT 1 ?_ ?_ hH ?_; rotate_left; · (intro w s; (try dsimp only at s); go_simp; try with_reducible rfl)
                    try simp only [rgp, rg0, rg1]
                    refine rgT 2 ?_ ?_ hH ?_; rotate_left; · (intro w s; (try dsimp only at s); go_simp; try with_reducible rfl)
                    try simp only [rgp, rg0, rg1]
                    refine rgT 3 ?_ ?_ hH ?_; rotate_left; · (intro w s; (try dsimp only at s); go_simp; try with_reducible rfl)
                    try simp only [rgp, rg0, rg1]
                    refine rgT 4 ?_ ?_ hH ?_; rotate_left; · (intro w s; (try dsimp only at s); go_simp; try with_reducible rfl)
                    try simp only [rgp, rg0, rg1]
                    refine rgT 5 ?_ ?_ hH ?_; rotate_left; · (intro w s; (try dsimp only at s); go_simp; try with_reducible rfl)
                    try simp only [rgp, rg0, rg1]
                    refine rgT 6 ?_ ?_ hH ?_; rotate_left; · (intro w s; (try dsimp only at s); go_simp; try with_reducible rfl)
                    try simp only [rgp, rg0, rg1]
                    refine rgT 7 ?_ ?_ hH ?_; rotate_left; · (intro w s; (try dsimp only at s); go_simp; try with_reducible rfl)
                    try simp only [rgp, rg0, rg1]
                    refine rgT 8 ?_ ?_ hH ?_; rotate_left; · (intro w s; (try dsimp only at s); go_simp; try with_reducible rfl)
                    try simp only [rgp, rg0, rg1]
                    refine rgT 9 ?_ ?_ hH ?_; rotate_left; · (intro w s; (try dsimp only at s); go_simp; try with_reducible rfl)
                    try simp only [rgp, rg0, rg1]
                    refine rgT 10 ?_ ?_ hH ?_; rotate_left; · (intro w s; (try dsimp only at s); go_simp; try with_reducible rfl)
                    try simp only [rgp, rg0, rg1]
                    refine rgT 11 ?_ ?_ hH ?_; rotate_left; · (intro w s; (try dsimp only at s); go_simp; try with_reducible rfl)
                    try simp only [rgp, rg0, rg1]
                    refine rgT 12 ?_ ?_ hH ?_; rotate_left; · (intro w s; (try dsimp only at s); go_simp; try with_reducible rfl)
                    try simp only [rgp, rg0, rg1]
                    refine rgT 18 ?_ ?_ hH ?_; rotate_left; · (intro w s; (try dsimp only at s); go_simp; try with_reducible rfl)
                    try simp only [rgp, rg0, rg1]
                    refine rgT 19 ?_ ?_ hH ?_; rotate_left; · (intro w s; (try dsimp only at s); go_simp; try with_reducible rfl)
                    try simp only [rgp, rg0, rg1]
                    refine rgT 20 ?_ ?_ hH ?_; rotate_left; · (intro w s; (try dsimp only at s); go_simp; try with_reducible rfl)
                    try simp only [rgp, rg0, rg1]
                    refine rgT 21 ?_ ?_ hH ?_; rotate_left; · (intro w s; (try dsimp only at s); go_simp; try with_reducible rfl)
                    try simp only [rgp, rg0, rg1]
                    refine rgT 22 ?_ ?_ hH ?_; rotate_left; · (intro w s; (try dsimp only at s); go_simp; try with_reducible rfl)
                    try simp only [rgp, rg0, rg1]
                    refine rgT 23 ?_ ?_ hH ?_; rotate_left; · (intro w s; (try dsimp only at s); go_simp; try with_reducible rfl)
                    try simp only [rgp, rg0, rg1]
                    refine rgS 13 (fun K hK => ?_)
                    go_simp
                    (go_at_call 62; refine (HSP.out _ (hbx.trans (hH.1.mono hbx.size))).mono ?_; rintro e wv1 ⟨rfl, hbb1⟩)
                    go_wp2_with fail
                    refine hK.out _ _ (HKT.out _ _ hH hbb1) (fun hH_1 => ?_)
                    clear hK K
                    try simp only [rgp, rgn, rg0, rg1]
                    refine rgT 14 ?_ ?_ hH_1 ?_; rotate_left; · (intro w s; (try dsimp only at s); go_simp; try with_reducible rfl)
                    try simp only [rgp, rg0, rg1]
                    refine rgT 15 ?_ ?_ hH_1 ?_; rotate_left; · (intro w s; (try dsimp only at s); go_simp; try with_reducible rfl)
                    try simp only [rgp, rg0, rg1]
                    refine rgT 16 ?_ ?_ hH_1 ?_; rotate_left; · (intro w s; (try dsimp only at s); go_simp; try with_reducible rfl)
                    try simp only [rgp, rg0, rg1]
                    refine rgT 17 ?_ ?_ hH_1 ?_; rotate_left; · (intro w s; (try dsimp only at s); go_simp; try with_reducible rfl)
                    try simp only [rgp, rg0, rg1]
                    refine rgS 24 (fun K hK => ?_)
                    go_simp
                    (go_at_call 95; refine (iVirtualStep_any _ _ _ _ (Below.refl _ _)).mono ?_; rintro e wv2 ⟨rfl, hbb2⟩)
                    go_wp2_with fail
                    refine hK.out _ _ (HKT.out _ _ hH_1 hbb2) (fun hH_2 => ?_)
                    clear hK K
                    try simp only [rgp, rgn, rg0, rg1]
                    refine rgT 25 ?_ ?_ hH_2 ?_; rotate_left; · (intro w s; (try dsimp only at s); go_simp; try with_reducible rfl)
                    try simp only [rgp, rg0, rg1]
                    refine wpAnyH_done (by kernel_rfl) ?_ _
                    go_wp2
                    go_meet
                    exact ⟨by rw [HW.out]; exact congrArg Value.bool (decGt _ _), hH_2.1⟩
                  case rest =>
                    obtain ⟨rfl, HXX⟩ := hcut
                    rename World => wg
                    have hbx := HB.out.trans (hb3.mono hz)
                    have HBG : Hid (Below w.heap.size w wg) := hbx.trans (HXX.out.mono hbx.size)
                    have HLG : Hid (Bk wg w1.heap.size 51 #[.pointer (some ⟨hw, 0, none⟩), .int .i64 (c : Nat)]) := (HL.out.below hb3 HL.out.lt).below HXX.out (HL.out.below hb3 HL.out.lt).lt
                    have HCG : Hid (Bk wg nb 61 #[.bool (V.cv c).up, .int .i64 (V.cv c).cu, .int .i64 (V.cv c).ra, .int .i64 (V.cv c).bu, .int .i64 (V.cv c).id]) := (HC.out.below hb3 HC.out.lt).below HXX.out (HC.out.below hb3 HC.out.lt).lt
                    have j3 := (HBG.out.cell (p := ⟨hw, 3, none⟩) hkl).trans k3
                    have jp := (HBG.out.cell (p := ⟨a.ga, a.og + g * 14 + 1, none⟩) hgl).trans xp
                    clear hbx HXX hb3 x0 x2 x3 xp l0 l1 HW HSG HSP HB HL HC hz
                    cases hD : decide ((V.gv g).s2 c - (V.gv (pN V g)).s0 c ≤ virtualStep (V.cv c).ra ((V.gv g).s3 c))
                    · have HN := Lib.hid (HEN.out (HSY.out.trans (HSTG.out.trans (by rw [hD]; rfl))))
                      clear hD
                      go_wp2
                      go_ret
                      exact ⟨ret_boolB HN.out.symm, HBG.out⟩
                    · have HN : Hid (styB V c (V.cv c).ra G = styB V c (V.cv c).ra (pN V g)) := HSY.out.trans (HSTG.out.trans (by rw [hD]; rfl))
                      clear hD
                      go_wp2
                      go_roundw
                      case rel =>
                        repeat apply Exists.intro
                        refine ⟨?_, rfl⟩
                        exact ⟨pN V g, p2, p3, by go_num, HN, HLG, HCG, HBG⟩
                      case measure => simp [intOf]; omega
    · obtain rfl : c = V.cn := by omega
      go_wp2
      go_ret
      exact ⟨ret_boolB HA.out.symm, HB.out⟩
end Go.Proofs.YtndbmeedimhohaaGreat

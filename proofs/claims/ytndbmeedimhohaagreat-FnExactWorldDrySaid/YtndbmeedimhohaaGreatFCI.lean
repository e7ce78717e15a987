/- Worlds: time left: the walk (printed by mkv.py). -/
import Derived.Test.YtndbmeedimhohaaGreatFCH
namespace Go.Proofs.YtndbmeedimhohaaGreat
open Go.RowKit
set_option maxHeartbeats 4000000 in
set_option maxRecDepth 100000 in
theorem room_any (V : WV) (T : Tree V) (a : WA) (hw : Nat) (hcn : V.cn ≤ 4) (htn : V.tn ≤ 1048576) (hG : allTo (groupI V) V.gn = true) (w : World) (hk : Bk w hw 33 #[.int .i64 V.now, .slice (some ⟨a.ca, a.oc, none⟩) V.cn a.cc, .slice (some ⟨a.ta, a.ot, none⟩) V.tn a.tc, .slice (some ⟨a.ga, a.og, none⟩) V.gn a.gc]) (m : MR w V a) :
    Calls Tryz.prog 38 #[.pointer (some ⟨hw, 0, none⟩)] w fun e w' => e = .returned (.bool (roomB V)) ∧ Below w.heap.size w w' := by
  obtain ⟨k0, k1, k2, k3⟩ := hk.four
  have hkl := hk.lt
  have hcl := m.cl
  have hgl := m.gl
  have htl := m.tl
  have HN8 := Lib.hid T.n8
  have h8 : V.gn ≤ 1048576 := by have := HN8.out; omega
  have HM := Lib.hid m
  have HGG := Lib.hid hG
  have HRR : Hid (roomB V = (half V.now && allTo (cpuR V) V.cn && allTo (taskR V) V.tn && allTo (groupR V) V.gn)) := rfl
  obtain ⟨R, hR⟩ : ∃ R, R = roomB V := ⟨_, rfl⟩
  rw [← hR] at HRR ⊢
  clear hk m T hG hR
  go_enter Tryz.func38, Tryz.ntmps38
  go_wp2_with (go_at_call 69; refine (early_one _ _ _ _ _ (by simp)).mono ?_; rintro e w9 ⟨rfl, rfl⟩)
  go_loopw [3, 23] (fun o i wr => ∃ k : Nat, k ≤ V.cn ∧ i = .int .i64 k ∧ o = .bool (half V.now && allTo (cpuR V) k) ∧ Hid (Below w.heap.size w wr)) (fun _ i _ => V.cn - (intOf i).toNat)
  case atStart => exact ⟨0, Nat.zero_le _, rfl, by simp [allTo], (Below.refl _ w).alloc (Nat.le_refl _) _⟩
  case round =>
    obtain ⟨k, hk, rfl, rfl, HB⟩ := hrel
    have hz := HB.out.size
    by_cases hlt : k < V.cn
    · have hr : Hid (wr.rangeAt a.ca (a.oc + k * 5) [.bool (V.cv k).up, .int .i64 (V.cv k).cu, .int .i64 (V.cv k).ra, .int .i64 (V.cv k).bu, .int .i64 (V.cv k).id]) := rangeAt_below (HM.out.c k hlt) HB.out hcl
      cases hb : (half V.now && allTo (cpuR V) k)
      · have HN : Hid (false = (half V.now && allTo (cpuR V) (k + 1))) := by show false = _; rw [and_next hb]; rfl
        clear hb
        go_wp2_with (refine wpList_load_mid rfl 61 _ rfl a.ca (a.oc + k * 5) rfl _ _ (rangeAt_below hr.out (B := w.heap.size) (by go_grown) hcl) Tryz.underlying61 rfl (by kernel_rfl) ?_)
        go_roundw
        case rel => exact ⟨k + 1, by omega, by go_num, congrArg Value.bool HN.out, HB.out.alloc hz _⟩
        case measure => simp [intOf]; omega
      · have HN : Hid (half2 (V.cv k).bu (V.cv k).id = (half V.now && allTo (cpuR V) (k + 1))) := by show _ = _; rw [and_next hb]; rfl
        clear hb
        go_wp2_with (first | (refine wpList_load_mid rfl 61 _ rfl a.ca (a.oc + k * 5) rfl _ _ (rangeAt_below hr.out (B := w.heap.size) (by go_grown) hcl) Tryz.underlying61 rfl (by kernel_rfl) ?_) | (go_at_call 69; refine (early_two _ _ _ _ _ _ (by simp)).mono ?_; rintro e w9 ⟨rfl, rfl⟩))
        go_roundw
        case rel => exact ⟨k + 1, by omega, by go_num, congrArg Value.bool HN.out, (HB.out.alloc hz _).alloc (by simp; omega) _⟩
        case measure => simp [intOf]; omega
    · obtain rfl : k = V.cn := by omega
      have j2 := (HB.out.cell (p := ⟨hw, 2, none⟩) hkl).trans k2
      obtain ⟨p, hp⟩ : ∃ p, p = (half V.now && allTo (cpuR V) V.cn) := ⟨_, rfl⟩
      rw [← hp] at HRR ⊢
      clear hp
      go_wp2
      go_loopw [3, 42] (fun o i wr => ∃ k : Nat, k ≤ V.tn ∧ i = .int .i64 k ∧ o = .bool (p && allTo (taskR V) k) ∧ Hid (Below w.heap.size w wr)) (fun _ i _ => V.tn - (intOf i).toNat)
      case atStart => exact ⟨0, Nat.zero_le _, rfl, by simp [allTo], HB⟩
      case round =>
        clear hz HB j2
        obtain ⟨k, hk, rfl, rfl, HB⟩ := hrel
        have hz := HB.out.size
        by_cases hlt : k < V.tn
        · have hr : Hid (wr.rangeAt a.ta (a.ot + k * 9) [.int .i64 (V.tv k).st, .int .i64 (V.tv k).gr, .int .i64 (V.tv k).cp, .int .i64 (V.tv k).ni, .int .i64 (V.tv k).ma, .int .i64 (V.tv k).vv, .int .i64 (V.tv k).su, .int .i64 (V.tv k).us, .int .i64 (V.tv k).lo]) := rangeAt_below (HM.out.t k hlt) HB.out htl
          cases hb : (p && allTo (taskR V) k)
          · have HN : Hid (false = (p && allTo (taskR V) (k + 1))) := by show false = _; rw [and_next hb]; rfl
            clear hb
            have e0 := hr.out 0 _ rfl
            have e1 := hr.out 1 _ rfl
            have e2 := hr.out 2 _ rfl
            have e3 := hr.out 3 _ rfl
            have e4 := hr.out 4 _ rfl
            have e5 := hr.out 5 _ rfl
            have e6 := hr.out 6 _ rfl
            have e7 := hr.out 7 _ rfl
            have e8 := hr.out 8 _ rfl
            simp only [Nat.add_zero] at e0
            clear hr
            go_wp2
            go_roundw
            case rel => exact ⟨k + 1, by omega, by go_num, congrArg Value.bool HN.out, HB.out.alloc hz _⟩
            case measure => simp [intOf]; omega
          · have HN : Hid (half3 (V.tv k).vv (V.tv k).su (V.tv k).us = (p && allTo (taskR V) (k + 1))) := by show _ = _; rw [and_next hb]; rfl
            clear hb
            go_wp2_with (first | (refine wpList_load_mid rfl 54 _ rfl a.ta (a.ot + k * 9) rfl _ _ (rangeAt_below hr.out (B := w.heap.size) (by go_grown) htl) Tryz.underlying54 rfl (by kernel_rfl) ?_) | (go_at_call 69; refine (early_three _ _ _ _ _ _ _ (by simp)).mono ?_; rintro e w9 ⟨rfl, rfl⟩))
            go_roundw
            case rel => exact ⟨k + 1, by omega, by go_num, congrArg Value.bool HN.out, (HB.out.alloc hz _).alloc (by simp; omega) _⟩
            case measure => simp [intOf]; omega
        · obtain rfl : k = V.tn := by omega
          have j3 := (HB.out.cell (p := ⟨hw, 3, none⟩) hkl).trans k3
          obtain ⟨q, hq⟩ : ∃ q, q = (p && allTo (taskR V) V.tn) := ⟨_, rfl⟩
          rw [← hq] at HRR ⊢
          clear hq
          go_wp2
          go_loopw [3, 63] (fun o i wr => ∃ k : Nat, k ≤ V.gn ∧ i = .int .i64 k ∧ o = .bool (q && allTo (groupR V) k) ∧ Hid (Below w.heap.size w wr)) (fun _ i _ => V.gn - (intOf i).toNat)
          case atStart => exact ⟨0, Nat.zero_le _, rfl, by simp [allTo], HB⟩
          case round =>
            clear hz HB j3
            obtain ⟨k, hk, rfl, rfl, HB⟩ := hrel
            have hz := HB.out.size
            by_cases hlt : k < V.gn
            · have hsn := sn_of HGG.out hlt
              have hr0 := rangeAt_below (HM.out.g k hlt) HB.out hgl
              obtain ⟨r, hr'⟩ : ∃ r, r = (q && allTo (groupR V) k) := ⟨_, rfl⟩
              have HRX : Hid ((q && allTo (groupR V) (k + 1)) = (r && (half (V.gv k).su && allTo (shelfR V k) (V.gv k).sn))) := by show _ = _; rw [and_next hr'.symm]; rfl
              rw [← hr']
              clear hr'
              rcases Nat.eq_zero_or_pos (V.gv k).sn with h0 | h0
              · have hr : Hid (wr.rangeAt a.ga (a.og + k * 14) [.bool (V.gv k).us, .int .i64 (V.gv k).pa, .string (V.gv k).nm, .int .i64 (V.gv k).we, .int .i64 (V.gv k).cp, .int .i64 (V.gv k).pe, .int .i64 (V.gv k).ne, .int .i64 (V.gv k).su, .int .i64 (V.gv k).qu, .int .i64 (V.gv k).po, .int .i64 (V.gv k).sp, .slice (a.gh k).la (V.gv k).ln (a.gh k).lc, .slice (a.gh k).da (V.gv k).dn (a.gh k).dc, .slice (a.gh k).sa 0 (a.gh k).sc]) := by have := hr0; simp only [grC, h0] at this; exact this
                rw [h0] at HRX
                clear hr0 hsn h0
                cases r
                · go_wp2_with (refine wpList_load_mid rfl 68 _ rfl a.ga (a.og + k * 14) rfl _ _ (rangeAt_below hr.out (B := w.heap.size) (by go_grown) hgl) Tryz.underlying68 rfl (by kernel_rfl) ?_)
                  refine wp_loop_rounds 1 ?_
                  rw [rounds_succ]
                  go_wp2
                  go_roundw
                  case rel => exact ⟨k + 1, by omega, by go_num, congrArg Value.bool (by rw [HRX.out]; rfl), HB.out.alloc hz _⟩
                  case measure => simp [intOf]; omega
                · go_wp2_with (first | (refine wpList_load_mid rfl 68 _ rfl a.ga (a.og + k * 14) rfl _ _ (rangeAt_below hr.out (B := w.heap.size) (by go_grown) hgl) Tryz.underlying68 rfl (by kernel_rfl) ?_) | (go_at_call 69; refine (early_one _ _ _ _ _ (by simp)).mono ?_; rintro e w9 ⟨rfl, rfl⟩))
                  refine wp_loop_rounds 1 ?_
                  rw [rounds_succ]
                  go_wp2
                  go_roundw
                  case rel => exact ⟨k + 1, by omega, by go_num, congrArg Value.bool (by rw [HRX.out]; simp [allTo]), (HB.out.alloc hz _).alloc (by simp; omega) _⟩
                  case measure => simp [intOf]; omega
              · obtain ⟨s1, s2, s3⟩ := HM.out.s k hlt h0
                have HS3 := Lib.hid s3
                have h9 : (V.gv k).sn ≤ 1048576 := by split at hsn <;> omega
                have hr : Hid (wr.rangeAt a.ga (a.og + k * 14) [.bool (V.gv k).us, .int .i64 (V.gv k).pa, .string (V.gv k).nm, .int .i64 (V.gv k).we, .int .i64 (V.gv k).cp, .int .i64 (V.gv k).pe, .int .i64 (V.gv k).ne, .int .i64 (V.gv k).su, .int .i64 (V.gv k).qu, .int .i64 (V.gv k).po, .int .i64 (V.gv k).sp, .slice (a.gh k).la (V.gv k).ln (a.gh k).lc, .slice (a.gh k).da (V.gv k).dn (a.gh k).dc, .slice (some ⟨a.sb k, a.so k, none⟩) (V.gv k).sn (a.gh k).sc]) := by have := hr0; simp only [grC, s1] at this; exact this
                clear hr0 hsn s3 s1
                have e0 := hr.out 0 _ rfl
                have e1 := hr.out 1 _ rfl
                have e2 := hr.out 2 _ rfl
                have e3 := hr.out 3 _ rfl
                have e4 := hr.out 4 _ rfl
                have e5 := hr.out 5 _ rfl
                have e6 := hr.out 6 _ rfl
                have e7 := hr.out 7 _ rfl
                have e8 := hr.out 8 _ rfl
                have e9 := hr.out 9 _ rfl
                have e10 := hr.out 10 _ rfl
                have e11 := hr.out 11 _ rfl
                have e12 := hr.out 12 _ rfl
                have e13 := hr.out 13 _ rfl
                simp only [Nat.add_zero] at e0
                go_upto_region 15 with (fail)
                clear e0 e1 e2 e3 e4 e5 e6 e7 e8 e9 e10 e11 e12 e13 hr
                have hkx : Bk (wr.alloc (.cells #[.bool (V.gv k).us, .int .i64 (V.gv k).pa, .string (V.gv k).nm, .int .i64 (V.gv k).we, .int .i64 (V.gv k).cp, .int .i64 (V.gv k).pe, .int .i64 (V.gv k).ne, .int .i64 (V.gv k).su, .int .i64 (V.gv k).qu, .int .i64 (V.gv k).po, .int .i64 (V.gv k).sp, .slice (a.gh k).la (V.gv k).ln (a.gh k).lc, .slice (a.gh k).da (V.gv k).dn (a.gh k).dc, .slice (some ⟨a.sb k, a.so k, none⟩) (V.gv k).sn (a.gh k).sc] 68)) wr.heap.size 68 #[.bool (V.gv k).us, .int .i64 (V.gv k).pa, .string (V.gv k).nm, .int .i64 (V.gv k).we, .int .i64 (V.gv k).cp, .int .i64 (V.gv k).pe, .int .i64 (V.gv k).ne, .int .i64 (V.gv k).su, .int .i64 (V.gv k).qu, .int .i64 (V.gv k).po, .int .i64 (V.gv k).sp, .slice (a.gh k).la (V.gv k).ln (a.gh k).lc, .slice (a.gh k).da (V.gv k).dn (a.gh k).dc, .slice (some ⟨a.sb k, a.so k, none⟩) (V.gv k).sn (a.gh k).sc] := Bk.new _ _ _
                have hbx := HB.out.alloc hz (.cells #[.bool (V.gv k).us, .int .i64 (V.gv k).pa, .string (V.gv k).nm, .int .i64 (V.gv k).we, .int .i64 (V.gv k).cp, .int .i64 (V.gv k).pe, .int .i64 (V.gv k).ne, .int .i64 (V.gv k).su, .int .i64 (V.gv k).qu, .int .i64 (V.gv k).po, .int .i64 (V.gv k).sp, .slice (a.gh k).la (V.gv k).ln (a.gh k).lc, .slice (a.gh k).da (V.gv k).dn (a.gh k).dc, .slice (some ⟨a.sb k, a.so k, none⟩) (V.gv k).sn (a.gh k).sc] 68)
                generalize (wr.alloc (.cells #[.bool (V.gv k).us, .int .i64 (V.gv k).pa, .string (V.gv k).nm, .int .i64 (V.gv k).we, .int .i64 (V.gv k).cp, .int .i64 (V.gv k).pe, .int .i64 (V.gv k).ne, .int .i64 (V.gv k).su, .int .i64 (V.gv k).qu, .int .i64 (V.gv k).po, .int .i64 (V.gv k).sp, .slice (a.gh k).la (V.gv k).ln (a.gh k).lc, .slice (a.gh k).da (V.gv k).dn (a.gh k).dc, .slice (some ⟨a.sb k, a.so k, none⟩) (V.gv k).sn (a.gh k).sc] 68)) = wq at hkx hbx ⊢
                have b7 := hkx.cell 7
                have HKX := Lib.hid hkx
                have HBX := Lib.hid hbx
                clear hkx hbx
                go_cut [3] from 64 to 93 (fun o wx => o = .bool (r && half (V.gv k).su) ∧ Hid (Below wq.heap.size wq wx))
                case first =>
                  cases r
                  · go_wp2
                    go_meet
                    exact ⟨rfl, Below.refl _ _⟩
                  · go_wp2_with (go_at_call 69; refine (early_one _ _ _ _ _ (by simp)).mono ?_; rintro e w9 ⟨rfl, rfl⟩)
                    go_meet
                    exact ⟨rfl, (Below.refl _ _).alloc (Nat.le_refl _) _⟩
                case rest =>
                  obtain ⟨rfl, HXX⟩ := hcut
                  have b13 := (HKX.out.below HXX.out HKX.out.lt).cell 13
                  have HBY : Hid (Below w.heap.size w wc) := HBX.out.trans (HXX.out.mono HBX.out.size)
                  clear HXX HBX HKX b7 HB hz
                  obtain ⟨y, hy⟩ : ∃ y, y = (r && half (V.gv k).su) := ⟨_, rfl⟩
                  rw [← Bool.and_assoc, ← hy] at HRX
                  rw [← hy]
                  clear hy
                  go_wp2
                  go_loopw [3, 77] (fun o i wr => ∃ j : Nat, j ≤ (V.gv k).sn ∧ i = .int .i64 j ∧ o = .bool (y && allTo (shelfR V k) j) ∧ Hid (Below w.heap.size w wr)) (fun _ i _ => (V.gv k).sn - (intOf i).toNat)
                  case atStart => exact ⟨0, Nat.zero_le _, rfl, by simp [allTo], HBY⟩
                  case round =>
                    clear HBY b13
                    obtain ⟨j, hj, rfl, rfl, HB⟩ := hrel
                    have hz := HB.out.size
                    by_cases hjt : j < (V.gv k).sn
                    · have hs : Hid (wr.rangeAt (a.sb k) (a.so k + j * 5) [.int .i64 ((V.gv k).s0 j), .bool ((V.gv k).s1 j), .int .i64 ((V.gv k).s2 j), .int .i64 ((V.gv k).s3 j), .int .i64 ((V.gv k).s4 j)]) := rangeAt_below (HS3.out j hjt) HB.out s2
                      have e0 := hs.out 0 _ rfl
                      have e1 := hs.out 1 _ rfl
                      have e2 := hs.out 2 _ rfl
                      have e3 := hs.out 3 _ rfl
                      have e4 := hs.out 4 _ rfl
                      simp only [Nat.add_zero] at e0
                      clear hs
                      cases hb : (y && allTo (shelfR V k) j)
                      · have HN : Hid (false = (y && allTo (shelfR V k) (j + 1))) := by show false = _; rw [and_next hb]; rfl
                        clear hb
                        go_wp2
                        go_roundw
                        case rel => exact ⟨j + 1, by omega, by go_num, congrArg Value.bool HN.out, HB.out.alloc hz _⟩
                        case measure => simp [intOf]; omega
                      · have HN : Hid (half3 ((V.gv k).s0 j) ((V.gv k).s2 j) ((V.gv k).s4 j) = (y && allTo (shelfR V k) (j + 1))) := by show _ = _; rw [and_next hb]; rfl
                        clear hb
                        go_wp2_with (go_at_call 69; refine (early_three _ _ _ _ _ _ _ (by simp)).mono ?_; rintro e w9 ⟨rfl, rfl⟩)
                        go_roundw
                        case rel => exact ⟨j + 1, by omega, by go_num, congrArg Value.bool HN.out, (HB.out.alloc hz _).alloc (by simp; omega) _⟩
                        case measure => simp [intOf]; omega
                    · obtain rfl : j = (V.gv k).sn := by omega
                      go_wp2
                      go_roundw
                      case rel => exact ⟨k + 1, by omega, by go_num, congrArg Value.bool (by rw [HRX.out]), HB⟩
                      case measure => simp [intOf]; omega
            · obtain rfl : k = V.gn := by omega
              go_wp2
              go_ret
              exact ⟨ret_boolB HRR.out.symm, HB.out⟩
end Go.Proofs.YtndbmeedimhohaaGreat
namespace Go.Proofs.YtndbmeedimhohaaGreat
open Go.RowKit
set_option maxHeartbeats 4000000 in
set_option maxRecDepth 100000 in
theorem worldI_facts {V : WV} (h : worldI V = true) : shapeB V = true ∧ allTo (groupI V) V.gn = true ∧ allTo (taskI V) V.tn = true ∧ True := by
  unfold worldI at h
  simp only [Bool.and_eq_true] at h
  exact ⟨h.1.1.1.1, h.1.1.1.2.1, h.1.1.2, trivial⟩
set_option maxHeartbeats 4000000 in
set_option maxRecDepth 100000 in
theorem task_used2 {V : WV} (h : allTo (taskI V) V.tn = true) {t : Nat} (ht : t < V.tn) (hs : (V.tv t).st ≠ 0) : usedB (fun i => (V.gv i).us) V.gn (V.tv t).gr = true ∧ 0 ≤ (V.tv t).cp ∧ (V.tv t).cp.toNat < V.cn := by
  have h1 := allTo_at _ t _ ht h
  unfold taskI at h1
  have hz : zeroT (V.tv t) = false := by simp [zeroT, hs]
  rw [hz, Bool.false_or, Bool.and_eq_true, Bool.and_eq_true] at h1
  obtain ⟨⟨h2, h3⟩, _⟩ := h1
  simp only [headT, Bool.and_eq_true] at h2
  exact ⟨h2.1.1.1.2, where_lt (numT_t h3).2⟩
def maskR (V : WV) (t : Int) : Int := if worldI V && thereB V t then whereM V (V.tv t.toNat).gr.toNat (V.tv t.toNat).ma else 0
def lineR (V : WV) (t : Int) : Bool := worldI V && (thereB V t && inlS V t.toNat)
def dryR (V : WV) (g c : Int) : Bool := worldI V && (usedB (fun i => (V.gv i).us) V.gn g && (inR c 0 ((V.cn : Int) - 1) && dryB V g.toNat c.toNat))
def roomR (V : WV) : Bool := worldI V && roomB V
set_option maxHeartbeats 4000000 in
set_option maxRecDepth 100000 in
theorem iWorldRoom_any (V : WV) (h : WH) (hl : WLen V) (hF : V.gn = 8 → Flds (fun i => (V.gv i).us) (fun i => (V.gv i).pa) (fun i => (V.gv i).nm)) (w : World) (hr : WRd w w.heap.size V h) :
    Calls Tryz.prog 16 #[.agg #[.int .i64 V.now, .slice h.ca V.cn h.cc, .slice h.ta V.tn h.tc, .slice h.ga V.gn h.gc]] w fun e w' => e = .returned (.bool (roomR V)) ∧ Below w.heap.size w w' := by
  have hkx : Bk (w.alloc (.cells #[.int .i64 V.now, .slice h.ca V.cn h.cc, .slice h.ta V.tn h.tc, .slice h.ga V.gn h.gc] 33)) w.heap.size 33 #[.int .i64 V.now, .slice h.ca V.cn h.cc, .slice h.ta V.tn h.tc, .slice h.ga V.gn h.gc] := Bk.new w _ _
  have hbx : Below w.heap.size w (w.alloc (.cells #[.int .i64 V.now, .slice h.ca V.cn h.cc, .slice h.ta V.tn h.tc, .slice h.ga V.gn h.gc] 33)) := (Below.refl _ w).alloc (Nat.le_refl _) _
  have HOK : Hid (Calls Tryz.prog 18 #[.agg #[.int .i64 V.now, .slice h.ca V.cn h.cc, .slice h.ta V.tn h.tc, .slice h.ga V.gn h.gc]] (w.alloc (.cells #[.int .i64 V.now, .slice h.ca V.cn h.cc, .slice h.ta V.tn h.tc, .slice h.ga V.gn h.gc] 33)) fun e w' => e = .returned (.bool (worldI V)) ∧ Below ((w.alloc (.cells #[.int .i64 V.now, .slice h.ca V.cn h.cc, .slice h.ta V.tn h.tc, .slice h.ga V.gn h.gc] 33))).heap.size (w.alloc (.cells #[.int .i64 V.now, .slice h.ca V.cn h.cc, .slice h.ta V.tn h.tc, .slice h.ga V.gn h.gc] 33)) w') := iWorldOk_any V h hl hF _ (hr.at_ hbx)
  have HFA : Hid (worldI V = true → ∃ a : WA, MR (w.alloc (.cells #[.int .i64 V.now, .slice h.ca V.cn h.cc, .slice h.ta V.tn h.tc, .slice h.ga V.gn h.gc] 33)) V a ∧ (#[.int .i64 V.now, .slice h.ca V.cn h.cc, .slice h.ta V.tn h.tc, .slice h.ga V.gn h.gc] : Array Value) = #[.int .i64 V.now, .slice (some ⟨a.ca, a.oc, none⟩) V.cn a.cc, .slice (some ⟨a.ta, a.ot, none⟩) V.tn a.tc, .slice (some ⟨a.ga, a.og, none⟩) V.gn a.gc] ∧ Tree V ∧ V.cn ≤ 4 ∧ V.tn ≤ 1048576 ∧ allTo (groupI V) V.gn = true ∧ allTo (taskI V) V.tn = true) := fun ho => by
    obtain ⟨f1, f2, f3, _⟩ := worldI_facts ho
    obtain ⟨_, ⟨c1, c4⟩, t12, T⟩ := shape_tree f1
    have n8 := T.n8
    obtain ⟨a, m, he⟩ := MR.of2 (hr.at_ hbx) (by omega) (by omega) (by omega)
    exact ⟨a, m, he, T, c4, by omega, f2, f3⟩
  have HKX := Lib.hid hkx
  clear hl hF hr hkx
  cases ho : worldI V
  · rw [ho] at HOK
    go_enter Tryz.func16, Tryz.ntmps16
    go_wp2_with (go_at_call 18; refine HOK.out.mono ?_; rintro e w1 ⟨rfl, hb1⟩)
    go_ret
    exact ⟨ret_boolB (by simp [roomR, ho]), hbx.trans (hb1.mono hbx.size)⟩
  rw [ho] at HOK
  obtain ⟨a, m, he, T, hc4, htn, hG, hTK⟩ := HFA.out ho
  have HKA : Hid (Bk (w.alloc (.cells #[.int .i64 V.now, .slice h.ca V.cn h.cc, .slice h.ta V.tn h.tc, .slice h.ga V.gn h.gc] 33)) w.heap.size 33 #[.int .i64 V.now, .slice (some ⟨a.ca, a.oc, none⟩) V.cn a.cc, .slice (some ⟨a.ta, a.ot, none⟩) V.tn a.tc, .slice (some ⟨a.ga, a.og, none⟩) V.gn a.gc]) := Lib.hid (Eq.mp (congrArg (Bk (w.alloc (.cells #[.int .i64 V.now, .slice h.ca V.cn h.cc, .slice h.ta V.tn h.tc, .slice h.ga V.gn h.gc] 33)) w.heap.size 33) he) HKX.out)
  have HM := Lib.hid m
  have HT := Lib.hid T
  have HGG := Lib.hid hG
  have HTK := Lib.hid hTK
  clear m he T hG hTK HFA
  have HRM : Hid (∀ y, Below ((w.alloc (.cells #[.int .i64 V.now, .slice h.ca V.cn h.cc, .slice h.ta V.tn h.tc, .slice h.ga V.gn h.gc] 33))).heap.size (w.alloc (.cells #[.int .i64 V.now, .slice h.ca V.cn h.cc, .slice h.ta V.tn h.tc, .slice h.ga V.gn h.gc] 33)) y → Calls Tryz.prog 38 #[.pointer (some ⟨w.heap.size, 0, none⟩)] y fun e w' => e = .returned (.bool (roomB V)) ∧ Below y.heap.size y w') := fun y hy => room_any V HT.out a _ hc4 htn HGG.out y (HKA.out.below hy HKA.out.lt) (HM.out.below hy)
  go_enter Tryz.func16, Tryz.ntmps16
  go_wp2_with (first | (go_at_call 18; refine HOK.out.mono ?_; rintro e w1 ⟨rfl, hb1⟩) | (go_at_call 38; refine (HRM.out _ hb1).mono ?_; rintro e w2 ⟨rfl, hb2⟩))
  go_ret
  exact ⟨ret_boolB (by simp [roomR, ho]), hbx.trans ((hb1.trans (hb2.mono hb1.size)).mono hbx.size)⟩
set_option maxHeartbeats 4000000 in
set_option maxRecDepth 100000 in
theorem iWorldMask_any (V : WV) (h : WH) (hl : WLen V) (hF : V.gn = 8 → Flds (fun i => (V.gv i).us) (fun i => (V.gv i).pa) (fun i => (V.gv i).nm)) (t : Int) (w : World) (hr : WRd w w.heap.size V h) :
    Calls Tryz.prog 14 #[.agg #[.int .i64 V.now, .slice h.ca V.cn h.cc, .slice h.ta V.tn h.tc, .slice h.ga V.gn h.gc], .int .i64 t] w fun e w' => e = .returned (.int .i64 (maskR V t)) ∧ Below w.heap.size w w' := by
  have hkx : Bk (w.alloc (.cells #[.int .i64 V.now, .slice h.ca V.cn h.cc, .slice h.ta V.tn h.tc, .slice h.ga V.gn h.gc] 33)) w.heap.size 33 #[.int .i64 V.now, .slice h.ca V.cn h.cc, .slice h.ta V.tn h.tc, .slice h.ga V.gn h.gc] := Bk.new w _ _
  have hbx : Below w.heap.size w (w.alloc (.cells #[.int .i64 V.now, .slice h.ca V.cn h.cc, .slice h.ta V.tn h.tc, .slice h.ga V.gn h.gc] 33)) := (Below.refl _ w).alloc (Nat.le_refl _) _
  have HOK : Hid (Calls Tryz.prog 18 #[.agg #[.int .i64 V.now, .slice h.ca V.cn h.cc, .slice h.ta V.tn h.tc, .slice h.ga V.gn h.gc]] (w.alloc (.cells #[.int .i64 V.now, .slice h.ca V.cn h.cc, .slice h.ta V.tn h.tc, .slice h.ga V.gn h.gc] 33)) fun e w' => e = .returned (.bool (worldI V)) ∧ Below ((w.alloc (.cells #[.int .i64 V.now, .slice h.ca V.cn h.cc, .slice h.ta V.tn h.tc, .slice h.ga V.gn h.gc] 33))).heap.size (w.alloc (.cells #[.int .i64 V.now, .slice h.ca V.cn h.cc, .slice h.ta V.tn h.tc, .slice h.ga V.gn h.gc] 33)) w') := iWorldOk_any V h hl hF _ (hr.at_ hbx)
  have HFA : Hid (worldI V = true → ∃ a : WA, MR (w.alloc (.cells #[.int .i64 V.now, .slice h.ca V.cn h.cc, .slice h.ta V.tn h.tc, .slice h.ga V.gn h.gc] 33)) V a ∧ (#[.int .i64 V.now, .slice h.ca V.cn h.cc, .slice h.ta V.tn h.tc, .slice h.ga V.gn h.gc] : Array Value) = #[.int .i64 V.now, .slice (some ⟨a.ca, a.oc, none⟩) V.cn a.cc, .slice (some ⟨a.ta, a.ot, none⟩) V.tn a.tc, .slice (some ⟨a.ga, a.og, none⟩) V.gn a.gc] ∧ Tree V ∧ V.cn ≤ 4 ∧ V.tn ≤ 1048576 ∧ allTo (groupI V) V.gn = true ∧ allTo (taskI V) V.tn = true) := fun ho => by
    obtain ⟨f1, f2, f3, _⟩ := worldI_facts ho
    obtain ⟨_, ⟨c1, c4⟩, t12, T⟩ := shape_tree f1
    have n8 := T.n8
    obtain ⟨a, m, he⟩ := MR.of2 (hr.at_ hbx) (by omega) (by omega) (by omega)
    exact ⟨a, m, he, T, c4, by omega, f2, f3⟩
  have HKX := Lib.hid hkx
  clear hl hF hr hkx
  cases ho : worldI V
  · rw [ho] at HOK
    go_enter Tryz.func14, Tryz.ntmps14
    go_wp2_with (go_at_call 18; refine HOK.out.mono ?_; rintro e w1 ⟨rfl, hb1⟩)
    go_ret
    exact ⟨by simp [maskR, ho], hbx.trans (hb1.mono hbx.size)⟩
  rw [ho] at HOK
  obtain ⟨a, m, he, T, hc4, htn, hG, hTK⟩ := HFA.out ho
  have HKA : Hid (Bk (w.alloc (.cells #[.int .i64 V.now, .slice h.ca V.cn h.cc, .slice h.ta V.tn h.tc, .slice h.ga V.gn h.gc] 33)) w.heap.size 33 #[.int .i64 V.now, .slice (some ⟨a.ca, a.oc, none⟩) V.cn a.cc, .slice (some ⟨a.ta, a.ot, none⟩) V.tn a.tc, .slice (some ⟨a.ga, a.og, none⟩) V.gn a.gc]) := Lib.hid (Eq.mp (congrArg (Bk (w.alloc (.cells #[.int .i64 V.now, .slice h.ca V.cn h.cc, .slice h.ta V.tn h.tc, .slice h.ga V.gn h.gc] 33)) w.heap.size 33) he) HKX.out)
  have HM := Lib.hid m
  have HT := Lib.hid T
  have HGG := Lib.hid hG
  have HTK := Lib.hid hTK
  clear m he T hG hTK HFA
  have HTH : Hid (∀ y, Below ((w.alloc (.cells #[.int .i64 V.now, .slice h.ca V.cn h.cc, .slice h.ta V.tn h.tc, .slice h.ga V.gn h.gc] 33))).heap.size (w.alloc (.cells #[.int .i64 V.now, .slice h.ca V.cn h.cc, .slice h.ta V.tn h.tc, .slice h.ga V.gn h.gc] 33)) y → Calls Tryz.prog 29 #[.pointer (some ⟨w.heap.size, 0, none⟩), .int .i64 t] y fun e w' => e = .returned (.bool (thereB V t)) ∧ y = w') := fun y hy => taskThere_any V a _ t htn y (HKA.out.below hy HKA.out.lt) (HM.out.below hy)
  cases hth : thereB V t
  · rw [hth] at HTH
    go_enter Tryz.func14, Tryz.ntmps14
    go_wp2_with (first | (go_at_call 18; refine HOK.out.mono ?_; rintro e w1 ⟨rfl, hb1⟩) | (go_at_call 29; refine (HTH.out _ hb1).mono ?_; rintro e w2 ⟨rfl, rfl⟩))
    go_ret
    exact ⟨by simp [maskR, hth], hbx.trans (hb1.mono hbx.size)⟩
  rw [hth] at HTH
  obtain ⟨k, rfl, hk⟩ := there_t hth
  have hst : (V.tv k).st ≠ 0 := by simp only [thereB, Bool.and_eq_true, Int.toNat_natCast] at hth; simpa using hth.2
  obtain ⟨hu, _, _⟩ := task_used2 HTK.out hk hst
  have HAL : Hid (∀ y, Below ((w.alloc (.cells #[.int .i64 V.now, .slice h.ca V.cn h.cc, .slice h.ta V.tn h.tc, .slice h.ga V.gn h.gc] 33))).heap.size (w.alloc (.cells #[.int .i64 V.now, .slice h.ca V.cn h.cc, .slice h.ta V.tn h.tc, .slice h.ga V.gn h.gc] 33)) y → Calls Tryz.prog 36 #[.pointer (some ⟨w.heap.size, 0, none⟩), .int .i64 k] y fun e w' => e = .returned (.int .i64 (maskR V k)) ∧ Below y.heap.size y w') := fun y hy => by
    have := allowed_any V HT.out a w.heap.size k hk htn hu hc4 y (HKA.out.below hy HKA.out.lt) (HM.out.below hy)
    rw [show maskR V k = whereM V (V.tv k).gr.toNat (V.tv k).ma by simp [maskR, ho, hth]]
    exact this
  clear hst hu hth
  go_enter Tryz.func14, Tryz.ntmps14
  go_wp2_with (first | (go_at_call 18; refine HOK.out.mono ?_; rintro e w1 ⟨rfl, hb1⟩) | (go_at_call 29; refine (HTH.out _ hb1).mono ?_; rintro e w2 ⟨rfl, rfl⟩) | (go_at_call 36; refine (HAL.out _ hb1).mono ?_; rintro e w3 ⟨rfl, hb3⟩))
  go_ret
  exact ⟨rfl, hbx.trans ((hb1.trans (hb3.mono hb1.size)).mono hbx.size)⟩
set_option maxHeartbeats 4000000 in
set_option maxRecDepth 100000 in
theorem iWorldLine_any (V : WV) (h : WH) (hl : WLen V) (hF : V.gn = 8 → Flds (fun i => (V.gv i).us) (fun i => (V.gv i).pa) (fun i => (V.gv i).nm)) (t : Int) (w : World) (hr : WRd w w.heap.size V h) :
    Calls Tryz.prog 11 #[.agg #[.int .i64 V.now, .slice h.ca V.cn h.cc, .slice h.ta V.tn h.tc, .slice h.ga V.gn h.gc], .int .i64 t] w fun e w' => e = .returned (.bool (lineR V t)) ∧ Below w.heap.size w w' := by
  have hkx : Bk (w.alloc (.cells #[.int .i64 V.now, .slice h.ca V.cn h.cc, .slice h.ta V.tn h.tc, .slice h.ga V.gn h.gc] 33)) w.heap.size 33 #[.int .i64 V.now, .slice h.ca V.cn h.cc, .slice h.ta V.tn h.tc, .slice h.ga V.gn h.gc] := Bk.new w _ _
  have hbx : Below w.heap.size w (w.alloc (.cells #[.int .i64 V.now, .slice h.ca V.cn h.cc, .slice h.ta V.tn h.tc, .slice h.ga V.gn h.gc] 33)) := (Below.refl _ w).alloc (Nat.le_refl _) _
  have HOK : Hid (Calls Tryz.prog 18 #[.agg #[.int .i64 V.now, .slice h.ca V.cn h.cc, .slice h.ta V.tn h.tc, .slice h.ga V.gn h.gc]] (w.alloc (.cells #[.int .i64 V.now, .slice h.ca V.cn h.cc, .slice h.ta V.tn h.tc, .slice h.ga V.gn h.gc] 33)) fun e w' => e = .returned (.bool (worldI V)) ∧ Below ((w.alloc (.cells #[.int .i64 V.now, .slice h.ca V.cn h.cc, .slice h.ta V.tn h.tc, .slice h.ga V.gn h.gc] 33))).heap.size (w.alloc (.cells #[.int .i64 V.now, .slice h.ca V.cn h.cc, .slice h.ta V.tn h.tc, .slice h.ga V.gn h.gc] 33)) w') := iWorldOk_any V h hl hF _ (hr.at_ hbx)
  have HFA : Hid (worldI V = true → ∃ a : WA, MR (w.alloc (.cells #[.int .i64 V.now, .slice h.ca V.cn h.cc, .slice h.ta V.tn h.tc, .slice h.ga V.gn h.gc] 33)) V a ∧ (#[.int .i64 V.now, .slice h.ca V.cn h.cc, .slice h.ta V.tn h.tc, .slice h.ga V.gn h.gc] : Array Value) = #[.int .i64 V.now, .slice (some ⟨a.ca, a.oc, none⟩) V.cn a.cc, .slice (some ⟨a.ta, a.ot, none⟩) V.tn a.tc, .slice (some ⟨a.ga, a.og, none⟩) V.gn a.gc] ∧ Tree V ∧ V.cn ≤ 4 ∧ V.tn ≤ 1048576 ∧ allTo (groupI V) V.gn = true ∧ allTo (taskI V) V.tn = true) := fun ho => by
    obtain ⟨f1, f2, f3, _⟩ := worldI_facts ho
    obtain ⟨_, ⟨c1, c4⟩, t12, T⟩ := shape_tree f1
    have n8 := T.n8
    obtain ⟨a, m, he⟩ := MR.of2 (hr.at_ hbx) (by omega) (by omega) (by omega)
    exact ⟨a, m, he, T, c4, by omega, f2, f3⟩
  have HKX := Lib.hid hkx
  clear hl hF hr hkx
  cases ho : worldI V
  · rw [ho] at HOK
    go_enter Tryz.func11, Tryz.ntmps11
    go_wp2_with (go_at_call 18; refine HOK.out.mono ?_; rintro e w1 ⟨rfl, hb1⟩)
    go_ret
    exact ⟨ret_boolB (by simp [lineR, ho]), hbx.trans (hb1.mono hbx.size)⟩
  rw [ho] at HOK
  obtain ⟨a, m, he, T, hc4, htn, hG, hTK⟩ := HFA.out ho
  have HKA : Hid (Bk (w.alloc (.cells #[.int .i64 V.now, .slice h.ca V.cn h.cc, .slice h.ta V.tn h.tc, .slice h.ga V.gn h.gc] 33)) w.heap.size 33 #[.int .i64 V.now, .slice (some ⟨a.ca, a.oc, none⟩) V.cn a.cc, .slice (some ⟨a.ta, a.ot, none⟩) V.tn a.tc, .slice (some ⟨a.ga, a.og, none⟩) V.gn a.gc]) := Lib.hid (Eq.mp (congrArg (Bk (w.alloc (.cells #[.int .i64 V.now, .slice h.ca V.cn h.cc, .slice h.ta V.tn h.tc, .slice h.ga V.gn h.gc] 33)) w.heap.size 33) he) HKX.out)
  have HM := Lib.hid m
  have HT := Lib.hid T
  have HGG := Lib.hid hG
  have HTK := Lib.hid hTK
  clear m he T hG hTK HFA
  have HTH : Hid (∀ y, Below ((w.alloc (.cells #[.int .i64 V.now, .slice h.ca V.cn h.cc, .slice h.ta V.tn h.tc, .slice h.ga V.gn h.gc] 33))).heap.size (w.alloc (.cells #[.int .i64 V.now, .slice h.ca V.cn h.cc, .slice h.ta V.tn h.tc, .slice h.ga V.gn h.gc] 33)) y → Calls Tryz.prog 29 #[.pointer (some ⟨w.heap.size, 0, none⟩), .int .i64 t] y fun e w' => e = .returned (.bool (thereB V t)) ∧ y = w') := fun y hy => taskThere_any V a _ t htn y (HKA.out.below hy HKA.out.lt) (HM.out.below hy)
  cases hth : thereB V t
  · rw [hth] at HTH
    go_enter Tryz.func11, Tryz.ntmps11
    go_wp2_with (first | (go_at_call 18; refine HOK.out.mono ?_; rintro e w1 ⟨rfl, hb1⟩) | (go_at_call 29; refine (HTH.out _ hb1).mono ?_; rintro e w2 ⟨rfl, rfl⟩))
    go_ret
    exact ⟨ret_boolB (by simp [lineR, hth]), hbx.trans (hb1.mono hbx.size)⟩
  rw [hth] at HTH
  obtain ⟨k, rfl, hk⟩ := there_t hth
  have hst : (V.tv k).st ≠ 0 := by simp only [thereB, Bool.and_eq_true, Int.toNat_natCast] at hth; simpa using hth.2
  obtain ⟨hu, hp0, hpc⟩ := task_used2 HTK.out hk hst
  obtain ⟨C, hC⟩ := Int.eq_ofNat_of_zero_le hp0
  rw [hC, Int.toNat_natCast] at hpc
  have HLI : Hid (∀ y, Below ((w.alloc (.cells #[.int .i64 V.now, .slice h.ca V.cn h.cc, .slice h.ta V.tn h.tc, .slice h.ga V.gn h.gc] 33))).heap.size (w.alloc (.cells #[.int .i64 V.now, .slice h.ca V.cn h.cc, .slice h.ta V.tn h.tc, .slice h.ga V.gn h.gc] 33)) y → Calls Tryz.prog 31 #[.agg #[.pointer (some ⟨w.heap.size, 0, none⟩), .int .i64 (C : Nat)], .int .i64 k] y fun e w' => e = .returned (.bool (lineR V k)) ∧ Below y.heap.size y w') := fun y hy => by
    have := inLine_any V HT.out a w.heap.size k C (fun g hg hgu => by have := sn_of HGG.out hg; rw [hgu, if_pos rfl] at this; omega) hk htn (fun _ => hu) y (HKA.out.below hy HKA.out.lt) (HM.out.below hy)
    rw [show lineR V k = inlI V k C by simp [lineR, ho, hth, inlS, inlI, hC]]
    exact this
  have HCP : Hid (∀ y, Below ((w.alloc (.cells #[.int .i64 V.now, .slice h.ca V.cn h.cc, .slice h.ta V.tn h.tc, .slice h.ga V.gn h.gc] 33))).heap.size (w.alloc (.cells #[.int .i64 V.now, .slice h.ca V.cn h.cc, .slice h.ta V.tn h.tc, .slice h.ga V.gn h.gc] 33)) y → y.cell? ⟨a.ta, a.ot + k * 9 + 2, none⟩ = some (.int .i64 (C : Nat)) ∧ y.cell? ⟨w.heap.size, 2, none⟩ = some (.slice (some ⟨a.ta, a.ot, none⟩) V.tn a.tc) ∧ y.cell? ⟨w.heap.size, 0, none⟩ = some (.int .i64 V.now)) := fun y hy => ⟨((HM.out.below hy).t k hk 2 _ rfl).trans (by rw [hC]), (HKA.out.below hy HKA.out.lt).cell 2, (HKA.out.below hy HKA.out.lt).cell 0⟩
  have hki : (k : Int) < (V.tn : Nat) := by omega
  clear hst hu hth hC hpc
  go_enter Tryz.func11, Tryz.ntmps11
  go_wp2_with (first | (go_at_call 18; refine HOK.out.mono ?_; rintro e w1 ⟨rfl, hb1⟩) | (go_at_call 29; refine (HTH.out _ hb1).mono ?_; rintro e w2 ⟨rfl, rfl⟩; obtain ⟨y1, y2, y3⟩ := HCP.out _ hb1) | (go_at_call 30; refine (lane_any _ _ _).mono ?_; rintro e w3 ⟨rfl, hb3⟩) | (go_at_call 31; refine (HLI.out _ (hb1.trans (hb3.mono hb1.size))).mono ?_; rintro e w4 ⟨rfl, hb4⟩))
  go_ret
  exact ⟨rfl, hbx.trans (((hb1.trans (hb3.mono hb1.size)).trans (hb4.mono (hb1.trans (hb3.mono hb1.size)).size)).mono hbx.size)⟩
set_option maxHeartbeats 4000000 in
set_option maxRecDepth 100000 in
theorem iWorldDry_any (V : WV) (h : WH) (hl : WLen V) (hF : V.gn = 8 → Flds (fun i => (V.gv i).us) (fun i => (V.gv i).pa) (fun i => (V.gv i).nm)) (g c : Int) (w : World) (hr : WRd w w.heap.size V h) :
    Calls Tryz.prog 20 #[.agg #[.int .i64 V.now, .slice h.ca V.cn h.cc, .slice h.ta V.tn h.tc, .slice h.ga V.gn h.gc], .int .i64 g, .int .i64 c] w fun e w' => e = .returned (.bool (dryR V g c)) ∧ Below w.heap.size w w' := by
  have HD := Lib.hid (fun i hi => (hl.l i hi).d)
  have hkx : Bk (w.alloc (.cells #[.int .i64 V.now, .slice h.ca V.cn h.cc, .slice h.ta V.tn h.tc, .slice h.ga V.gn h.gc] 33)) w.heap.size 33 #[.int .i64 V.now, .slice h.ca V.cn h.cc, .slice h.ta V.tn h.tc, .slice h.ga V.gn h.gc] := Bk.new w _ _
  have hbx : Below w.heap.size w (w.alloc (.cells #[.int .i64 V.now, .slice h.ca V.cn h.cc, .slice h.ta V.tn h.tc, .slice h.ga V.gn h.gc] 33)) := (Below.refl _ w).alloc (Nat.le_refl _) _
  have HOK : Hid (Calls Tryz.prog 18 #[.agg #[.int .i64 V.now, .slice h.ca V.cn h.cc, .slice h.ta V.tn h.tc, .slice h.ga V.gn h.gc]] (w.alloc (.cells #[.int .i64 V.now, .slice h.ca V.cn h.cc, .slice h.ta V.tn h.tc, .slice h.ga V.gn h.gc] 33)) fun e w' => e = .returned (.bool (worldI V)) ∧ Below ((w.alloc (.cells #[.int .i64 V.now, .slice h.ca V.cn h.cc, .slice h.ta V.tn h.tc, .slice h.ga V.gn h.gc] 33))).heap.size (w.alloc (.cells #[.int .i64 V.now, .slice h.ca V.cn h.cc, .slice h.ta V.tn h.tc, .slice h.ga V.gn h.gc] 33)) w') := iWorldOk_any V h hl hF _ (hr.at_ hbx)
  have HFA : Hid (worldI V = true → ∃ a : WA, MR (w.alloc (.cells #[.int .i64 V.now, .slice h.ca V.cn h.cc, .slice h.ta V.tn h.tc, .slice h.ga V.gn h.gc] 33)) V a ∧ (#[.int .i64 V.now, .slice h.ca V.cn h.cc, .slice h.ta V.tn h.tc, .slice h.ga V.gn h.gc] : Array Value) = #[.int .i64 V.now, .slice (some ⟨a.ca, a.oc, none⟩) V.cn a.cc, .slice (some ⟨a.ta, a.ot, none⟩) V.tn a.tc, .slice (some ⟨a.ga, a.og, none⟩) V.gn a.gc] ∧ Tree V ∧ V.cn ≤ 4 ∧ V.tn ≤ 1048576 ∧ allTo (groupI V) V.gn = true ∧ allTo (taskI V) V.tn = true) := fun ho => by
    obtain ⟨f1, f2, f3, _⟩ := worldI_facts ho
    obtain ⟨_, ⟨c1, c4⟩, t12, T⟩ := shape_tree f1
    have n8 := T.n8
    obtain ⟨a, m, he⟩ := MR.of2 (hr.at_ hbx) (by omega) (by omega) (by omega)
    exact ⟨a, m, he, T, c4, by omega, f2, f3⟩
  have HKX := Lib.hid hkx
  clear hl hF hr hkx
  cases ho : worldI V
  · rw [ho] at HOK
    go_enter Tryz.func20, Tryz.ntmps20
    go_wp2_with (go_at_call 18; refine HOK.out.mono ?_; rintro e w1 ⟨rfl, hb1⟩)
    go_ret
    exact ⟨ret_boolB (by simp [dryR, ho]), hbx.trans (hb1.mono hbx.size)⟩
  rw [ho] at HOK
  obtain ⟨a, m, he, T, hc4, htn, hG, hTK⟩ := HFA.out ho
  have HKA : Hid (Bk (w.alloc (.cells #[.int .i64 V.now, .slice h.ca V.cn h.cc, .slice h.ta V.tn h.tc, .slice h.ga V.gn h.gc] 33)) w.heap.size 33 #[.int .i64 V.now, .slice (some ⟨a.ca, a.oc, none⟩) V.cn a.cc, .slice (some ⟨a.ta, a.ot, none⟩) V.tn a.tc, .slice (some ⟨a.ga, a.og, none⟩) V.gn a.gc]) := Lib.hid (Eq.mp (congrArg (Bk (w.alloc (.cells #[.int .i64 V.now, .slice h.ca V.cn h.cc, .slice h.ta V.tn h.tc, .slice h.ga V.gn h.gc] 33)) w.heap.size 33) he) HKX.out)
  have HM := Lib.hid m
  have HT := Lib.hid T
  have HGG := Lib.hid hG
  have HTK := Lib.hid hTK
  clear m he T hG hTK HFA
  have HN8 := Lib.hid HT.out.n8
  have HCP : Hid (∀ y, Below ((w.alloc (.cells #[.int .i64 V.now, .slice h.ca V.cn h.cc, .slice h.ta V.tn h.tc, .slice h.ga V.gn h.gc] 33))).heap.size (w.alloc (.cells #[.int .i64 V.now, .slice h.ca V.cn h.cc, .slice h.ta V.tn h.tc, .slice h.ga V.gn h.gc] 33)) y → y.cell? ⟨w.heap.size, 3, none⟩ = some (.slice (some ⟨a.ga, a.og, none⟩) V.gn a.gc)) := fun y hy => (HKA.out.below hy HKA.out.lt).cell 3
  have HUS : Hid (∀ y, Below ((w.alloc (.cells #[.int .i64 V.now, .slice h.ca V.cn h.cc, .slice h.ta V.tn h.tc, .slice h.ga V.gn h.gc] 33))).heap.size (w.alloc (.cells #[.int .i64 V.now, .slice h.ca V.cn h.cc, .slice h.ta V.tn h.tc, .slice h.ga V.gn h.gc] 33)) y → Calls Tryz.prog 53 #[.slice (some ⟨a.ga, a.og, none⟩) V.gn a.gc, .int .i64 g] y fun e w' => e = .returned (.bool (usedB (fun i => (V.gv i).us) V.gn g)) ∧ y = w') := fun y hy => iUsed_any _ _ _ (by have := HN8.out; omega) _ _ _ _ _ (HM.out.below hy).trd
  have HCT : Hid (∀ y, Below ((w.alloc (.cells #[.int .i64 V.now, .slice h.ca V.cn h.cc, .slice h.ta V.tn h.tc, .slice h.ga V.gn h.gc] 33))).heap.size (w.alloc (.cells #[.int .i64 V.now, .slice h.ca V.cn h.cc, .slice h.ta V.tn h.tc, .slice h.ga V.gn h.gc] 33)) y → Calls Tryz.prog 54 #[.pointer (some ⟨w.heap.size, 0, none⟩), .int .i64 c] y fun e w' => e = .returned (.bool (inR c 0 ((V.cn : Int) - 1))) ∧ y = w') := fun y hy => cpuThere_any V a _ c (by omega) y (HKA.out.below hy HKA.out.lt)
  cases hu : usedB (fun i => (V.gv i).us) V.gn g
  · rw [hu] at HUS
    go_enter Tryz.func20, Tryz.ntmps20
    go_wp2_with (first | (go_at_call 18; refine HOK.out.mono ?_; rintro e w1 ⟨rfl, hb1⟩; have y3 := HCP.out _ hb1) | (go_at_call 53; refine (HUS.out _ hb1).mono ?_; rintro e w2 ⟨rfl, rfl⟩))
    go_ret
    exact ⟨ret_boolB (by simp [dryR, hu]), hbx.trans (hb1.mono hbx.size)⟩
  rw [hu] at HUS
  cases hi : inR c 0 ((V.cn : Int) - 1)
  · rw [hi] at HCT
    go_enter Tryz.func20, Tryz.ntmps20
    go_wp2_with (first | (go_at_call 18; refine HOK.out.mono ?_; rintro e w1 ⟨rfl, hb1⟩; have y3 := HCP.out _ hb1) | (go_at_call 53; refine (HUS.out _ hb1).mono ?_; rintro e w2 ⟨rfl, rfl⟩) | (go_at_call 54; refine (HCT.out _ hb1).mono ?_; rintro e w2 ⟨rfl, rfl⟩))
    go_ret
    exact ⟨ret_boolB (by simp [dryR, hi]), hbx.trans (hb1.mono hbx.size)⟩
  rw [hi] at HCT
  obtain ⟨g1, g2, g3⟩ := usedB_iff.1 hu
  obtain ⟨c1, c2⟩ := inR_iff.1 hi
  obtain ⟨G, rfl⟩ := Int.eq_ofNat_of_zero_le g1
  obtain ⟨C, rfl⟩ := Int.eq_ofNat_of_zero_le c1
  simp only [Int.toNat_natCast] at g3
  have HDR : Hid (∀ y, Below ((w.alloc (.cells #[.int .i64 V.now, .slice h.ca V.cn h.cc, .slice h.ta V.tn h.tc, .slice h.ga V.gn h.gc] 33))).heap.size (w.alloc (.cells #[.int .i64 V.now, .slice h.ca V.cn h.cc, .slice h.ta V.tn h.tc, .slice h.ga V.gn h.gc] 33)) y → Calls Tryz.prog 55 #[.agg #[.pointer (some ⟨w.heap.size, 0, none⟩), .int .i64 (C : Nat)], .int .i64 G] y fun e w' => e = .returned (.bool (dryR V G C)) ∧ Below y.heap.size y w') := fun y hy => by
    have := dry_any V a w.heap.size G C (by omega) (by have := HN8.out; omega) (fun hq => by rw [dn_of HGG.out (by omega) g3 hq]; omega) (HD.out G (by omega)) y (HKA.out.below hy HKA.out.lt) (HM.out.below hy)
    rw [show dryR V G C = dryB V G C by simp [dryR, ho, hu, hi]]
    exact this
  clear hu hi
  go_enter Tryz.func20, Tryz.ntmps20
  go_wp2_with (first | (go_at_call 18; refine HOK.out.mono ?_; rintro e w1 ⟨rfl, hb1⟩; have y3 := HCP.out _ hb1) | (go_at_call 53; refine (HUS.out _ hb1).mono ?_; rintro e w2 ⟨rfl, rfl⟩) | (go_at_call 54; refine (HCT.out _ hb1).mono ?_; rintro e w2 ⟨rfl, rfl⟩) | (go_at_call 30; refine (lane_any _ _ _).mono ?_; rintro e w3 ⟨rfl, hb3⟩) | (go_at_call 55; refine (HDR.out _ (hb1.trans (hb3.mono hb1.size))).mono ?_; rintro e w4 ⟨rfl, hb4⟩))
  go_ret
  exact ⟨rfl, hbx.trans (((hb1.trans (hb3.mono hb1.size)).trans (hb4.mono (hb1.trans (hb3.mono hb1.size)).size)).mono hbx.size)⟩
end Go.Proofs.YtndbmeedimhohaaGreat

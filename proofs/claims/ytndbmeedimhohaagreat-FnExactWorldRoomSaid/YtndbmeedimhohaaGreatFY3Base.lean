/- Worlds: time left: the reference (printed by mkv.py). -/
import Derived.Test.YtndbmeedimhohaaGreatFY2Base
namespace Go.Proofs.YtndbmeedimhohaaGreat
open Go.RowKit
set_option maxHeartbeats 4000000 in
set_option maxRecDepth 100000 in
theorem sWorldRoom_any (V : WV) (h : WH) (hl : WLen V) (_hF : V.gn = 8 → Flds (fun i => (V.gv i).us) (fun i => (V.gv i).pa) (fun i => (V.gv i).nm)) (hNE : ∀ k, (V.gv k).ne ≤ 9223372036854775807) (w : World) (hr : WRd w w.heap.size V h) :
    Calls Tryz.prog 15 #[.agg #[.int .i64 V.now, .slice h.ca V.cn h.cc, .slice h.ta V.tn h.tc, .slice h.ga V.gn h.gc]] w fun e w' => e = .returned (.bool (roomR V)) ∧ Below w.heap.size w w' := by
  have hbx : Below w.heap.size w (w.alloc (.cells #[.int .i64 V.now, .slice h.ca V.cn h.cc, .slice h.ta V.tn h.tc, .slice h.ga V.gn h.gc] 33)) := (Below.refl _ w).alloc (Nat.le_refl _) _
  have HOK : Hid (Calls Tryz.prog 17 #[.agg #[.int .i64 V.now, .slice h.ca V.cn h.cc, .slice h.ta V.tn h.tc, .slice h.ga V.gn h.gc]] (w.alloc (.cells #[.int .i64 V.now, .slice h.ca V.cn h.cc, .slice h.ta V.tn h.tc, .slice h.ga V.gn h.gc] 33)) fun e w' => e = .returned (.bool (worldI V)) ∧ Below ((w.alloc (.cells #[.int .i64 V.now, .slice h.ca V.cn h.cc, .slice h.ta V.tn h.tc, .slice h.ga V.gn h.gc] 33))).heap.size (w.alloc (.cells #[.int .i64 V.now, .slice h.ca V.cn h.cc, .slice h.ta V.tn h.tc, .slice h.ga V.gn h.gc] 33)) w') := by
    have := sWorldOk_any V h hl hNE (w.alloc (.cells #[.int .i64 V.now, .slice h.ca V.cn h.cc, .slice h.ta V.tn h.tc, .slice h.ga V.gn h.gc] 33)) (hr.at_ hbx)
    rw [← worldEq] at this
    exact this
  cases ho : worldI V
  · rw [ho] at HOK
    clear hl _hF hNE hr
    go_enter Tryz.func15, Tryz.ntmps15
    go_wp2_with (go_at_call 17; refine HOK.out.mono ?_; rintro e w1 ⟨rfl, hb1⟩)
    go_ret
    exact ⟨ret_boolB (by simp [roomR, ho]), hbx.trans (hb1.mono hbx.size)⟩
  obtain ⟨f1, f2, f3, _⟩ := worldI_facts ho
  obtain ⟨hnow, ⟨c1, c4⟩, t12, T⟩ := shape_tree f1
  have n8 := T.n8
  obtain ⟨a, m, hAe⟩ := MR.of2 hr (by omega) (by omega) (by omega)
  have hga : (h.ca = some ⟨a.ca, a.oc, none⟩ ∧ h.cc = a.cc) ∧ (h.ta = some ⟨a.ta, a.ot, none⟩ ∧ h.tc = a.tc) ∧ (h.ga = some ⟨a.ga, a.og, none⟩ ∧ h.gc = a.gc) := by
    simpa using hAe
  rw [ho, hga.1.1, hga.1.2, hga.2.1.1, hga.2.1.2, hga.2.2.1, hga.2.2.2] at HOK
  rw [hga.1.1, hga.1.2, hga.2.1.1, hga.2.1.2, hga.2.2.1, hga.2.2.2] at hbx ⊢
  have hcn : V.cn ≤ 1048576 := by omega
  have htn : V.tn ≤ 1048576 := by omega
  have h8 : V.gn ≤ 1048576 := by omega
  have HK : Hid (Bk (w.alloc (.cells #[.int .i64 V.now, .slice (some ⟨a.ca, a.oc, none⟩) V.cn a.cc, .slice (some ⟨a.ta, a.ot, none⟩) V.tn a.tc, .slice (some ⟨a.ga, a.og, none⟩) V.gn a.gc] 33)) w.heap.size 33 #[.int .i64 V.now, .slice (some ⟨a.ca, a.oc, none⟩) V.cn a.cc, .slice (some ⟨a.ta, a.ot, none⟩) V.tn a.tc, .slice (some ⟨a.ga, a.og, none⟩) V.gn a.gc]) := Bk.new w _ _
  have HM := Lib.hid m
  have HLN := Lib.hid hl.l
  have HRR : Hid (roomR V = (half V.now && allTo (cpuR V) V.cn && allTo (taskR V) V.tn && allTo (groupR V) V.gn)) := by show roomR V = _; simp [roomR, ho, roomB]
  obtain ⟨R, hR⟩ : ∃ R, R = roomR V := ⟨_, rfl⟩
  rw [← hR] at HRR ⊢
  clear hl _hF hNE hr f1 f2 f3 hnow c1 c4 t12 T n8 m hAe hga hR
  cases hn : half V.now
  · go_enter Tryz.func15, Tryz.ntmps15
    go_wp2_with (first | (go_at_call 17; refine HOK.out.mono ?_; rintro e w1 ⟨rfl, hb1⟩; obtain ⟨j0, j1, j2, j3⟩ := (HK.out.below hb1 HK.out.lt).four) | (go_at_call 37; refine (sHalf_any _ _).mono ?_; rintro e w' ⟨rfl, rfl⟩))
    go_ret
    exact ⟨ret_boolB (by rw [HRR.out, hn]; rfl), hbx.trans (hb1.mono hbx.size)⟩
  rw [hn] at HRR
  have HE1 : Hid (allTo (cpuR V) V.cn = false → false = R) := fun h => by rw [HRR.out, h]; rfl
  have HE2 : Hid (allTo (taskR V) V.tn = false → false = R) := fun h => by rw [HRR.out, h]; simp
  have HE3 : Hid (allTo (groupR V) V.gn = false → false = R) := fun h => by rw [HRR.out, h]; simp
  have HEN : Hid (allTo (cpuR V) V.cn = true → allTo (taskR V) V.tn = true → allTo (groupR V) V.gn = true → true = R) := fun h1 h2 h3 => by rw [HRR.out, h1, h2, h3]; rfl
  go_enter Tryz.func15, Tryz.ntmps15
  go_wp2_with (first | (go_at_call 17; refine HOK.out.mono ?_; rintro e w1 ⟨rfl, hb1⟩; obtain ⟨j0, j1, j2, j3⟩ := (HK.out.below hb1 HK.out.lt).four) | (go_at_call 37; refine (sHalf_any _ _).mono ?_; rintro e w' ⟨rfl, rfl⟩))
  have HB1 := Lib.hid (hbx.trans (hb1.mono hbx.size))
  have HK1 := Lib.hid (HK.out.below hb1 HK.out.lt)
  clear j0 j1 j2 j3 hb1 hbx HK HOK HRR hn ho
  go_loopw [3] (fun i wr => ∃ k : Nat, k ≤ V.cn ∧ i = .int .i64 k ∧ Hid (allTo (cpuR V) k = true) ∧ Hid (Bk wr w.heap.size 33 #[.int .i64 V.now, .slice (some ⟨a.ca, a.oc, none⟩) V.cn a.cc, .slice (some ⟨a.ta, a.ot, none⟩) V.tn a.tc, .slice (some ⟨a.ga, a.og, none⟩) V.gn a.gc]) ∧ Hid (Below w.heap.size w wr)) (fun i _ => V.cn - (intOf i).toNat)
  case atStart => exact ⟨0, Nat.zero_le _, rfl, rfl, HK1, HB1⟩
  case round =>
    clear HK1 HB1
    obtain ⟨k, hk, rfl, HA, HK, HB⟩ := hrel
    obtain ⟨j0, j1, j2, j3⟩ := HK.out.four
    by_cases hlt : k < V.cn
    · have e3 := (HM.out.below HB.out).c k hlt 3 _ rfl
      have e4 := (HM.out.below HB.out).c k hlt 4 _ rfl
      have HF : Hid (cpuR V k = false → false = R) := fun h => HE1.out (allTo_false _ k _ hlt h)
      have HX : Hid (cpuR V k = true → allTo (cpuR V) (k + 1) = true) := fun h => allTo_next _ k HA.out h
      have HE : Hid (cpuR V k = (half (V.cv k).bu && half (V.cv k).id)) := rfl
      clear HA
      cases n1 : half (V.cv k).bu
      · go_wp2_with (go_at_call 37; refine (sHalf_any _ _).mono ?_; rintro e w' ⟨rfl, rfl⟩)
        go_ret
        exact ⟨ret_boolB (HF.out (by rw [HE.out, n1]; rfl)), HB.out⟩
      cases n2 : half (V.cv k).id
      · go_wp2_with (go_at_call 37; refine (sHalf_any _ _).mono ?_; rintro e w' ⟨rfl, rfl⟩)
        go_ret
        exact ⟨ret_boolB (HF.out (by rw [HE.out, n1, n2]; rfl)), HB.out⟩
      · go_wp2_with (go_at_call 37; refine (sHalf_any _ _).mono ?_; rintro e w' ⟨rfl, rfl⟩)
        go_roundw
        case rel => exact ⟨k + 1, by omega, by go_num, HX.out (by rw [HE.out, n1, n2]; rfl), HK, HB⟩
        case measure => simp [intOf]; omega
    obtain rfl : k = V.cn := by omega
    have HCS := HA
    clear HA HE1
    go_wp2
    clear j0 j1 j2 j3
    go_loopw [4] (fun i wr => ∃ k : Nat, k ≤ V.tn ∧ i = .int .i64 k ∧ Hid (allTo (taskR V) k = true) ∧ Hid (Bk wr w.heap.size 33 #[.int .i64 V.now, .slice (some ⟨a.ca, a.oc, none⟩) V.cn a.cc, .slice (some ⟨a.ta, a.ot, none⟩) V.tn a.tc, .slice (some ⟨a.ga, a.og, none⟩) V.gn a.gc]) ∧ Hid (Below w.heap.size w wr)) (fun i _ => V.tn - (intOf i).toNat)
    case atStart => exact ⟨0, Nat.zero_le _, rfl, rfl, HK, HB⟩
    case round =>
      clear HK HB
      obtain ⟨k, hk, rfl, HA, HK, HB⟩ := hrel
      obtain ⟨j0, j1, j2, j3⟩ := HK.out.four
      by_cases hlt : k < V.tn
      · have e5 := (HM.out.below HB.out).t k hlt 5 _ rfl
        have e6 := (HM.out.below HB.out).t k hlt 6 _ rfl
        have e7 := (HM.out.below HB.out).t k hlt 7 _ rfl
        have HF : Hid (taskR V k = false → false = R) := fun h => HE2.out (allTo_false _ k _ hlt h)
        have HX : Hid (taskR V k = true → allTo (taskR V) (k + 1) = true) := fun h => allTo_next _ k HA.out h
        have HE : Hid (taskR V k = (half (V.tv k).vv && half (V.tv k).su && half (V.tv k).us)) := rfl
        clear HA
        cases n1 : half (V.tv k).vv
        · go_wp2_with (go_at_call 37; refine (sHalf_any _ _).mono ?_; rintro e w' ⟨rfl, rfl⟩)
          go_ret
          exact ⟨ret_boolB (HF.out (by rw [HE.out, n1]; rfl)), HB.out⟩
        cases n2 : half (V.tv k).su
        · go_wp2_with (go_at_call 37; refine (sHalf_any _ _).mono ?_; rintro e w' ⟨rfl, rfl⟩)
          go_ret
          exact ⟨ret_boolB (HF.out (by rw [HE.out, n1, n2]; rfl)), HB.out⟩
        cases n3 : half (V.tv k).us
        · go_wp2_with (go_at_call 37; refine (sHalf_any _ _).mono ?_; rintro e w' ⟨rfl, rfl⟩)
          go_ret
          exact ⟨ret_boolB (HF.out (by rw [HE.out, n1, n2, n3]; rfl)), HB.out⟩
        · go_wp2_with (go_at_call 37; refine (sHalf_any _ _).mono ?_; rintro e w' ⟨rfl, rfl⟩)
          go_roundw
          case rel => exact ⟨k + 1, by omega, by go_num, HX.out (by rw [HE.out, n1, n2, n3]; rfl), HK, HB⟩
          case measure => simp [intOf]; omega
      obtain rfl : k = V.tn := by omega
      have HTS := HA
      clear HA HE2
      go_wp2
      clear j0 j1 j2 j3
      go_loopw [5] (fun i wr => ∃ k : Nat, k ≤ V.gn ∧ i = .int .i64 k ∧ Hid (allTo (groupR V) k = true) ∧ Hid (Bk wr w.heap.size 33 #[.int .i64 V.now, .slice (some ⟨a.ca, a.oc, none⟩) V.cn a.cc, .slice (some ⟨a.ta, a.ot, none⟩) V.tn a.tc, .slice (some ⟨a.ga, a.og, none⟩) V.gn a.gc]) ∧ Hid (Below w.heap.size w wr)) (fun i _ => V.gn - (intOf i).toNat)
      case atStart => exact ⟨0, Nat.zero_le _, rfl, rfl, HK, HB⟩
      case round =>
        clear HK HB
        obtain ⟨k, hk, rfl, HA, HK, HB⟩ := hrel
        obtain ⟨j0, j1, j2, j3⟩ := HK.out.four
        by_cases hlt : k < V.gn
        · have hki : (k : Int) < (V.gn : Nat) := by omega
          have h9 : (V.gv k).sn ≤ 1048576 := (HLN.out k hlt).s
          have e7 := (HM.out.below HB.out).g k hlt 7 _ rfl
          have HF : Hid (groupR V k = false → false = R) := fun h => HE3.out (allTo_false _ k _ hlt h)
          have HX : Hid (groupR V k = true → allTo (groupR V) (k + 1) = true) := fun h => allTo_next _ k HA.out h
          have HE : Hid (groupR V k = (half (V.gv k).su && allTo (shelfR V k) (V.gv k).sn)) := rfl
          clear HA
          cases n1 : half (V.gv k).su
          · go_wp2_with (go_at_call 37; refine (sHalf_any _ _).mono ?_; rintro e w' ⟨rfl, rfl⟩)
            go_ret
            exact ⟨ret_boolB (HF.out (by rw [HE.out, n1]; rfl)), HB.out⟩
          rw [n1] at HE
          go_wp2_with (go_at_call 37; refine (sHalf_any _ _).mono ?_; rintro e w' ⟨rfl, rfl⟩)
          clear j0 j1 j2 j3 e7 n1
          go_loopw [6] (fun i wr => ∃ c : Nat, c ≤ (V.gv k).sn ∧ i = .int .i64 c ∧ Hid (allTo (shelfR V k) c = true) ∧ Hid (Bk wr w.heap.size 33 #[.int .i64 V.now, .slice (some ⟨a.ca, a.oc, none⟩) V.cn a.cc, .slice (some ⟨a.ta, a.ot, none⟩) V.tn a.tc, .slice (some ⟨a.ga, a.og, none⟩) V.gn a.gc]) ∧ Hid (Below w.heap.size w wr)) (fun i _ => (V.gv k).sn - (intOf i).toNat)
          case atStart => exact ⟨0, Nat.zero_le _, rfl, rfl, HK, HB⟩
          case round =>
            clear HK HB
            obtain ⟨c, hc, rfl, HA, HK, HB⟩ := hrel
            have hz := HB.out.size
            obtain ⟨j0, j1, j2, j3⟩ := HK.out.four
            have e13 := (HM.out.below HB.out).g k hlt 13 _ rfl
            by_cases hct : c < (V.gv k).sn
            · obtain ⟨s1, s2, s3⟩ := (HM.out.below HB.out).s k hlt (by omega)
              rw [s1] at e13
              have d0 := s3 c hct 0 _ rfl
              have d1 := s3 c hct 1 _ rfl
              have d2 := s3 c hct 2 _ rfl
              have d3 := s3 c hct 3 _ rfl
              have d4 := s3 c hct 4 _ rfl
              rw [Nat.add_zero] at d0
              have hci : (c : Int) < ((V.gv k).sn : Nat) := by omega
              have HSF : Hid (shelfR V k c = false → false = R) := fun h => HF.out (by rw [HE.out, allTo_false _ c _ hct h]; rfl)
              have HSX : Hid (shelfR V k c = true → allTo (shelfR V k) (c + 1) = true) := fun h => allTo_next _ c HA.out h
              have HSE : Hid (shelfR V k c = (half ((V.gv k).s0 c) && half ((V.gv k).s2 c) && half ((V.gv k).s4 c))) := rfl
              have HBN : Hid (Below w.heap.size w (wr.alloc (.cells #[.int .i64 ((V.gv k).s0 c), .bool ((V.gv k).s1 c), .int .i64 ((V.gv k).s2 c), .int .i64 ((V.gv k).s3 c), .int .i64 ((V.gv k).s4 c)] 70))) := HB.out.alloc hz _
              have HKN : Hid (Bk (wr.alloc (.cells #[.int .i64 ((V.gv k).s0 c), .bool ((V.gv k).s1 c), .int .i64 ((V.gv k).s2 c), .int .i64 ((V.gv k).s3 c), .int .i64 ((V.gv k).s4 c)] 70)) w.heap.size 33 #[.int .i64 V.now, .slice (some ⟨a.ca, a.oc, none⟩) V.cn a.cc, .slice (some ⟨a.ta, a.ot, none⟩) V.tn a.tc, .slice (some ⟨a.ga, a.og, none⟩) V.gn a.gc]) := HK.out.alloc _
              clear HA s1 s3 hz
              cases n1 : half ((V.gv k).s0 c)
              · go_wp2_with (go_at_call 37; refine (sHalf_any _ _).mono ?_; rintro e w' ⟨rfl, rfl⟩)
                go_ret
                exact ⟨ret_boolB (HSF.out (by rw [HSE.out, n1]; rfl)), HBN.out⟩
              cases n2 : half ((V.gv k).s2 c)
              · go_wp2_with (go_at_call 37; refine (sHalf_any _ _).mono ?_; rintro e w' ⟨rfl, rfl⟩)
                go_ret
                exact ⟨ret_boolB (HSF.out (by rw [HSE.out, n1, n2]; rfl)), HBN.out⟩
              cases n3 : half ((V.gv k).s4 c)
              · go_wp2_with (go_at_call 37; refine (sHalf_any _ _).mono ?_; rintro e w' ⟨rfl, rfl⟩)
                go_ret
                exact ⟨ret_boolB (HSF.out (by rw [HSE.out, n1, n2, n3]; rfl)), HBN.out⟩
              · go_wp2_with (go_at_call 37; refine (sHalf_any _ _).mono ?_; rintro e w' ⟨rfl, rfl⟩)
                go_roundw
                case rel => exact ⟨c + 1, by omega, by go_num, HSX.out (by rw [HSE.out, n1, n2, n3]; rfl), HKN, HBN⟩
                case measure => simp [intOf]; omega
            · obtain rfl : c = (V.gv k).sn := by omega
              have HN := Lib.hid (HX.out (by rw [HE.out, HA.out]; rfl))
              clear HA HE HX HF hz
              go_wp2
              go_roundw
              case rel => exact ⟨k + 1, by omega, by go_num, HN, HK, HB⟩
              case measure => simp [intOf]; omega
        · obtain rfl : k = V.gn := by omega
          have HN := Lib.hid (HEN.out HCS.out HTS.out HA.out)
          go_wp2
          go_ret
          exact ⟨ret_boolB HN.out, HB.out⟩
end Go.Proofs.YtndbmeedimhohaaGreat

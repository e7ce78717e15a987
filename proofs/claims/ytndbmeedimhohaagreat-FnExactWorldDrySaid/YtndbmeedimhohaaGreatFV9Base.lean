/- Worlds: the shelves of a world (printed by mkv.py). -/
import Derived.Test.YtndbmeedimhohaaGreatFV8Base
namespace Go.Proofs.YtndbmeedimhohaaGreat
open Go.RowKit
set_option maxHeartbeats 4000000 in
set_option maxRecDepth 100000 in
theorem dn_of {V : WV} (h : allTo (groupI V) V.gn = true) {k : Nat} (hk : k < V.gn) (hu : (V.gv k).us = true) (hq : 0 < (V.gv k).qu) : (V.gv k).dn = V.cn := by
  have := allTo_at _ k _ hk h
  unfold groupI at this
  rw [if_pos hu, Bool.and_eq_true] at this
  have h2 := this.2
  unfold quotaI at h2
  have hnb : nobandB (V.gv k) = false := by simp [nobandB]; omega
  rw [hnb] at h2
  simp only [Bool.false_eq_true, if_false, Bool.and_eq_true, beq_iff_eq] at h2
  have h3 := h2.1.1.1
  simp only [bandOk, Bool.and_eq_true, decide_eq_true_eq] at h3
  have := h2.1.1.2
  omega
set_option maxHeartbeats 4000000 in
set_option maxRecDepth 100000 in
theorem shelvesOk_any (V : WV) (T : Tree V) (a : WA) (hw : Nat) (hcn : V.cn ≤ 4) (htn : V.tn ≤ 1048576) (hG : allTo (groupI V) V.gn = true) (hD : ∀ g, g < V.gn → (V.gv g).dn ≤ 1048576) (w : World) (hk : Bk w hw 33 #[.int .i64 V.now, .slice (some ⟨a.ca, a.oc, none⟩) V.cn a.cc, .slice (some ⟨a.ta, a.ot, none⟩) V.tn a.tc, .slice (some ⟨a.ga, a.og, none⟩) V.gn a.gc]) (m : MR w V a) :
    Calls Tryz.prog 49 #[.pointer (some ⟨hw, 0, none⟩)] w fun e w' => e = .returned (.bool (allTo (fun g => allTo (numH V g) (V.gv g).sn) V.gn && allTo (fun c => rootH V c && allTo (laneI V c) V.gn) V.cn)) ∧ Below w.heap.size w w' := by
  obtain ⟨k0, k1, k2, k3⟩ := hk.four
  have hkl := hk.lt
  have hgl := m.gl
  have HN8 := Lib.hid T.n8
  have h8 : V.gn ≤ 1048576 := by have := HN8.out; omega
  have HK := Lib.hid hk
  have HM := Lib.hid m
  have HT := Lib.hid T
  have HGG := Lib.hid hG
  have HDN := Lib.hid hD
  have HRES : Hid (∀ b : Bool, allTo (fun g => allTo (numH V g) (V.gv g).sn) V.gn = true → b = allTo (fun c => rootH V c && allTo (laneI V c) V.gn) V.cn → b = (allTo (fun g => allTo (numH V g) (V.gv g).sn) V.gn && allTo (fun c => rootH V c && allTo (laneI V c) V.gn) V.cn)) := fun b h1 h2 => by rw [h1, h2]; rfl
  have HRF : Hid (∀ k, k < V.gn → allTo (numH V k) (V.gv k).sn = false → false = (allTo (fun g => allTo (numH V g) (V.gv g).sn) V.gn && allTo (fun c => rootH V c && allTo (laneI V c) V.gn) V.cn)) := fun k hk h => by rw [allTo_false (fun g => allTo (numH V g) (V.gv g).sn) k _ hk h]; rfl
  obtain ⟨RES, hRES⟩ : ∃ R, R = (allTo (fun g => allTo (numH V g) (V.gv g).sn) V.gn && allTo (fun c => rootH V c && allTo (laneI V c) V.gn) V.cn) := ⟨_, rfl⟩
  rw [← hRES] at HRES HRF ⊢
  clear hk m T hG hD hRES
  go_enter Tryz.func49, Tryz.ntmps49
  go_wp2
  go_loopw [17] (fun i wr => ∃ k : Nat, k ≤ V.gn ∧ i = .int .i64 k ∧ Hid (allTo (fun g => allTo (numH V g) (V.gv g).sn) k = true) ∧ Hid (Below w.heap.size w wr)) (fun i _ => V.gn - (intOf i).toNat)
  case atStart => exact ⟨0, Nat.zero_le _, rfl, rfl, Below.refl _ _⟩
  case round =>
    obtain ⟨k, hk, rfl, HA, HB⟩ := hrel
    have hz := HB.out.size
    by_cases hlt : k < V.gn
    · have hsn := sn_of HGG.out hlt
      have HX : Hid (allTo (numH V k) (V.gv k).sn = true → allTo (fun g => allTo (numH V g) (V.gv g).sn) (k + 1) = true) := fun h => allTo_next _ k HA.out h
      have HF : Hid (allTo (numH V k) (V.gv k).sn = false → false = RES) := HRF.out k hlt
      have hr0 := rangeAt_below (HM.out.g k hlt) HB.out hgl
      clear HA
      rcases Nat.eq_zero_or_pos (V.gv k).sn with h0 | h0
      · have hr : Hid (wr.rangeAt a.ga (a.og + k * 14) [.bool (V.gv k).us, .int .i64 (V.gv k).pa, .string (V.gv k).nm, .int .i64 (V.gv k).we, .int .i64 (V.gv k).cp, .int .i64 (V.gv k).pe, .int .i64 (V.gv k).ne, .int .i64 (V.gv k).su, .int .i64 (V.gv k).qu, .int .i64 (V.gv k).po, .int .i64 (V.gv k).sp, .slice (a.gh k).la (V.gv k).ln (a.gh k).lc, .slice (a.gh k).da (V.gv k).dn (a.gh k).dc, .slice (a.gh k).sa 0 (a.gh k).sc]) := by have := hr0; simp only [grC, h0] at this; exact this
        have HX0 : Hid (allTo (fun g => allTo (numH V g) (V.gv g).sn) (k + 1) = true) := HX.out (by rw [h0]; rfl)
        clear hr0 hsn h0 HF HX
        go_wp2_with (refine wpList_load_mid rfl 68 _ rfl a.ga (a.og + k * 14) rfl _ _ (rangeAt_below hr.out (B := w.heap.size) (by go_grown) hgl) Tryz.underlying68 rfl (by kernel_rfl) ?_)
        refine wp_loop_rounds 1 ?_
        rw [rounds_succ]
        go_wp2
        go_roundw
        case rel => exact ⟨k + 1, by omega, by go_num, HX0, HB.out.alloc hz _⟩
        case measure => simp [intOf]; omega
      · obtain ⟨s1, s2, s3⟩ := HM.out.s k hlt h0
        have HS3 := Lib.hid s3
        have h9 : (V.gv k).sn ≤ 1048576 := by split at hsn <;> omega
        have hr : Hid (wr.rangeAt a.ga (a.og + k * 14) [.bool (V.gv k).us, .int .i64 (V.gv k).pa, .string (V.gv k).nm, .int .i64 (V.gv k).we, .int .i64 (V.gv k).cp, .int .i64 (V.gv k).pe, .int .i64 (V.gv k).ne, .int .i64 (V.gv k).su, .int .i64 (V.gv k).qu, .int .i64 (V.gv k).po, .int .i64 (V.gv k).sp, .slice (a.gh k).la (V.gv k).ln (a.gh k).lc, .slice (a.gh k).da (V.gv k).dn (a.gh k).dc, .slice (some ⟨a.sb k, a.so k, none⟩) (V.gv k).sn (a.gh k).sc]) := by have := hr0; simp only [grC, s1] at this; exact this
        clear hr0 hsn s3 s1
        go_wp2_with (refine wpList_load_mid rfl 68 _ rfl a.ga (a.og + k * 14) rfl _ _ (rangeAt_below hr.out (B := w.heap.size) (by go_grown) hgl) Tryz.underlying68 rfl (by kernel_rfl) ?_)
        go_loopw [24] (fun i wr => ∃ j : Nat, j ≤ (V.gv k).sn ∧ i = .int .i64 j ∧ Hid (allTo (numH V k) j = true) ∧ Hid (Below w.heap.size w wr)) (fun i _ => (V.gv k).sn - (intOf i).toNat)
        case atStart => exact ⟨0, Nat.zero_le _, rfl, rfl, HB.out.alloc hz _⟩
        case round =>
          clear hz HB
          obtain ⟨j, hj, rfl, HJ, HB⟩ := hrel
          have hz := HB.out.size
          by_cases hjt : j < (V.gv k).sn
          · have hs : Hid (wr.rangeAt (a.sb k) (a.so k + j * 5) [.int .i64 ((V.gv k).s0 j), .bool ((V.gv k).s1 j), .int .i64 ((V.gv k).s2 j), .int .i64 ((V.gv k).s3 j), .int .i64 ((V.gv k).s4 j)]) := rangeAt_below (HS3.out j hjt) HB.out s2
            have HJF : Hid (numH V k j = false → false = RES) := fun h => HF.out (allTo_false _ j _ hjt h)
            have HJX : Hid (numH V k j = true → allTo (numH V k) (j + 1) = true) := fun h => allTo_next _ j HJ.out h
            have HE : Hid (numH V k j = (time3 ((V.gv k).s0 j) ((V.gv k).s2 j) ((V.gv k).s4 j) && inR ((V.gv k).s3 j) 1 20)) := rfl
            clear HJ hr
            cases n1 : time3 ((V.gv k).s0 j) ((V.gv k).s2 j) ((V.gv k).s4 j)
            · go_wp2_with (first | (refine wpList_load_mid rfl 70 _ rfl (a.sb k) (a.so k + j * 5) rfl _ _ (rangeAt_below hs.out (B := w.heap.size) (by go_grown) s2) Tryz.underlying70 rfl (by kernel_rfl) ?_) | (go_at_call 82; refine (timeOk_three _ _ _ _ _ _ _ (by simp)).mono ?_; rintro e w9 ⟨rfl, rfl⟩))
              go_ret
              exact ⟨ret_boolB (HJF.out (by rw [HE.out, n1]; rfl)), (HB.out.alloc hz _).alloc (by simp; omega) _⟩
            cases n2 : inR ((V.gv k).s3 j) 1 20
            · go_wp2_with (first | (refine wpList_load_mid rfl 70 _ rfl (a.sb k) (a.so k + j * 5) rfl _ _ (rangeAt_below hs.out (B := w.heap.size) (by go_grown) s2) Tryz.underlying70 rfl (by kernel_rfl) ?_) | (go_at_call 82; refine (timeOk_three _ _ _ _ _ _ _ (by simp)).mono ?_; rintro e w9 ⟨rfl, rfl⟩) | (go_at_call 86; refine (weightOk_any _ _).mono ?_; rintro e w' ⟨rfl, rfl⟩))
              go_ret
              exact ⟨ret_boolB (HJF.out (by rw [HE.out, n1, n2]; rfl)), (HB.out.alloc hz _).alloc (by simp; omega) _⟩
            · go_wp2_with (first | (refine wpList_load_mid rfl 70 _ rfl (a.sb k) (a.so k + j * 5) rfl _ _ (rangeAt_below hs.out (B := w.heap.size) (by go_grown) s2) Tryz.underlying70 rfl (by kernel_rfl) ?_) | (go_at_call 82; refine (timeOk_three _ _ _ _ _ _ _ (by simp)).mono ?_; rintro e w9 ⟨rfl, rfl⟩) | (go_at_call 86; refine (weightOk_any _ _).mono ?_; rintro e w' ⟨rfl, rfl⟩))
              go_roundw
              case rel => exact ⟨j + 1, by omega, by go_num, HJX.out (by rw [HE.out, n1, n2]; rfl), (HB.out.alloc hz _).alloc (by simp; omega) _⟩
              case measure => simp [intOf]; omega
          · obtain rfl : j = (V.gv k).sn := by omega
            have HX0 := Lib.hid (HX.out HJ.out)
            clear HX HF hr
            go_wp2
            go_roundw
            case rel => exact ⟨k + 1, by omega, by go_num, HX0, HB.out⟩
            case measure => simp [intOf]; omega
    · obtain rfl : k = V.gn := by omega
      have j1 := (HB.out.cell (p := ⟨hw, 1, none⟩) hkl).trans k1
      have HNUM := Lib.hid HA.out
      clear HA HRF
      go_wp2
      go_loopw [50] (fun i wr => ∃ c : Nat, c ≤ V.cn ∧ i = .int .i64 c ∧ Hid (allTo (fun c => rootH V c && allTo (laneI V c) V.gn) c = true) ∧ Hid (Below w.heap.size w wr)) (fun i _ => V.cn - (intOf i).toNat)
      case atStart => exact ⟨0, Nat.zero_le _, rfl, rfl, HB.out⟩
      case round =>
        clear j1 hz HB
        obtain ⟨c, hc, rfl, HC, HB⟩ := hrel
        have hz := HB.out.size
        by_cases hct : c < V.cn
        · have HXC : Hid ((rootH V c && allTo (laneI V c) V.gn) = true → allTo (fun c => rootH V c && allTo (laneI V c) V.gn) (c + 1) = true) := fun h => allTo_next _ c HC.out h
          have HFC : Hid ((rootH V c && allTo (laneI V c) V.gn) = false → false = RES) := fun h => HRES.out _ HNUM.out (allTo_false (fun c => rootH V c && allTo (laneI V c) V.gn) c _ hct h).symm
          have HSS : Hid (∀ k, k < V.gn → (V.gv k).us = true → c < (V.gv k).sn ∧ (V.gv k).sn ≤ 1048576) := fun k hk hu => by
            have := sn_of HGG.out hk
            rw [hu, if_pos rfl] at this
            omega
          have HSH : Hid (∀ g, g < V.gn → (V.gv g).us = true → ∀ x, Below w.heap.size w x → Calls Tryz.prog 62 #[.agg #[.pointer (some ⟨hw, 0, none⟩), .int .i64 (c : Nat)], .int .i64 g] x fun e w' => e = .returned (.pointer (some ⟨a.sb g, a.so g + c * 5, none⟩)) ∧ Below x.heap.size x w') := fun g hg hu x hx => shelf_any V a hw g c hg h8 (HSS.out g hg hu).1 (HSS.out g hg hu).2 x (HK.out.below hx hkl) (HM.out.below hx)
          have HSH0 : Hid (∀ x, Below w.heap.size w x → Calls Tryz.prog 62 #[.agg #[.pointer (some ⟨hw, 0, none⟩), .int .i64 (c : Nat)], .int .i64 0] x fun e w' => e = .returned (.pointer (some ⟨a.sb 0, a.so 0 + c * 5, none⟩)) ∧ Below x.heap.size x w') := HSH.out 0 (by have := HN8.out; omega) HT.out.u0
          have HCEL : Hid (∀ g, g < V.gn → (V.gv g).us = true → a.sb g < w.heap.size ∧ w.rangeAt (a.sb g) (a.so g + c * 5) (shC (V.gv g) c)) := fun g hg hu => by
            have h1 := (HSS.out g hg hu).1
            obtain ⟨_, s2, s3⟩ := HM.out.s g hg (by omega)
            exact ⟨s2, s3 c h1⟩
          obtain ⟨s2, s3⟩ := HCEL.out 0 (by have := HN8.out; omega) HT.out.u0
          have f1 := s3 1 _ rfl
          have f2 := s3 2 _ rfl
          have f3 := s3 3 _ rfl
          clear s3 HC
          cases r1 : ((V.gv 0).s1 c)
          case true =>
            go_wp2_with (first | (go_at_call 30; refine (lane_any hw _ _).mono ?_; rintro e w1 ⟨rfl, hb1⟩) | (go_at_call 62; refine (HSH0.out _ ((HB.out.trans (hb1.mono hz)).alloc (Nat.le_trans hz hb1.size) _)).mono ?_; rintro e w2 ⟨rfl, hb2⟩; have hB1 := ((HB.out.trans (hb1.mono hz)).alloc (Nat.le_trans hz hb1.size) (.cells #[.pointer (some ⟨hw, 0, none⟩), .int .i64 (c : Nat)] 51)); have hB2 := hB1.trans (hb2.mono hB1.size); have d1 := (hB2.cell (p := ⟨a.sb 0, a.so 0 + c * 5 + 1, none⟩) s2).trans f1; have d2 := (hB2.cell (p := ⟨a.sb 0, a.so 0 + c * 5 + 2, none⟩) s2).trans f2; have d3 := (hB2.cell (p := ⟨a.sb 0, a.so 0 + c * 5 + 3, none⟩) s2).trans f3))
            go_ret
            exact ⟨ret_boolB (HFC.out (by simp [rootH, r1])), hB2⟩
          cases r2 : ((V.gv 0).s2 c != 0)
          case true =>
            go_wp2_with (first | (go_at_call 30; refine (lane_any hw _ _).mono ?_; rintro e w1 ⟨rfl, hb1⟩) | (go_at_call 62; refine (HSH0.out _ ((HB.out.trans (hb1.mono hz)).alloc (Nat.le_trans hz hb1.size) _)).mono ?_; rintro e w2 ⟨rfl, hb2⟩; have hB1 := ((HB.out.trans (hb1.mono hz)).alloc (Nat.le_trans hz hb1.size) (.cells #[.pointer (some ⟨hw, 0, none⟩), .int .i64 (c : Nat)] 51)); have hB2 := hB1.trans (hb2.mono hB1.size); have d1 := (hB2.cell (p := ⟨a.sb 0, a.so 0 + c * 5 + 1, none⟩) s2).trans f1; have d2 := (hB2.cell (p := ⟨a.sb 0, a.so 0 + c * 5 + 2, none⟩) s2).trans f2; have d3 := (hB2.cell (p := ⟨a.sb 0, a.so 0 + c * 5 + 3, none⟩) s2).trans f3))
            go_ret
            exact ⟨ret_boolB (HFC.out (by simp [rootH]; simp at r2; simp [r1, r2])), hB2⟩
          cases r3 : ((V.gv 0).s3 c != 10)
          case true =>
            go_wp2_with (first | (go_at_call 30; refine (lane_any hw _ _).mono ?_; rintro e w1 ⟨rfl, hb1⟩) | (go_at_call 62; refine (HSH0.out _ ((HB.out.trans (hb1.mono hz)).alloc (Nat.le_trans hz hb1.size) _)).mono ?_; rintro e w2 ⟨rfl, hb2⟩; have hB1 := ((HB.out.trans (hb1.mono hz)).alloc (Nat.le_trans hz hb1.size) (.cells #[.pointer (some ⟨hw, 0, none⟩), .int .i64 (c : Nat)] 51)); have hB2 := hB1.trans (hb2.mono hB1.size); have d1 := (hB2.cell (p := ⟨a.sb 0, a.so 0 + c * 5 + 1, none⟩) s2).trans f1; have d2 := (hB2.cell (p := ⟨a.sb 0, a.so 0 + c * 5 + 2, none⟩) s2).trans f2; have d3 := (hB2.cell (p := ⟨a.sb 0, a.so 0 + c * 5 + 3, none⟩) s2).trans f3))
            go_ret
            exact ⟨ret_boolB (HFC.out (by simp [rootH]; simp at r3; simp [r1, r3])), hB2⟩
          have HRT : Hid (rootH V c = true) := by show rootH V c = true; simp at r2 r3; simp [rootH, r1, r2, r3]
          go_wp2_with (first | (go_at_call 30; refine (lane_any hw _ _).mono ?_; rintro e w1 ⟨rfl, hb1⟩) | (go_at_call 62; refine (HSH0.out _ ((HB.out.trans (hb1.mono hz)).alloc (Nat.le_trans hz hb1.size) _)).mono ?_; rintro e w2 ⟨rfl, hb2⟩; have hB1 := ((HB.out.trans (hb1.mono hz)).alloc (Nat.le_trans hz hb1.size) (.cells #[.pointer (some ⟨hw, 0, none⟩), .int .i64 (c : Nat)] 51)); have hB2 := hB1.trans (hb2.mono hB1.size); have d1 := (hB2.cell (p := ⟨a.sb 0, a.so 0 + c * 5 + 1, none⟩) s2).trans f1; have d2 := (hB2.cell (p := ⟨a.sb 0, a.so 0 + c * 5 + 2, none⟩) s2).trans f2; have d3 := (hB2.cell (p := ⟨a.sb 0, a.so 0 + c * 5 + 3, none⟩) s2).trans f3))
          have HLK : Hid (Bk w2 w1.heap.size 51 #[.pointer (some ⟨hw, 0, none⟩), .int .i64 (c : Nat)]) := (Bk.new w1 _ _).below hb2 (Bk.new w1 _ _).lt
          have HB2 := Lib.hid hB2
          clear hB1 hB2 d1 d2 d3 f1 f2 f3 r1 r2 r3 hb1 hb2 s2 HSH0
          go_loopw [10] (fun i wr => ∃ g : Nat, 1 ≤ g ∧ g ≤ 8 ∧ i = .int .i64 g ∧ Hid (allTo (laneI V c) g = true) ∧ Hid (Bk wr w1.heap.size 51 #[.pointer (some ⟨hw, 0, none⟩), .int .i64 (c : Nat)]) ∧ Hid (Below w.heap.size w wr)) (fun i _ => 8 - (intOf i).toNat)
          case atStart => exact ⟨1, Nat.le_refl _, by omega, rfl, (by simp [allTo, laneI] : allTo (laneI V c) 1 = true), HLK, HB2⟩
          case round =>
            clear HLK HB2 HB hz
            obtain ⟨g, hg1, hg8, rfl, HLA, HL, HB⟩ := hrel
            have hz := HB.out.size
            by_cases hgt : g < 8
            · have hgn : Hid (g < V.gn) := by have := HN8.out; show g < V.gn; omega
              have l0 := HL.out.cell 0
              have l1 := HL.out.cell 1
              have j3 := (HB.out.cell (p := ⟨hw, 3, none⟩) hkl).trans k3
              have e0 := (HB.out.cell (p := ⟨a.ga, a.og + g * 14, none⟩) hgl).trans (HM.out.g g hgn.out 0 _ rfl)
              have HNX : Hid (laneI V c g = true → allTo (laneI V c) (g + 1) = true) := fun h => allTo_next _ g HLA.out h
              have HNF : Hid (laneI V c g = false → false = RES) := fun h => HFC.out (by rw [allTo_false _ g _ hgn.out h, Bool.and_false])
              have hgi : (1 : Int) ≤ g := by omega
              have hgi8 : (g : Int) < 8 := by omega
              have h8i : (g : Int) < (V.gn : Nat) := by have := hgn.out; omega
              clear HLA
              cases hu : (V.gv g).us
              · have HLT : Hid (laneI V c g = true) := by show laneI V c g = true; simp [laneI, hu]
                rw [hu] at e0
                go_wp2
                go_roundw
                case rel => exact ⟨g + 1, by omega, by omega, by go_num, HNX.out HLT.out, HL, HB.out⟩
                case measure => simp [intOf]; omega
              · rw [hu] at e0
                obtain ⟨p1, p2, p3, p4⟩ := HT.out.pa g (by omega) hgt hu
                have HSG := Lib.hid (HSH.out g hgn.out hu)
                obtain ⟨y2, y3⟩ := HCEL.out g hgn.out hu
                have hpn : pN V g < V.gn := by have := HN8.out; omega
                have HSP := Lib.hid (HSH.out (pN V g) hpn p3)
                obtain ⟨z2, z3⟩ := HCEL.out (pN V g) hpn p3
                have x1 := y3 1 _ rfl
                have x2 := y3 2 _ rfl
                have x3 := y3 3 _ rfl
                have x0 := z3 0 _ rfl
                rw [Nat.add_zero] at x0
                have xp := HM.out.g g hgn.out 1 _ rfl
                rw [p1] at xp
                have HNG := Lib.hid (numH_t (allTo_at (numH V g) c _ (HSS.out g hgn.out hu).1 (allTo_at (fun g => allTo (numH V g) (V.gv g).sn) g _ hgn.out HNUM.out)))
                have HNP := Lib.hid (numH_t (allTo_at (numH V (pN V g)) c _ (HSS.out (pN V g) hpn p3).1 (allTo_at (fun g => allTo (numH V g) (V.gv g).sn) (pN V g) _ hpn HNUM.out)))
                have HACT : Hid (∀ x, Below w.heap.size w x → Calls Tryz.prog 94 #[.agg #[.pointer (some ⟨hw, 0, none⟩), .int .i64 (c : Nat)], .int .i64 g] x fun e w' => e = .returned (.bool (actB V g c)) ∧ Below x.heap.size x w') := fun x hx => active_any V a hw g c h8 htn HSS.out x (HK.out.below hx hkl) (HM.out.below hx)
                have HDRY : Hid (∀ x, Below w.heap.size w x → Calls Tryz.prog 55 #[.agg #[.pointer (some ⟨hw, 0, none⟩), .int .i64 (c : Nat)], .int .i64 g] x fun e w' => e = .returned (.bool (dryB V g c)) ∧ Below x.heap.size x w') := fun x hx => dry_any V a hw g c hgn.out h8 (fun hq => by rw [dn_of HGG.out hgn.out hu hq]; exact hct) (HDN.out g hgn.out) x (HK.out.below hx hkl) (HM.out.below hx)
                have HLI : Hid (laneI V c g = (((V.gv g).s1 c == (actB V g c && !dryB V g c)) && (!(V.gv g).s1 c || placedB ((V.gv g).s2 c) ((V.gv (pN V g)).s0 c) ((V.gv g).s3 c)))) := by show laneI V c g = _; simp [laneI, hu, onH, show g ≠ 0 by omega]
                clear y3 z3 p1 p2 p3 p4 hpn HSS
                go_upto_region 23 with (go_at_call 62; refine (HSG.out _ HB.out).mono ?_; rintro e w3 ⟨rfl, hb3⟩)
                go_cut [138] from 76 to 138 (fun c' wx => c' = .bool (!(laneI V c g)) ∧ Hid (Below w3.heap.size w3 wx))
                case first =>
                  have hbx := HB.out.trans (hb3.mono hz)
                  have hkx := HL.out.below hb3 HL.out.lt
                  have hzx := hbx.size
                  have KS : ∀ w', Below w3.heap.size w3 w' → (fun w' => Below w3.heap.size w3 w' ∧ w'.cell? ⟨w1.heap.size, 0, none⟩ = some (.pointer (some ⟨hw, 0, none⟩)) ∧ w'.cell? ⟨w1.heap.size, 1, none⟩ = some (.int .i64 (c : Nat)) ∧ w'.cell? ⟨hw, 3, none⟩ = some (.slice (some ⟨a.ga, a.og, none⟩) V.gn a.gc) ∧ w'.cell? ⟨a.ga, a.og + g * 14 + 1, none⟩ = some (.int .i64 (pN V g : Nat)) ∧ w'.cell? ⟨a.sb g, a.so g + c * 5 + 1, none⟩ = some (.bool ((V.gv g).s1 c)) ∧ w'.cell? ⟨a.sb g, a.so g + c * 5 + 2, none⟩ = some (.int .i64 ((V.gv g).s2 c)) ∧ w'.cell? ⟨a.sb g, a.so g + c * 5 + 3, none⟩ = some (.int .i64 ((V.gv g).s3 c)) ∧ w'.cell? ⟨a.sb (pN V g), a.so (pN V g) + c * 5, none⟩ = some (.int .i64 ((V.gv (pN V g)).s0 c))) w' := fun w' h => ⟨h, (h.cell (p := ⟨w1.heap.size, 0, none⟩) hkx.lt).trans (hkx.cell 0), (h.cell (p := ⟨w1.heap.size, 1, none⟩) hkx.lt).trans (hkx.cell 1), (h.cell (p := ⟨hw, 3, none⟩) (Nat.lt_of_lt_of_le hkl hzx)).trans ((hbx.cell (p := ⟨hw, 3, none⟩) hkl).trans k3), (h.cell (p := ⟨a.ga, a.og + g * 14 + 1, none⟩) (Nat.lt_of_lt_of_le hgl hzx)).trans ((hbx.cell (p := ⟨a.ga, a.og + g * 14 + 1, none⟩) hgl).trans xp), (h.cell (p := ⟨a.sb g, a.so g + c * 5 + 1, none⟩) (Nat.lt_of_lt_of_le y2 hzx)).trans ((hbx.cell (p := ⟨a.sb g, a.so g + c * 5 + 1, none⟩) y2).trans x1), (h.cell (p := ⟨a.sb g, a.so g + c * 5 + 2, none⟩) (Nat.lt_of_lt_of_le y2 hzx)).trans ((hbx.cell (p := ⟨a.sb g, a.so g + c * 5 + 2, none⟩) y2).trans x2), (h.cell (p := ⟨a.sb g, a.so g + c * 5 + 3, none⟩) (Nat.lt_of_lt_of_le y2 hzx)).trans ((hbx.cell (p := ⟨a.sb g, a.so g + c * 5 + 3, none⟩) y2).trans x3), (h.cell (p := ⟨a.sb (pN V g), a.so (pN V g) + c * 5, none⟩) (Nat.lt_of_lt_of_le z2 hzx)).trans ((hbx.cell (p := ⟨a.sb (pN V g), a.so (pN V g) + c * 5, none⟩) z2).trans x0)⟩
                  have KT : ∀ wa wb, (fun w' => Below w3.heap.size w3 w' ∧ w'.cell? ⟨w1.heap.size, 0, none⟩ = some (.pointer (some ⟨hw, 0, none⟩)) ∧ w'.cell? ⟨w1.heap.size, 1, none⟩ = some (.int .i64 (c : Nat)) ∧ w'.cell? ⟨hw, 3, none⟩ = some (.slice (some ⟨a.ga, a.og, none⟩) V.gn a.gc) ∧ w'.cell? ⟨a.ga, a.og + g * 14 + 1, none⟩ = some (.int .i64 (pN V g : Nat)) ∧ w'.cell? ⟨a.sb g, a.so g + c * 5 + 1, none⟩ = some (.bool ((V.gv g).s1 c)) ∧ w'.cell? ⟨a.sb g, a.so g + c * 5 + 2, none⟩ = some (.int .i64 ((V.gv g).s2 c)) ∧ w'.cell? ⟨a.sb g, a.so g + c * 5 + 3, none⟩ = some (.int .i64 ((V.gv g).s3 c)) ∧ w'.cell? ⟨a.sb (pN V g), a.so (pN V g) + c * 5, none⟩ = some (.int .i64 ((V.gv (pN V g)).s0 c))) wa → Below wa.heap.size wa wb → (fun w' => Below w3.heap.size w3 w' ∧ w'.cell? ⟨w1.heap.size, 0, none⟩ = some (.pointer (some ⟨hw, 0, none⟩)) ∧ w'.cell? ⟨w1.heap.size, 1, none⟩ = some (.int .i64 (c : Nat)) ∧ w'.cell? ⟨hw, 3, none⟩ = some (.slice (some ⟨a.ga, a.og, none⟩) V.gn a.gc) ∧ w'.cell? ⟨a.ga, a.og + g * 14 + 1, none⟩ = some (.int .i64 (pN V g : Nat)) ∧ w'.cell? ⟨a.sb g, a.so g + c * 5 + 1, none⟩ = some (.bool ((V.gv g).s1 c)) ∧ w'.cell? ⟨a.sb g, a.so g + c * 5 + 2, none⟩ = some (.int .i64 ((V.gv g).s2 c)) ∧ w'.cell? ⟨a.sb g, a.so g + c * 5 + 3, none⟩ = some (.int .i64 ((V.gv g).s3 c)) ∧ w'.cell? ⟨a.sb (pN V g), a.so (pN V g) + c * 5, none⟩ = some (.int .i64 ((V.gv (pN V g)).s0 c))) wb := fun wa wb h hab => KS wb (h.1.trans (hab.mono h.1.size))
                  have HKS := Lib.hid KS
                  have HKT := Lib.hid KT
                  clear KS KT
                  clear x0 x1 x2 x3 xp l0 l1 j3 e0 hkx
                  refine wp_region_held_drew (S := (fun w' => Below w3.heap.size w3 w' ∧ w'.cell? ⟨w1.heap.size, 0, none⟩ = some (.pointer (some ⟨hw, 0, none⟩)) ∧ w'.cell? ⟨w1.heap.size, 1, none⟩ = some (.int .i64 (c : Nat)) ∧ w'.cell? ⟨hw, 3, none⟩ = some (.slice (some ⟨a.ga, a.og, none⟩) V.gn a.gc) ∧ w'.cell? ⟨a.ga, a.og + g * 14 + 1, none⟩ = some (.int .i64 (pN V g : Nat)) ∧ w'.cell? ⟨a.sb g, a.so g + c * 5 + 1, none⟩ = some (.bool ((V.gv g).s1 c)) ∧ w'.cell? ⟨a.sb g, a.so g + c * 5 + 2, none⟩ = some (.int .i64 ((V.gv g).s2 c)) ∧ w'.cell? ⟨a.sb g, a.so g + c * 5 + 3, none⟩ = some (.int .i64 ((V.gv g).s3 c)) ∧ w'.cell? ⟨a.sb (pN V g), a.so (pN V g) + c * 5, none⟩ = some (.int .i64 ((V.gv (pN V g)).s0 c)))) (by kernel_rfl) (HKS.out _ (Below.refl _ _).drew) (fun hH => ?_)
                  refine rgT 0 ?_ ?_ hH ?_; rotate_left; · (intro w s; (try dsimp only at s); go_simp; try with_reducible rfl)
                  try simp only [rgp, rg0, rg1]
                  refine rgT 1 ?_ ?_ hH ?_; rotate_left; · (intro w s; (try dsimp only at s); go_simp; try with_reducible rfl)
                  try simp only [rgp, rg0, rg1]
                  refine rgT 2 ?_ ?_ hH ?_; rotate_left; · (intro w s; (try dsimp only at s); go_simp; try with_reducible rfl)
                  try simp only [rgp, rg0, rg1]
                  rcases boolFT ((V.gv g).s1 c) with a1 | a1
                  · refine rgT 3 ?_ ?_ hH ?_; rotate_left; · (intro w s; (try dsimp only at s); go_simp; try with_reducible rfl)
                    try simp only [rgp, rg0, rg1]
                    refine rgT 4 ?_ ?_ hH ?_; rotate_left; · (intro w s; (try dsimp only at s); go_simp; try with_reducible rfl)
                    try simp only [rgp, rg0, rg1]
                    refine rgT 5 ?_ ?_ hH ?_; rotate_left; · (intro w s; (try dsimp only at s); go_simp; try with_reducible rfl)
                    try simp only [rgp, rg0, rg1]
                    cases a2 : (actB V g c)
                    · refine rgS 6 (fun K hK => ?_)
                      go_simp
                      (go_at_call 94; refine (HACT.out _ (hbx.trans (hH.1.mono hbx.size))).mono ?_; rintro e wv1 ⟨rfl, hbb1⟩)
                      go_wp2_with fail
                      refine hK.out _ _ (HKT.out _ _ hH hbb1) (fun hH_1 => ?_)
                      clear hK K
                      try simp only [rgp, rgn, rg0, rg1]
                      refine rgT 7 ?_ ?_ hH_1 ?_; rotate_left; · (intro w s; (try dsimp only at s); go_simp; try with_reducible rfl)
                      try simp only [rgp, rg0, rg1]
                      refine rgU 8 hH_1 ?_; try simp only [rgp, rg0, rg1]
                      refine rgU 9 hH_1 ?_; try simp only [rgp, rg0, rg1]
                      refine rgU 10 hH_1 ?_; try simp only [rgp, rg0, rg1]
                      refine rgU 11 hH_1 ?_; try simp only [rgp, rg0, rg1]
                      refine rgT 12 ?_ ?_ hH_1 ?_; rotate_left; · (intro w s; (try dsimp only at s); go_simp; try with_reducible rfl)
                      try simp only [rgp, rg0, rg1]
                      refine rgT 13 ?_ ?_ hH_1 ?_; rotate_left; · (intro w s; (try dsimp only at s); go_simp; try with_reducible rfl)
                      try simp only [rgp, rg0, rg1]
                      refine rgT 14 ?_ ?_ hH_1 ?_; rotate_left; · (intro w s; (try dsimp only at s); go_simp; try with_reducible rfl)
                      try simp only [rgp, rg0, rg1]
                      refine rgT 15 ?_ ?_ hH_1 ?_; rotate_left; · (intro w s; (try dsimp only at s); go_simp; try with_reducible rfl)
                      try simp only [rgp, rg0, rg1]
                      refine rgT 16 ?_ ?_ hH_1 ?_; rotate_left; · (intro w s; (try dsimp only at s); go_simp; try with_reducible rfl)
                      try simp only [rgp, rg0, rg1]
                      refine rgT 17 ?_ ?_ hH_1 ?_; rotate_left; · (intro w s; (try dsimp only at s); go_simp; try with_reducible rfl)
                      try simp only [rgp, rg0, rg1]
                      refine rgT 18 ?_ ?_ hH_1 ?_; rotate_left; · (intro w s; (try dsimp only at s); go_simp; try with_reducible rfl)
                      try simp only [rgp, rg0, rg1]
                      refine rgT 19 ?_ ?_ hH_1 ?_; rotate_left; · (intro w s; (try dsimp only at s); go_simp; try with_reducible rfl)
                      try simp only [rgp, rg0, rg1]
                      refine rgU 20 hH_1 ?_; try simp only [rgp, rg0, rg1]
                      refine rgU 21 hH_1 ?_; try simp only [rgp, rg0, rg1]
                      refine rgU 22 hH_1 ?_; try simp only [rgp, rg0, rg1]
                      refine rgU 23 hH_1 ?_; try simp only [rgp, rg0, rg1]
                      refine rgU 24 hH_1 ?_; try simp only [rgp, rg0, rg1]
                      refine rgU 25 hH_1 ?_; try simp only [rgp, rg0, rg1]
                      refine rgU 26 hH_1 ?_; try simp only [rgp, rg0, rg1]
                      refine rgU 27 hH_1 ?_; try simp only [rgp, rg0, rg1]
                      refine rgU 28 hH_1 ?_; try simp only [rgp, rg0, rg1]
                      refine rgU 29 hH_1 ?_; try simp only [rgp, rg0, rg1]
                      refine rgU 30 hH_1 ?_; try simp only [rgp, rg0, rg1]
                      refine rgU 31 hH_1 ?_; try simp only [rgp, rg0, rg1]
                      refine rgU 32 hH_1 ?_; try simp only [rgp, rg0, rg1]
                      refine rgU 33 hH_1 ?_; try simp only [rgp, rg0, rg1]
                      refine rgU 34 hH_1 ?_; try simp only [rgp, rg0, rg1]
                      refine rgU 35 hH_1 ?_; try simp only [rgp, rg0, rg1]
                      refine rgU 36 hH_1 ?_; try simp only [rgp, rg0, rg1]
                      refine rgU 37 hH_1 ?_; try simp only [rgp, rg0, rg1]
                      refine rgU 38 hH_1 ?_; try simp only [rgp, rg0, rg1]
                      refine rgU 39 hH_1 ?_; try simp only [rgp, rg0, rg1]
                      refine rgU 40 hH_1 ?_; try simp only [rgp, rg0, rg1]
                      refine rgU 41 hH_1 ?_; try simp only [rgp, rg0, rg1]
                      refine rgU 42 hH_1 ?_; try simp only [rgp, rg0, rg1]
                      refine rgU 43 hH_1 ?_; try simp only [rgp, rg0, rg1]
                      refine rgT 44 ?_ ?_ hH_1 ?_; rotate_left; · (intro w s; (try dsimp only at s); go_simp; try with_reducible rfl)
                      try simp only [rgp, rg0, rg1]
                      refine rgT 45 ?_ ?_ hH_1 ?_; rotate_left; · (intro w s; (try dsimp only at s); go_simp; try with_reducible rfl)
                      try simp only [rgp, rg0, rg1]
                      refine wpAnyH_done (by kernel_rfl) ?_ _
                      go_wp2
                      go_meet
                      exact ⟨by rw [HLI.out]; simp [a1, a2], hH_1.1⟩
                    · refine rgS 6 (fun K hK => ?_)
                      go_simp
                      (go_at_call 94; refine (HACT.out _ (hbx.trans (hH.1.mono hbx.size))).mono ?_; rintro e wv2 ⟨rfl, hbb2⟩)
                      go_wp2_with fail
                      refine hK.out _ _ (HKT.out _ _ hH hbb2) (fun hH_2 => ?_)
                      clear hK K
                      try simp only [rgp, rgn, rg0, rg1]
                      refine rgT 7 ?_ ?_ hH_2 ?_; rotate_left; · (intro w s; (try dsimp only at s); go_simp; try with_reducible rfl)
                      try simp only [rgp, rg0, rg1]
                      refine rgT 8 ?_ ?_ hH_2 ?_; rotate_left; · (intro w s; (try dsimp only at s); go_simp; try with_reducible rfl)
                      try simp only [rgp, rg0, rg1]
                      refine rgT 9 ?_ ?_ hH_2 ?_; rotate_left; · (intro w s; (try dsimp only at s); go_simp; try with_reducible rfl)
                      try simp only [rgp, rg0, rg1]
                      cases a3 : (dryB V g c)
                      · refine rgS 10 (fun K hK => ?_)
                        go_simp
                        (go_at_call 55; refine (HDRY.out _ (hbx.trans (hH_2.1.mono hbx.size))).mono ?_; rintro e wv3 ⟨rfl, hbb3⟩)
                        go_wp2_with fail
                        refine hK.out _ _ (HKT.out _ _ hH_2 hbb3) (fun hH_3 => ?_)
                        clear hK K
                        try simp only [rgp, rgn, rg0, rg1]
                        refine rgT 11 ?_ ?_ hH_3 ?_; rotate_left; · (intro w s; (try dsimp only at s); go_simp; try with_reducible rfl)
                        try simp only [rgp, rg0, rg1]
                        refine rgT 12 ?_ ?_ hH_3 ?_; rotate_left; · (intro w s; (try dsimp only at s); go_simp; try with_reducible rfl)
                        try simp only [rgp, rg0, rg1]
                        refine rgT 13 ?_ ?_ hH_3 ?_; rotate_left; · (intro w s; (try dsimp only at s); go_simp; try with_reducible rfl)
                        try simp only [rgp, rg0, rg1]
                        refine rgT 14 ?_ ?_ hH_3 ?_; rotate_left; · (intro w s; (try dsimp only at s); go_simp; try with_reducible rfl)
                        try simp only [rgp, rg0, rg1]
                        refine rgU 15 hH_3 ?_; try simp only [rgp, rg0, rg1]
                        refine rgU 16 hH_3 ?_; try simp only [rgp, rg0, rg1]
                        refine rgU 17 hH_3 ?_; try simp only [rgp, rg0, rg1]
                        refine rgU 18 hH_3 ?_; try simp only [rgp, rg0, rg1]
                        refine rgU 19 hH_3 ?_; try simp only [rgp, rg0, rg1]
                        refine rgU 20 hH_3 ?_; try simp only [rgp, rg0, rg1]
                        refine rgU 21 hH_3 ?_; try simp only [rgp, rg0, rg1]
                        refine rgU 22 hH_3 ?_; try simp only [rgp, rg0, rg1]
                        refine rgU 23 hH_3 ?_; try simp only [rgp, rg0, rg1]
                        refine rgU 24 hH_3 ?_; try simp only [rgp, rg0, rg1]
                        refine rgU 25 hH_3 ?_; try simp only [rgp, rg0, rg1]
                        refine rgU 26 hH_3 ?_; try simp only [rgp, rg0, rg1]
                        refine rgU 27 hH_3 ?_; try simp only [rgp, rg0, rg1]
                        refine rgU 28 hH_3 ?_; try simp only [rgp, rg0, rg1]
                        refine rgU 29 hH_3 ?_; try simp only [rgp, rg0, rg1]
                        refine rgU 30 hH_3 ?_; try simp only [rgp, rg0, rg1]
                        refine rgU 31 hH_3 ?_; try simp only [rgp, rg0, rg1]
                        refine rgU 32 hH_3 ?_; try simp only [rgp, rg0, rg1]
                        refine rgU 33 hH_3 ?_; try simp only [rgp, rg0, rg1]
                        refine rgU 34 hH_3 ?_; try simp only [rgp, rg0, rg1]
                        refine rgU 35 hH_3 ?_; try simp only [rgp, rg0, rg1]
                        refine rgU 36 hH_3 ?_; try simp only [rgp, rg0, rg1]
                        refine rgU 37 hH_3 ?_; try simp only [rgp, rg0, rg1]
                        refine rgU 38 hH_3 ?_; try simp only [rgp, rg0, rg1]
                        refine rgU 39 hH_3 ?_; try simp only [rgp, rg0, rg1]
                        refine rgU 40 hH_3 ?_; try simp only [rgp, rg0, rg1]
                        refine rgU 41 hH_3 ?_; try simp only [rgp, rg0, rg1]
                        refine rgU 42 hH_3 ?_; try simp only [rgp, rg0, rg1]
                        refine rgU 43 hH_3 ?_; try simp only [rgp, rg0, rg1]
                        refine rgU 44 hH_3 ?_; try simp only [rgp, rg0, rg1]
                        refine rgT 45 ?_ ?_ hH_3 ?_; rotate_left; · (intro w s; (try dsimp only at s); go_simp; try with_reducible rfl)
                        try simp only [rgp, rg0, rg1]
                        refine wpAnyH_done (by kernel_rfl) ?_ _
                        go_wp2
                        go_meet
                        exact ⟨by rw [HLI.out]; simp [a1, a2, a3], hH_3.1⟩
                      · refine rgS 10 (fun K hK => ?_)
                        go_simp
                        (go_at_call 55; refine (HDRY.out _ (hbx.trans (hH_2.1.mono hbx.size))).mono ?_; rintro e wv4 ⟨rfl, hbb4⟩)
                        go_wp2_with fail
                        refine hK.out _ _ (HKT.out _ _ hH_2 hbb4) (fun hH_4 => ?_)
                        clear hK K
                        try simp only [rgp, rgn, rg0, rg1]
                        refine rgT 11 ?_ ?_ hH_4 ?_; rotate_left; · (intro w s; (try dsimp only at s); go_simp; try with_reducible rfl)
                        try simp only [rgp, rg0, rg1]
                        refine rgT 12 ?_ ?_ hH_4 ?_; rotate_left; · (intro w s; (try dsimp only at s); go_simp; try with_reducible rfl)
                        try simp only [rgp, rg0, rg1]
                        refine rgT 13 ?_ ?_ hH_4 ?_; rotate_left; · (intro w s; (try dsimp only at s); go_simp; try with_reducible rfl)
                        try simp only [rgp, rg0, rg1]
                        refine rgT 14 ?_ ?_ hH_4 ?_; rotate_left; · (intro w s; (try dsimp only at s); go_simp; try with_reducible rfl)
                        try simp only [rgp, rg0, rg1]
                        refine rgT 15 ?_ ?_ hH_4 ?_; rotate_left; · (intro w s; (try dsimp only at s); go_simp; try with_reducible rfl)
                        try simp only [rgp, rg0, rg1]
                        refine rgT 16 ?_ ?_ hH_4 ?_; rotate_left; · (intro w s; (try dsimp only at s); go_simp; try with_reducible rfl)
                        try simp only [rgp, rg0, rg1]
                        refine rgT 17 ?_ ?_ hH_4 ?_; rotate_left; · (intro w s; (try dsimp only at s); go_simp; try with_reducible rfl)
                        try simp only [rgp, rg0, rg1]
                        refine rgT 18 ?_ ?_ hH_4 ?_; rotate_left; · (intro w s; (try dsimp only at s); go_simp; try with_reducible rfl)
                        try simp only [rgp, rg0, rg1]
                        refine rgT 19 ?_ ?_ hH_4 ?_; rotate_left; · (intro w s; (try dsimp only at s); go_simp; try with_reducible rfl)
                        try simp only [rgp, rg0, rg1]
                        refine rgU 20 hH_4 ?_; try simp only [rgp, rg0, rg1]
                        refine rgU 21 hH_4 ?_; try simp only [rgp, rg0, rg1]
                        refine rgU 22 hH_4 ?_; try simp only [rgp, rg0, rg1]
                        refine rgU 23 hH_4 ?_; try simp only [rgp, rg0, rg1]
                        refine rgU 24 hH_4 ?_; try simp only [rgp, rg0, rg1]
                        refine rgU 25 hH_4 ?_; try simp only [rgp, rg0, rg1]
                        refine rgU 26 hH_4 ?_; try simp only [rgp, rg0, rg1]
                        refine rgU 27 hH_4 ?_; try simp only [rgp, rg0, rg1]
                        refine rgU 28 hH_4 ?_; try simp only [rgp, rg0, rg1]
                        refine rgU 29 hH_4 ?_; try simp only [rgp, rg0, rg1]
                        refine rgU 30 hH_4 ?_; try simp only [rgp, rg0, rg1]
                        refine rgU 31 hH_4 ?_; try simp only [rgp, rg0, rg1]
                        refine rgU 32 hH_4 ?_; try simp only [rgp, rg0, rg1]
                        refine rgU 33 hH_4 ?_; try simp only [rgp, rg0, rg1]
                        refine rgU 34 hH_4 ?_; try simp only [rgp, rg0, rg1]
                        refine rgU 35 hH_4 ?_; try simp only [rgp, rg0, rg1]
                        refine rgU 36 hH_4 ?_; try simp only [rgp, rg0, rg1]
                        refine rgU 37 hH_4 ?_; try simp only [rgp, rg0, rg1]
                        refine rgU 38 hH_4 ?_; try simp only [rgp, rg0, rg1]
                        refine rgU 39 hH_4 ?_; try simp only [rgp, rg0, rg1]
                        refine rgU 40 hH_4 ?_; try simp only [rgp, rg0, rg1]
                        refine rgU 41 hH_4 ?_; try simp only [rgp, rg0, rg1]
                        refine rgU 42 hH_4 ?_; try simp only [rgp, rg0, rg1]
                        refine rgU 43 hH_4 ?_; try simp only [rgp, rg0, rg1]
                        refine rgT 44 ?_ ?_ hH_4 ?_; rotate_left; · (intro w s; (try dsimp only at s); go_simp; try with_reducible rfl)
                        try simp only [rgp, rg0, rg1]
                        refine rgT 45 ?_ ?_ hH_4 ?_; rotate_left; · (intro w s; (try dsimp only at s); go_simp; try with_reducible rfl)
                        try simp only [rgp, rg0, rg1]
                        refine wpAnyH_done (by kernel_rfl) ?_ _
                        go_wp2
                        go_meet
                        exact ⟨by rw [HLI.out]; simp [a1, a2, a3], hH_4.1⟩
                  · refine rgT 3 ?_ ?_ hH ?_; rotate_left; · (intro w s; (try dsimp only at s); go_simp; try with_reducible rfl)
                    try simp only [rgp, rg0, rg1]
                    refine rgT 4 ?_ ?_ hH ?_; rotate_left; · (intro w s; (try dsimp only at s); go_simp; try with_reducible rfl)
                    try simp only [rgp, rg0, rg1]
                    refine rgT 5 ?_ ?_ hH ?_; rotate_left; · (intro w s; (try dsimp only at s); go_simp; try with_reducible rfl)
                    try simp only [rgp, rg0, rg1]
                    cases a2 : (actB V g c)
                    · refine rgS 6 (fun K hK => ?_)
                      go_simp
                      (go_at_call 94; refine (HACT.out _ (hbx.trans (hH.1.mono hbx.size))).mono ?_; rintro e wv5 ⟨rfl, hbb5⟩)
                      go_wp2_with fail
                      refine hK.out _ _ (HKT.out _ _ hH hbb5) (fun hH_5 => ?_)
                      clear hK K
                      try simp only [rgp, rgn, rg0, rg1]
                      refine rgT 7 ?_ ?_ hH_5 ?_; rotate_left; · (intro w s; (try dsimp only at s); go_simp; try with_reducible rfl)
                      try simp only [rgp, rg0, rg1]
                      refine rgU 8 hH_5 ?_; try simp only [rgp, rg0, rg1]
                      refine rgU 9 hH_5 ?_; try simp only [rgp, rg0, rg1]
                      refine rgU 10 hH_5 ?_; try simp only [rgp, rg0, rg1]
                      refine rgU 11 hH_5 ?_; try simp only [rgp, rg0, rg1]
                      refine rgT 12 ?_ ?_ hH_5 ?_; rotate_left; · (intro w s; (try dsimp only at s); go_simp; try with_reducible rfl)
                      try simp only [rgp, rg0, rg1]
                      refine rgT 13 ?_ ?_ hH_5 ?_; rotate_left; · (intro w s; (try dsimp only at s); go_simp; try with_reducible rfl)
                      try simp only [rgp, rg0, rg1]
                      refine rgT 14 ?_ ?_ hH_5 ?_; rotate_left; · (intro w s; (try dsimp only at s); go_simp; try with_reducible rfl)
                      try simp only [rgp, rg0, rg1]
                      refine rgU 15 hH_5 ?_; try simp only [rgp, rg0, rg1]
                      refine rgU 16 hH_5 ?_; try simp only [rgp, rg0, rg1]
                      refine rgU 17 hH_5 ?_; try simp only [rgp, rg0, rg1]
                      refine rgU 18 hH_5 ?_; try simp only [rgp, rg0, rg1]
                      refine rgU 19 hH_5 ?_; try simp only [rgp, rg0, rg1]
                      refine rgU 20 hH_5 ?_; try simp only [rgp, rg0, rg1]
                      refine rgU 21 hH_5 ?_; try simp only [rgp, rg0, rg1]
                      refine rgU 22 hH_5 ?_; try simp only [rgp, rg0, rg1]
                      refine rgU 23 hH_5 ?_; try simp only [rgp, rg0, rg1]
                      refine rgU 24 hH_5 ?_; try simp only [rgp, rg0, rg1]
                      refine rgU 25 hH_5 ?_; try simp only [rgp, rg0, rg1]
                      refine rgU 26 hH_5 ?_; try simp only [rgp, rg0, rg1]
                      refine rgU 27 hH_5 ?_; try simp only [rgp, rg0, rg1]
                      refine rgU 28 hH_5 ?_; try simp only [rgp, rg0, rg1]
                      refine rgU 29 hH_5 ?_; try simp only [rgp, rg0, rg1]
                      refine rgU 30 hH_5 ?_; try simp only [rgp, rg0, rg1]
                      refine rgU 31 hH_5 ?_; try simp only [rgp, rg0, rg1]
                      refine rgU 32 hH_5 ?_; try simp only [rgp, rg0, rg1]
                      refine rgU 33 hH_5 ?_; try simp only [rgp, rg0, rg1]
                      refine rgU 34 hH_5 ?_; try simp only [rgp, rg0, rg1]
                      refine rgU 35 hH_5 ?_; try simp only [rgp, rg0, rg1]
                      refine rgU 36 hH_5 ?_; try simp only [rgp, rg0, rg1]
                      refine rgU 37 hH_5 ?_; try simp only [rgp, rg0, rg1]
                      refine rgU 38 hH_5 ?_; try simp only [rgp, rg0, rg1]
                      refine rgU 39 hH_5 ?_; try simp only [rgp, rg0, rg1]
                      refine rgU 40 hH_5 ?_; try simp only [rgp, rg0, rg1]
                      refine rgU 41 hH_5 ?_; try simp only [rgp, rg0, rg1]
                      refine rgU 42 hH_5 ?_; try simp only [rgp, rg0, rg1]
                      refine rgU 43 hH_5 ?_; try simp only [rgp, rg0, rg1]
                      refine rgU 44 hH_5 ?_; try simp only [rgp, rg0, rg1]
                      refine rgT 45 ?_ ?_ hH_5 ?_; rotate_left; · (intro w s; (try dsimp only at s); go_simp; try with_reducible rfl)
                      try simp only [rgp, rg0, rg1]
                      refine wpAnyH_done (by kernel_rfl) ?_ _
                      go_wp2
                      go_meet
                      exact ⟨by rw [HLI.out]; simp [a1, a2], hH_5.1⟩
                    · refine rgS 6 (fun K hK => ?_)
                      go_simp
                      (go_at_call 94; refine (HACT.out _ (hbx.trans (hH.1.mono hbx.size))).mono ?_; rintro e wv6 ⟨rfl, hbb6⟩)
                      go_wp2_with fail
                      refine hK.out _ _ (HKT.out _ _ hH hbb6) (fun hH_6 => ?_)
                      clear hK K
                      try simp only [rgp, rgn, rg0, rg1]
                      refine rgT 7 ?_ ?_ hH_6 ?_; rotate_left; · (intro w s; (try dsimp only at s); go_simp; try with_reducible rfl)
                      try simp only [rgp, rg0, rg1]
                      refine rgT 8 ?_ ?_ hH_6 ?_; rotate_left; · (intro w s; (try dsimp only at s); go_simp; try with_reducible rfl)
                      try simp only [rgp, rg0, rg1]
                      refine rgT 9 ?_ ?_ hH_6 ?_; rotate_left; · (intro w s; (try dsimp only at s); go_simp; try with_reducible rfl)
                      try simp only [rgp, rg0, rg1]
                      cases a3 : (dryB V g c)
                      · refine rgS 10 (fun K hK => ?_)
                        go_simp
                        (go_at_call 55; refine (HDRY.out _ (hbx.trans (hH_6.1.mono hbx.size))).mono ?_; rintro e wv7 ⟨rfl, hbb7⟩)
                        go_wp2_with fail
                        refine hK.out _ _ (HKT.out _ _ hH_6 hbb7) (fun hH_7 => ?_)
                        clear hK K
                        try simp only [rgp, rgn, rg0, rg1]
                        refine rgT 11 ?_ ?_ hH_7 ?_; rotate_left; · (intro w s; (try dsimp only at s); go_simp; try with_reducible rfl)
                        try simp only [rgp, rg0, rg1]
                        refine rgT 12 ?_ ?_ hH_7 ?_; rotate_left; · (intro w s; (try dsimp only at s); go_simp; try with_reducible rfl)
                        try simp only [rgp, rg0, rg1]
                        refine rgT 13 ?_ ?_ hH_7 ?_; rotate_left; · (intro w s; (try dsimp only at s); go_simp; try with_reducible rfl)
                        try simp only [rgp, rg0, rg1]
                        refine rgT 14 ?_ ?_ hH_7 ?_; rotate_left; · (intro w s; (try dsimp only at s); go_simp; try with_reducible rfl)
                        try simp only [rgp, rg0, rg1]
                        refine rgT 15 ?_ ?_ hH_7 ?_; rotate_left; · (intro w s; (try dsimp only at s); go_simp; try with_reducible rfl)
                        try simp only [rgp, rg0, rg1]
                        refine rgT 16 ?_ ?_ hH_7 ?_; rotate_left; · (intro w s; (try dsimp only at s); go_simp; try with_reducible rfl)
                        try simp only [rgp, rg0, rg1]
                        refine rgT 17 ?_ ?_ hH_7 ?_; rotate_left; · (intro w s; (try dsimp only at s); go_simp; try with_reducible rfl)
                        try simp only [rgp, rg0, rg1]
                        refine rgT 18 ?_ ?_ hH_7 ?_; rotate_left; · (intro w s; (try dsimp only at s); go_simp; try with_reducible rfl)
                        try simp only [rgp, rg0, rg1]
                        refine rgT 19 ?_ ?_ hH_7 ?_; rotate_left; · (intro w s; (try dsimp only at s); go_simp; try with_reducible rfl)
                        try simp only [rgp, rg0, rg1]
                        refine rgT 20 ?_ ?_ hH_7 ?_; rotate_left; · (intro w s; (try dsimp only at s); go_simp; try with_reducible rfl)
                        try simp only [rgp, rg0, rg1]
                        refine rgT 21 ?_ ?_ hH_7 ?_; rotate_left; · (intro w s; (try dsimp only at s); go_simp; try with_reducible rfl)
                        try simp only [rgp, rg0, rg1]
                        refine rgT 22 ?_ ?_ hH_7 ?_; rotate_left; · (intro w s; (try dsimp only at s); go_simp; try with_reducible rfl)
                        try simp only [rgp, rg0, rg1]
                        refine rgT 23 ?_ ?_ hH_7 ?_; rotate_left; · (intro w s; (try dsimp only at s); go_simp; try with_reducible rfl)
                        try simp only [rgp, rg0, rg1]
                        refine rgT 24 ?_ ?_ hH_7 ?_; rotate_left; · (intro w s; (try dsimp only at s); go_simp; try with_reducible rfl)
                        try simp only [rgp, rg0, rg1]
                        refine rgT 25 ?_ ?_ hH_7 ?_; rotate_left; · (intro w s; (try dsimp only at s); go_simp; try with_reducible rfl)
                        try simp only [rgp, rg0, rg1]
                        refine rgT 26 ?_ ?_ hH_7 ?_; rotate_left; · (intro w s; (try dsimp only at s); go_simp; try with_reducible rfl)
                        try simp only [rgp, rg0, rg1]
                        refine rgT 27 ?_ ?_ hH_7 ?_; rotate_left; · (intro w s; (try dsimp only at s); go_simp; try with_reducible rfl)
                        try simp only [rgp, rg0, rg1]
                        refine rgT 28 ?_ ?_ hH_7 ?_; rotate_left; · (intro w s; (try dsimp only at s); go_simp; try with_reducible rfl)
                        try simp only [rgp, rg0, rg1]
                        refine rgT 29 ?_ ?_ hH_7 ?_; rotate_left; · (intro w s; (try dsimp only at s); go_simp; try with_reducible rfl)
                        try simp only [rgp, rg0, rg1]
                        refine rgT 30 ?_ ?_ hH_7 ?_; rotate_left; · (intro w s; (try dsimp only at s); go_simp; try with_reducible rfl)
                        try simp only [rgp, rg0, rg1]
                        refine rgT 31 ?_ ?_ hH_7 ?_; rotate_left; · (intro w s; (try dsimp only at s); go_simp; try with_reducible rfl)
                        try simp only [rgp, rg0, rg1]
                        refine rgT 32 ?_ ?_ hH_7 ?_; rotate_left; · (intro w s; (try dsimp only at s); go_simp; try with_reducible rfl)
                        try simp only [rgp, rg0, rg1]
                        refine rgT 33 ?_ ?_ hH_7 ?_; rotate_left; · (intro w s; (try dsimp only at s); go_simp; try with_reducible rfl)
                        try simp only [rgp, rg0, rg1]
                        refine rgT 38 ?_ ?_ hH_7 ?_; rotate_left; · (intro w s; (try dsimp only at s); go_simp; try with_reducible rfl)
                        try simp only [rgp, rg0, rg1]
                        refine rgT 39 ?_ ?_ hH_7 ?_; rotate_left; · (intro w s; (try dsimp only at s); go_simp; try with_reducible rfl)
                        try simp only [rgp, rg0, rg1]
                        refine rgT 40 ?_ ?_ hH_7 ?_; rotate_left; · (intro w s; (try dsimp only at s); go_simp; try with_reducible rfl)
                        try simp only [rgp, rg0, rg1]
                        refine rgT 41 ?_ ?_ hH_7 ?_; rotate_left; · (intro w s; (try dsimp only at s); go_simp; try with_reducible rfl)
                        try simp only [rgp, rg0, rg1]
                        refine rgS 34 (fun K hK => ?_)
                        go_simp
                        (go_at_call 62; refine (HSP.out _ (hbx.trans (hH_7.1.mono hbx.size))).mono ?_; rintro e wv8 ⟨rfl, hbb8⟩)
                        go_wp2_with fail
                        refine hK.out _ _ (HKT.out _ _ hH_7 hbb8) (fun hH_8 => ?_)
                        clear hK K
                        try simp only [rgp, rgn, rg0, rg1]
                        refine rgT 35 ?_ ?_ hH_8 ?_; rotate_left; · (intro w s; (try dsimp only at s); go_simp; try with_reducible rfl)
                        try simp only [rgp, rg0, rg1]
                        refine rgT 36 ?_ ?_ hH_8 ?_; rotate_left; · (intro w s; (try dsimp only at s); go_simp; try with_reducible rfl)
                        try simp only [rgp, rg0, rg1]
                        refine rgT 37 ?_ ?_ hH_8 ?_; rotate_left; · (intro w s; (try dsimp only at s); go_simp; try with_reducible rfl)
                        try simp only [rgp, rg0, rg1]
                        cases a4 : (placedB ((V.gv g).s2 c) ((V.gv (pN V g)).s0 c) ((V.gv g).s3 c))
                        · refine rgS 42 (fun K hK => ?_)
                          go_simp
                          (go_at_call 92; refine (placed_any _ _ _ (timeB_t HNG.out.2.1).1 (timeB_t HNG.out.2.1).2 (timeB_t HNP.out.1).1 (timeB_t HNP.out.1).2 _ _ (Below.refl _ _)).mono ?_; rintro e wv9 ⟨rfl, hbb9⟩)
                          go_wp2_with fail
                          refine hK.out _ _ (HKT.out _ _ hH_8 hbb9) (fun hH_9 => ?_)
                          clear hK K
                          try simp only [rgp, rgn, rg0, rg1]
                          refine rgT 43 ?_ ?_ hH_9 ?_; rotate_left; · (intro w s; (try dsimp only at s); go_simp; try with_reducible rfl)
                          try simp only [rgp, rg0, rg1]
                          refine rgT 44 ?_ ?_ hH_9 ?_; rotate_left; · (intro w s; (try dsimp only at s); go_simp; try with_reducible rfl)
                          try simp only [rgp, rg0, rg1]
                          refine rgT 45 ?_ ?_ hH_9 ?_; rotate_left; · (intro w s; (try dsimp only at s); go_simp; try with_reducible rfl)
                          try simp only [rgp, rg0, rg1]
                          refine wpAnyH_done (by kernel_rfl) ?_ _
                          go_wp2
                          go_meet
                          exact ⟨by rw [HLI.out]; simp [a1, a2, a3, a4], hH_9.1⟩
                        · refine rgS 42 (fun K hK => ?_)
                          go_simp
                          (go_at_call 92; refine (placed_any _ _ _ (timeB_t HNG.out.2.1).1 (timeB_t HNG.out.2.1).2 (timeB_t HNP.out.1).1 (timeB_t HNP.out.1).2 _ _ (Below.refl _ _)).mono ?_; rintro e wv10 ⟨rfl, hbb10⟩)
                          go_wp2_with fail
                          refine hK.out _ _ (HKT.out _ _ hH_8 hbb10) (fun hH_10 => ?_)
                          clear hK K
                          try simp only [rgp, rgn, rg0, rg1]
                          refine rgT 43 ?_ ?_ hH_10 ?_; rotate_left; · (intro w s; (try dsimp only at s); go_simp; try with_reducible rfl)
                          try simp only [rgp, rg0, rg1]
                          refine rgT 44 ?_ ?_ hH_10 ?_; rotate_left; · (intro w s; (try dsimp only at s); go_simp; try with_reducible rfl)
                          try simp only [rgp, rg0, rg1]
                          refine rgT 45 ?_ ?_ hH_10 ?_; rotate_left; · (intro w s; (try dsimp only at s); go_simp; try with_reducible rfl)
                          try simp only [rgp, rg0, rg1]
                          refine wpAnyH_done (by kernel_rfl) ?_ _
                          go_wp2
                          go_meet
                          exact ⟨by rw [HLI.out]; simp [a1, a2, a3, a4], hH_10.1⟩
                      · refine rgS 10 (fun K hK => ?_)
                        go_simp
                        (go_at_call 55; refine (HDRY.out _ (hbx.trans (hH_6.1.mono hbx.size))).mono ?_; rintro e wv11 ⟨rfl, hbb11⟩)
                        go_wp2_with fail
                        refine hK.out _ _ (HKT.out _ _ hH_6 hbb11) (fun hH_11 => ?_)
                        clear hK K
                        try simp only [rgp, rgn, rg0, rg1]
                        refine rgT 11 ?_ ?_ hH_11 ?_; rotate_left; · (intro w s; (try dsimp only at s); go_simp; try with_reducible rfl)
                        try simp only [rgp, rg0, rg1]
                        refine rgT 12 ?_ ?_ hH_11 ?_; rotate_left; · (intro w s; (try dsimp only at s); go_simp; try with_reducible rfl)
                        try simp only [rgp, rg0, rg1]
                        refine rgT 13 ?_ ?_ hH_11 ?_; rotate_left; · (intro w s; (try dsimp only at s); go_simp; try with_reducible rfl)
                        try simp only [rgp, rg0, rg1]
                        refine rgT 14 ?_ ?_ hH_11 ?_; rotate_left; · (intro w s; (try dsimp only at s); go_simp; try with_reducible rfl)
                        try simp only [rgp, rg0, rg1]
                        refine rgU 15 hH_11 ?_; try simp only [rgp, rg0, rg1]
                        refine rgU 16 hH_11 ?_; try simp only [rgp, rg0, rg1]
                        refine rgU 17 hH_11 ?_; try simp only [rgp, rg0, rg1]
                        refine rgU 18 hH_11 ?_; try simp only [rgp, rg0, rg1]
                        refine rgU 19 hH_11 ?_; try simp only [rgp, rg0, rg1]
                        refine rgU 20 hH_11 ?_; try simp only [rgp, rg0, rg1]
                        refine rgU 21 hH_11 ?_; try simp only [rgp, rg0, rg1]
                        refine rgU 22 hH_11 ?_; try simp only [rgp, rg0, rg1]
                        refine rgU 23 hH_11 ?_; try simp only [rgp, rg0, rg1]
                        refine rgU 24 hH_11 ?_; try simp only [rgp, rg0, rg1]
                        refine rgU 25 hH_11 ?_; try simp only [rgp, rg0, rg1]
                        refine rgU 26 hH_11 ?_; try simp only [rgp, rg0, rg1]
                        refine rgU 27 hH_11 ?_; try simp only [rgp, rg0, rg1]
                        refine rgU 28 hH_11 ?_; try simp only [rgp, rg0, rg1]
                        refine rgU 29 hH_11 ?_; try simp only [rgp, rg0, rg1]
                        refine rgU 30 hH_11 ?_; try simp only [rgp, rg0, rg1]
                        refine rgU 31 hH_11 ?_; try simp only [rgp, rg0, rg1]
                        refine rgU 32 hH_11 ?_; try simp only [rgp, rg0, rg1]
                        refine rgU 33 hH_11 ?_; try simp only [rgp, rg0, rg1]
                        refine rgU 34 hH_11 ?_; try simp only [rgp, rg0, rg1]
                        refine rgU 35 hH_11 ?_; try simp only [rgp, rg0, rg1]
                        refine rgU 36 hH_11 ?_; try simp only [rgp, rg0, rg1]
                        refine rgU 37 hH_11 ?_; try simp only [rgp, rg0, rg1]
                        refine rgU 38 hH_11 ?_; try simp only [rgp, rg0, rg1]
                        refine rgU 39 hH_11 ?_; try simp only [rgp, rg0, rg1]
                        refine rgU 40 hH_11 ?_; try simp only [rgp, rg0, rg1]
                        refine rgU 41 hH_11 ?_; try simp only [rgp, rg0, rg1]
                        refine rgU 42 hH_11 ?_; try simp only [rgp, rg0, rg1]
                        refine rgU 43 hH_11 ?_; try simp only [rgp, rg0, rg1]
                        refine rgU 44 hH_11 ?_; try simp only [rgp, rg0, rg1]
                        refine rgT 45 ?_ ?_ hH_11 ?_; rotate_left; · (intro w s; (try dsimp only at s); go_simp; try with_reducible rfl)
                        try simp only [rgp, rg0, rg1]
                        refine wpAnyH_done (by kernel_rfl) ?_ _
                        go_wp2
                        go_meet
                        exact ⟨by rw [HLI.out]; simp [a1, a2, a3], hH_11.1⟩
                case rest =>
                  obtain ⟨rfl, HXX⟩ := hcut
                  have hbx := HB.out.trans (hb3.mono hz)
                  have HBY : Hid (Below w.heap.size w wc) := hbx.trans (HXX.out.mono hbx.size)
                  have HLY : Hid (Bk wc w1.heap.size 51 #[.pointer (some ⟨hw, 0, none⟩), .int .i64 (c : Nat)]) := (HL.out.below hb3 HL.out.lt).below HXX.out (HL.out.below hb3 HL.out.lt).lt
                  clear hbx HXX hb3 x0 x1 x2 x3 xp l0 l1 j3 e0
                  cases hE : laneI V c g
                  · go_wp2
                    go_ret
                    exact ⟨ret_boolB (HNF.out hE), HBY.out⟩
                  · go_wp2
                    go_roundw
                    case rel => exact ⟨g + 1, by omega, by omega, by go_num, HNX.out hE, HLY, HBY⟩
                    case measure => simp [intOf]; omega
            · obtain rfl : g = 8 := by omega
              have HXT := Lib.hid (HXC.out (by rw [HRT.out, HN8.out, HLA.out]; rfl))
              go_wp2
              go_roundw
              case rel => exact ⟨c + 1, by omega, by go_num, HXT, HB⟩
              case measure => simp [intOf]; omega
        · obtain rfl : c = V.cn := by omega
          go_wp2
          go_ret
          exact ⟨ret_boolB (HRES.out true HNUM.out HC.out.symm), HB.out⟩
end Go.Proofs.YtndbmeedimhohaaGreat

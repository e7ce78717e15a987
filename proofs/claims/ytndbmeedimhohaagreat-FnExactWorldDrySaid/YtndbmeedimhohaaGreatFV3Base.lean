/- Worlds: lines (printed by mkv.py). -/
import Derived.Test.YtndbmeedimhohaaGreatFV2Base
namespace Go.Proofs.YtndbmeedimhohaaGreat
open Go.RowKit
set_option maxHeartbeats 4000000 in
theorem active_any (V : WV) (a : WA) (hw g c : Nat) (h8 : V.gn ≤ 1048576) (htn : V.tn ≤ 1048576) (hs : ∀ k, k < V.gn → (V.gv k).us = true → c < (V.gv k).sn ∧ (V.gv k).sn ≤ 1048576) (w : World) (hk : Bk w hw 33 #[.int .i64 V.now, .slice (some ⟨a.ca, a.oc, none⟩) V.cn a.cc, .slice (some ⟨a.ta, a.ot, none⟩) V.tn a.tc, .slice (some ⟨a.ga, a.og, none⟩) V.gn a.gc]) (m : MR w V a) :
    Calls Tryz.prog 94 #[.agg #[.pointer (some ⟨hw, 0, none⟩), .int .i64 (c : Nat)], .int .i64 g] w fun e w' => e = .returned (.bool (actB V g c)) ∧ Below w.heap.size w w' := by
  obtain ⟨k0, k1, k2, k3⟩ := hk.four
  have hkl := hk.lt
  have HK := Lib.hid hk
  have HM := Lib.hid m
  have HSS := Lib.hid hs
  clear hk m hs
  go_enter Tryz.func94, Tryz.ntmps94
  go_wp2
  go_loopw [13] (fun i wr => ∃ k : Nat, k ≤ V.tn ∧ i = .int .i64 k ∧ Hid (anyTo (fun t => queB V t g c) k = false) ∧ Hid (Bk wr w.heap.size 51 #[.pointer (some ⟨hw, 0, none⟩), .int .i64 (c : Nat)]) ∧ Hid (Below w.heap.size w wr)) (fun i _ => V.tn - (intOf i).toNat)
  case atStart => exact ⟨0, Nat.zero_le _, rfl, rfl, Bk.new _ _ _, (Below.refl _ w).alloc (Nat.le_refl _) _⟩
  case round =>
    obtain ⟨k, hk, rfl, HA, HL, HB⟩ := hrel
    have l0 := HL.out.cell 0
    have l1 := HL.out.cell 1
    have hz := HB.out.size
    by_cases hlt : k < V.tn
    · cases hq : queB V k g c
      · have HA2 : Hid (anyTo (fun t => queB V t g c) (k + 1) = false) := anyTo_next _ k HA.out hq
        have HQ : Hid (∀ x : World, Below wr.heap.size wr x → Calls Tryz.prog 113 #[.agg #[.pointer (some ⟨hw, 0, none⟩), .int .i64 (c : Nat)], .int .i64 k, .int .i64 g] x fun e w' => e = .returned (.bool false) ∧ Below x.heap.size x w') := fun x hx => by
          have hwx := HB.out.trans (hx.mono hz)
          have := queues_any V a hw k g c hlt htn x (HK.out.below hwx hkl) (HM.out.below hwx)
          rw [hq] at this
          exact this
        clear hq
        go_wp2_with (go_at_call 113; refine (HQ.out _ (Below.refl _ _)).mono ?_; rintro e w1 ⟨rfl, hb1⟩)
        go_roundw
        case rel => exact ⟨k + 1, by omega, by go_num, HA2, HL.out.below hb1 HL.out.lt, HB.out.trans (hb1.mono hz)⟩
        case measure => simp [intOf]; omega
      · have HN := Lib.hid (anyTo_true (fun t => queB V t g c) k V.tn hlt hq)
        have HQ : Hid (∀ x : World, Below wr.heap.size wr x → Calls Tryz.prog 113 #[.agg #[.pointer (some ⟨hw, 0, none⟩), .int .i64 (c : Nat)], .int .i64 k, .int .i64 g] x fun e w' => e = .returned (.bool true) ∧ Below x.heap.size x w') := fun x hx => by
          have hwx := HB.out.trans (hx.mono hz)
          have := queues_any V a hw k g c hlt htn x (HK.out.below hwx hkl) (HM.out.below hwx)
          rw [hq] at this
          exact this
        clear hq
        go_wp2_with (go_at_call 113; refine (HQ.out _ (Below.refl _ _)).mono ?_; rintro e w1 ⟨rfl, hb1⟩)
        go_ret
        exact ⟨ret_boolB (by simp [actB, HN.out]), HB.out.trans (hb1.mono hz)⟩
    · obtain rfl : k = V.tn := by omega
      have j3 := (HB.out.cell (p := ⟨hw, 3, none⟩) hkl).trans k3
      go_wp2
      go_loopw [27] (fun i wr => ∃ k : Nat, k ≤ V.gn ∧ i = .int .i64 k ∧ Hid (anyTo (fun t => holdB V t g c) k = false) ∧ Hid (Bk wr w.heap.size 51 #[.pointer (some ⟨hw, 0, none⟩), .int .i64 (c : Nat)]) ∧ Hid (Below w.heap.size w wr)) (fun i _ => V.gn - (intOf i).toNat)
      case atStart => exact ⟨0, Nat.zero_le _, rfl, rfl, HL, HB⟩
      case round =>
        clear l0 l1 hz HL HB j3
        obtain ⟨k, hk, rfl, HC, HL, HB⟩ := hrel
        have l0 := HL.out.cell 0
        have l1 := HL.out.cell 1
        have hz := HB.out.size
        by_cases hlt2 : k < V.gn
        · have hh := fun x (hx : Below _ _ x) => holds_any V a hw k g c hlt2 h8 (HSS.out k hlt2) x (HK.out.below (HB.out.trans (hx.mono hz)) hkl) (HM.out.below (HB.out.trans (hx.mono hz)))
          cases hq : holdB V k g c
          · have HC2 : Hid (anyTo (fun t => holdB V t g c) (k + 1) = false) := anyTo_next _ k HC.out hq
            rw [hq] at hh
            have HH := Lib.hid hh
            clear hh hq
            go_wp2_with (go_at_call 114; refine (HH.out _ (Below.refl _ _)).mono ?_; rintro e w1 ⟨rfl, hb1⟩)
            go_roundw
            case rel => exact ⟨k + 1, by omega, by go_num, HC2, HL.out.below hb1 HL.out.lt, HB.out.trans (hb1.mono hz)⟩
            case measure => simp [intOf]; omega
          · have HN := Lib.hid (anyTo_true (fun t => holdB V t g c) k V.gn hlt2 hq)
            rw [hq] at hh
            have HH := Lib.hid hh
            clear hh hq
            go_wp2_with (go_at_call 114; refine (HH.out _ (Below.refl _ _)).mono ?_; rintro e w1 ⟨rfl, hb1⟩)
            go_ret
            exact ⟨ret_boolB (by simp [actB, HN.out]), HB.out.trans (hb1.mono hz)⟩
        · obtain rfl : k = V.gn := by omega
          go_wp2
          go_ret
          exact ⟨ret_boolB (by simp [actB, HA.out, HC.out]), HB.out⟩
set_option maxHeartbeats 4000000 in
theorem taskThere_any (V : WV) (a : WA) (hw : Nat) (t : Int) (htn : V.tn ≤ 1048576) (w : World) (hk : Bk w hw 33 #[.int .i64 V.now, .slice (some ⟨a.ca, a.oc, none⟩) V.cn a.cc, .slice (some ⟨a.ta, a.ot, none⟩) V.tn a.tc, .slice (some ⟨a.ga, a.og, none⟩) V.gn a.gc]) (m : MR w V a) :
    Calls Tryz.prog 29 #[.pointer (some ⟨hw, 0, none⟩), .int .i64 t] w fun e w' => e = .returned (.bool (thereB V t)) ∧ w = w' := by
  obtain ⟨k0, k1, k2, k3⟩ := hk.four
  cases h1 : inR t 0 ((V.tn : Int) - 1)
  · go_enter Tryz.func29, Tryz.ntmps29
    go_wp2_with (go_at_call 61; refine (inRange_any _ _ _ _).mono ?_; rintro e w' ⟨rfl, rfl⟩)
    go_ret
    exact ⟨ret_boolB (by simp [thereB, h1]), rfl⟩
  obtain ⟨g1, g2⟩ := inR_iff.1 h1
  obtain ⟨n, rfl⟩ := Int.eq_ofNat_of_zero_le g1
  have hr := m.t n (by omega)
  have c0 := hr 0 _ rfl
  simp only [Nat.add_zero] at c0
  clear hk m hr
  cases h2 : ((V.tv n).st != 0)
  all_goals
    go_enter Tryz.func29, Tryz.ntmps29
    go_wp2_with (go_at_call 61; refine (inRange_any _ _ _ _).mono ?_; rintro e w' ⟨rfl, rfl⟩)
    go_ret
    exact ⟨ret_boolB (by simp [thereB, h1, h2]), rfl⟩
set_option maxHeartbeats 4000000 in
theorem cpuThere_any (V : WV) (a : WA) (hw : Nat) (t : Int) (htn : V.cn ≤ 1048576) (w : World) (hk : Bk w hw 33 #[.int .i64 V.now, .slice (some ⟨a.ca, a.oc, none⟩) V.cn a.cc, .slice (some ⟨a.ta, a.ot, none⟩) V.tn a.tc, .slice (some ⟨a.ga, a.og, none⟩) V.gn a.gc]) :
    Calls Tryz.prog 54 #[.pointer (some ⟨hw, 0, none⟩), .int .i64 t] w fun e w' => e = .returned (.bool (inR t 0 ((V.cn : Int) - 1))) ∧ w = w' := by
  obtain ⟨k0, k1, k2, k3⟩ := hk.four
  go_enter Tryz.func54, Tryz.ntmps54
  go_wp2_with (go_at_call 61; refine (inRange_any _ _ _ _).mono ?_; rintro e w' ⟨rfl, rfl⟩)
  go_ret
  exact ⟨rfl, rfl⟩
set_option maxHeartbeats 4000000 in
theorem inLine_any (V : WV) (T : Tree V) (a : WA) (hw t c : Nat) (hs : ∀ k, k < V.gn → (V.gv k).us = true → c < (V.gv k).sn ∧ (V.gv k).sn ≤ 1048576) (ht : t < V.tn) (_htn : V.tn ≤ 1048576) (hu : (V.tv t).st = 1 → usedB (fun i => (V.gv i).us) V.gn (V.tv t).gr = true) (w : World) (hk : Bk w hw 33 #[.int .i64 V.now, .slice (some ⟨a.ca, a.oc, none⟩) V.cn a.cc, .slice (some ⟨a.ta, a.ot, none⟩) V.tn a.tc, .slice (some ⟨a.ga, a.og, none⟩) V.gn a.gc]) (m : MR w V a) :
    Calls Tryz.prog 31 #[.agg #[.pointer (some ⟨hw, 0, none⟩), .int .i64 (c : Nat)], .int .i64 t] w fun e w' => e = .returned (.bool (inlI V t c)) ∧ Below w.heap.size w w' := by
  obtain ⟨k0, k1, k2, k3⟩ := hk.four
  have hr : Hid (w.rangeAt a.ta (a.ot + t * 9) [.int .i64 (V.tv t).st, .int .i64 (V.tv t).gr, .int .i64 (V.tv t).cp, .int .i64 (V.tv t).ni, .int .i64 (V.tv t).ma, .int .i64 (V.tv t).vv, .int .i64 (V.tv t).su, .int .i64 (V.tv t).us, .int .i64 (V.tv t).lo]) := m.t t ht
  have htl := m.tl
  have hkl := hk.lt
  have n8 := T.n8
  cases h1 : ((V.tv t).st == 1)
  · have h1' : ((V.tv t).st != 1) = true := by simp only [bne, h1]; rfl
    clear hk m hs hu
    go_enter Tryz.func31, Tryz.ntmps31
    go_wp2_with (refine wpList_load_mid rfl 54 _ rfl a.ta (a.ot + t * 9) rfl _ _ (rangeAt_below hr.out (B := w.heap.size) (by go_grown) htl) Tryz.underlying54 rfl (by kernel_rfl) ?_)
    go_wp2
    go_ret
    exact ⟨ret_boolB (by simp [inlI, h1]), by go_grown⟩
  have h1' : ((V.tv t).st != 1) = false := by simp only [bne, h1]; rfl
  cases h2 : ((V.tv t).cp == (c : Int))
  · have h2' : ((V.tv t).cp != (c : Int)) = true := by simp only [bne, h2]; rfl
    clear hk m hs hu
    go_enter Tryz.func31, Tryz.ntmps31
    go_wp2_with (refine wpList_load_mid rfl 54 _ rfl a.ta (a.ot + t * 9) rfl _ _ (rangeAt_below hr.out (B := w.heap.size) (by go_grown) htl) Tryz.underlying54 rfl (by kernel_rfl) ?_)
    go_wp2
    go_ret
    exact ⟨ret_boolB (by simp [inlI, h2]), by go_grown⟩
  have h2' : ((V.tv t).cp != (c : Int)) = false := by simp only [bne, h2]; rfl
  obtain ⟨u1, u2, u3⟩ := usedB_iff.1 (hu (by simpa using h1))
  obtain ⟨G, hG⟩ := Int.eq_ofNat_of_zero_le u1
  rw [hG] at u2 u3 hr
  simp only [Int.toNat_natCast] at u3
  have hE : inlI V t c = linB V c G := by simp [inlI, h1, h2, hG]
  have HE := Lib.hid hE
  have HK := Lib.hid hk
  have HM := Lib.hid m
  have HSS := Lib.hid hs
  have HT := Lib.hid T
  clear hk m hs hu hE u1 T
  go_enter Tryz.func31, Tryz.ntmps31
  go_wp2_with (refine wpList_load_mid rfl 54 _ rfl a.ta (a.ot + t * 9) rfl _ _ (rangeAt_below hr.out (B := w.heap.size) (by go_grown) htl) Tryz.underlying54 rfl (by kernel_rfl) ?_)
  go_wp2
  go_loopw [6] (fun i wr => ∃ g : Nat, g < 8 ∧ i = .int .i64 g ∧ (V.gv g).us = true ∧ Hid (linB V c G = linB V c g) ∧ Hid (Bk wr w.heap.size 51 #[.pointer (some ⟨hw, 0, none⟩), .int .i64 (c : Nat)]) ∧ Hid (Below w.heap.size w wr)) (fun i _ => dN V (intOf i).toNat)
  case atStart => exact ⟨G, by omega, rfl, u3, rfl, (Bk.new w _ _).alloc _, ((Below.refl _ w).alloc (Nat.le_refl _) _).alloc (by simp) _⟩
  case round =>
    clear hr
    obtain ⟨g, hg8, rfl, hgu, HLN, HL, HB⟩ := hrel
    have l0 := HL.out.cell 0
    have l1 := HL.out.cell 1
    have hz := HB.out.size
    by_cases h0 : g = 0
    · subst h0
      have HN := Lib.hid (HE.out.trans (HLN.out.trans (HT.out.lin0 c)))
      clear HLN
      go_wp2
      go_ret
      exact ⟨ret_boolB HN.out.symm, HB.out⟩
    · have h0' : ((g : Int) != 0) = true := by simp [h0]
      have hst := HT.out.lin h0 hg8 hgu c
      obtain ⟨p1, p2, p3, p4⟩ := HT.out.pa g h0 hg8 hgu
      obtain ⟨q1, q2⟩ := HSS.out g (by omega) hgu
      obtain ⟨_, s2, s3⟩ := HM.out.s g (by omega) (by omega)
      have d1 := s3 c q1 1 _ rfl
      have c1 := (HB.out.cell (p := ⟨a.ga, a.og + g * 14 + 1, none⟩) HM.out.gl).trans (HM.out.g g (by omega) 1 _ rfl)
      have j3 := (HB.out.cell (p := ⟨hw, 3, none⟩) hkl).trans k3
      rw [p1] at c1
      have HSH : Hid (∀ x, Below wr.heap.size wr x → Calls Tryz.prog 62 #[.agg #[.pointer (some ⟨hw, 0, none⟩), .int .i64 (c : Nat)], .int .i64 g] x fun e w' => e = .returned (.pointer (some ⟨a.sb g, a.so g + c * 5, none⟩)) ∧ Below x.heap.size x w') := fun x hx => shelf_any V a hw g c (by omega) (by omega) q1 q2 x (HK.out.below (HB.out.trans (hx.mono hz)) hkl) (HM.out.below (HB.out.trans (hx.mono hz)))
      clear s3
      cases hs1 : (V.gv g).s1 c
      · rw [hs1, Bool.false_and] at hst
        rw [hs1] at d1
        have HN := Lib.hid (HE.out.trans (HLN.out.trans hst))
        clear HLN hst
        go_wp2_with (go_at_call 62; refine (HSH.out _ (Below.refl _ _)).mono ?_; rintro e w1 ⟨rfl, hb1⟩; have d2 := ((HB.out.trans (hb1.mono hz)).cell (p := ⟨a.sb g, a.so g + c * 5 + 1, none⟩) s2).trans d1)
        go_ret
        exact ⟨ret_boolB HN.out.symm, HB.out.trans (hb1.mono hz)⟩
      · rw [hs1, Bool.true_and] at hst
        rw [hs1] at d1
        have HN := Lib.hid (HLN.out.trans hst)
        clear HLN hst
        go_wp2_with (go_at_call 62; refine (HSH.out _ (Below.refl _ _)).mono ?_; rintro e w1 ⟨rfl, hb1⟩; have d2 := ((HB.out.trans (hb1.mono hz)).cell (p := ⟨a.sb g, a.so g + c * 5 + 1, none⟩) s2).trans d1; have c2 := (hb1.cell (p := ⟨a.ga, a.og + g * 14 + 1, none⟩) (Nat.lt_of_lt_of_le HM.out.gl hz)).trans c1; have j4 := (hb1.cell (p := ⟨hw, 3, none⟩) (Nat.lt_of_lt_of_le hkl hz)).trans j3; have l2 := (hb1.cell (p := ⟨w.heap.size, 0, none⟩) HL.out.lt).trans l0)
        go_roundw
        case rel => exact ⟨pN V g, p2, by go_num, p3, HN, HL.out.below hb1 HL.out.lt, HB.out.trans (hb1.mono hz)⟩
        case measure => simp [intOf]; omega
end Go.Proofs.YtndbmeedimhohaaGreat

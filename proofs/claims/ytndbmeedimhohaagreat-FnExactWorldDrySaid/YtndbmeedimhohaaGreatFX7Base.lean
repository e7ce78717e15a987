/- Worlds: the reference: shelves (printed by mkv.py). -/
import Derived.Test.YtndbmeedimhohaaGreatFX6Base
namespace Go.Proofs.YtndbmeedimhohaaGreat
open Go.RowKit
set_option maxHeartbeats 4000000 in
set_option maxRecDepth 100000 in
theorem sShelfOk_any (V : WV) (T : Tree V) (a : WA) (k c : Nat) (hk : k < V.gn) (hcs : c < (V.gv k).sn) (hcn : V.cn ≤ 4) (htn : V.tn ≤ 1048576) (hG : allTo (groupI V) V.gn = true) (hD : ∀ g, g < V.gn → (V.gv g).dn ≤ 1048576) (w : World) (m : MR w V a) :
    Calls Tryz.prog 44 #[.agg #[.int .i64 V.now, .slice (some ⟨a.ca, a.oc, none⟩) V.cn a.cc, .slice (some ⟨a.ta, a.ot, none⟩) V.tn a.tc, .slice (some ⟨a.ga, a.og, none⟩) V.gn a.gc], .int .i64 k, .int .i64 c] w fun e w' => e = .returned (.bool (shelfS V k c)) ∧ Below w.heap.size w w' := by
  have hbx : Below w.heap.size w (w.alloc (.cells #[.int .i64 V.now, .slice (some ⟨a.ca, a.oc, none⟩) V.cn a.cc, .slice (some ⟨a.ta, a.ot, none⟩) V.tn a.tc, .slice (some ⟨a.ga, a.og, none⟩) V.gn a.gc] 33)) := (Below.refl _ w).alloc (Nat.le_refl _) _
  have HM : Hid (MR (w.alloc (.cells #[.int .i64 V.now, .slice (some ⟨a.ca, a.oc, none⟩) V.cn a.cc, .slice (some ⟨a.ta, a.ot, none⟩) V.tn a.tc, .slice (some ⟨a.ga, a.og, none⟩) V.gn a.gc] 33)) V a) := m.below hbx
  have HN8 := Lib.hid T.n8
  have h8 : V.gn ≤ 1048576 := by have := HN8.out; omega
  have hki : (k : Int) < (V.gn : Nat) := by omega
  have hci : (c : Int) < ((V.gv k).sn : Nat) := by omega
  have hsn := sn_of hG hk
  have hu : (V.gv k).us = true := by
    by_cases h : (V.gv k).us = true
    · exact h
    · exfalso; simp [h] at hsn; omega
  rw [hu, if_pos rfl] at hsn
  have hcc : c < V.cn := by omega
  have h9 : (V.gv k).sn ≤ 1048576 := by omega
  have HES : Hid (shelfS V k c = ((timeB ((V.gv k).s0 c) && timeB ((V.gv k).s2 c) && timeB ((V.gv k).s4 c) && inR ((V.gv k).s3 c) 1 20) && if k = 0 then rootH V c else onH V k c && (!(V.gv k).s1 c || standS ((V.gv k).s2 c) ((V.gv (pN V k)).s0 c) ((V.gv k).s3 c)))) := rfl
  have HRT : Hid (k = 0 → rootH V c = (!(V.gv k).s1 c && ((V.gv k).s2 c == 0) && ((V.gv k).s3 c == 10))) := fun h => by subst h; rfl
  obtain ⟨R, hR⟩ : ∃ R, R = shelfS V k c := ⟨_, rfl⟩
  rw [← hR] at HES ⊢
  obtain ⟨x13, s2, s3⟩ := HM.out.s k hk (by omega)
  have hgr := HM.out.g k hk
  have e0 := hgr 0 _ rfl
  have e1 := hgr 1 _ rfl
  have e2 := hgr 2 _ rfl
  have e3 := hgr 3 _ rfl
  have e4 := hgr 4 _ rfl
  have e5 := hgr 5 _ rfl
  have e6 := hgr 6 _ rfl
  have e7 := hgr 7 _ rfl
  have e8 := hgr 8 _ rfl
  have e9 := hgr 9 _ rfl
  have e10 := hgr 10 _ rfl
  have e11 := hgr 11 _ rfl
  have e12 := hgr 12 _ rfl
  have e13 := hgr 13 _ rfl
  rw [Nat.add_zero, hu] at e0
  rw [x13] at e13
  have HM2 : Hid (MR ((w.alloc (.cells #[.int .i64 V.now, .slice (some ⟨a.ca, a.oc, none⟩) V.cn a.cc, .slice (some ⟨a.ta, a.ot, none⟩) V.tn a.tc, .slice (some ⟨a.ga, a.og, none⟩) V.gn a.gc] 33)).alloc (.cells #[.bool true, .int .i64 (V.gv k).pa, .string (V.gv k).nm, .int .i64 (V.gv k).we, .int .i64 (V.gv k).cp, .int .i64 (V.gv k).pe, .int .i64 (V.gv k).ne, .int .i64 (V.gv k).su, .int .i64 (V.gv k).qu, .int .i64 (V.gv k).po, .int .i64 (V.gv k).sp, .slice (a.gh k).la (V.gv k).ln (a.gh k).lc, .slice (a.gh k).da (V.gv k).dn (a.gh k).dc, .slice (some ⟨a.sb k, a.so k, none⟩) (V.gv k).sn (a.gh k).sc] 68)) V a) := HM.out.below ((Below.refl _ _).alloc (Nat.le_refl _) _)
  obtain ⟨_, z2, z3⟩ := HM2.out.s k hk (by omega)
  have hsh := z3 c hcs
  have d0 := hsh 0 _ rfl
  have d1 := hsh 1 _ rfl
  have d2 := hsh 2 _ rfl
  have d3 := hsh 3 _ rfl
  have d4 := hsh 4 _ rfl
  rw [Nat.add_zero] at d0
  have HMW := Lib.hid m
  have HGG := Lib.hid hG
  have HT := Lib.hid T
  have HD := Lib.hid hD
  have HU := Lib.hid hu
  clear hR m hG T hD hsn hu x13 s2 s3 z2 z3 hgr hsh
  go_enter Tryz.func44, Tryz.ntmps44
  go_upto_region 3 with (fail)
  clear e0 e1 e2 e3 e4 e5 e6 e7 e8 e9 e10 e11 e12 e13 d0 d1 d2 d3 d4 HM HM2
  have hk0 : Bk (((w.alloc (.cells #[.int .i64 V.now, .slice (some ⟨a.ca, a.oc, none⟩) V.cn a.cc, .slice (some ⟨a.ta, a.ot, none⟩) V.tn a.tc, .slice (some ⟨a.ga, a.og, none⟩) V.gn a.gc] 33)).alloc (.cells #[.bool true, .int .i64 (V.gv k).pa, .string (V.gv k).nm, .int .i64 (V.gv k).we, .int .i64 (V.gv k).cp, .int .i64 (V.gv k).pe, .int .i64 (V.gv k).ne, .int .i64 (V.gv k).su, .int .i64 (V.gv k).qu, .int .i64 (V.gv k).po, .int .i64 (V.gv k).sp, .slice (a.gh k).la (V.gv k).ln (a.gh k).lc, .slice (a.gh k).da (V.gv k).dn (a.gh k).dc, .slice (some ⟨a.sb k, a.so k, none⟩) (V.gv k).sn (a.gh k).sc] 68)).alloc (.cells #[.int .i64 ((V.gv k).s0 c), .bool ((V.gv k).s1 c), .int .i64 ((V.gv k).s2 c), .int .i64 ((V.gv k).s3 c), .int .i64 ((V.gv k).s4 c)] 70)) w.heap.size 33 #[.int .i64 V.now, .slice (some ⟨a.ca, a.oc, none⟩) V.cn a.cc, .slice (some ⟨a.ta, a.ot, none⟩) V.tn a.tc, .slice (some ⟨a.ga, a.og, none⟩) V.gn a.gc] := ((Bk.new w _ _).alloc _).alloc _
  have hk1 : Bk (((w.alloc (.cells #[.int .i64 V.now, .slice (some ⟨a.ca, a.oc, none⟩) V.cn a.cc, .slice (some ⟨a.ta, a.ot, none⟩) V.tn a.tc, .slice (some ⟨a.ga, a.og, none⟩) V.gn a.gc] 33)).alloc (.cells #[.bool true, .int .i64 (V.gv k).pa, .string (V.gv k).nm, .int .i64 (V.gv k).we, .int .i64 (V.gv k).cp, .int .i64 (V.gv k).pe, .int .i64 (V.gv k).ne, .int .i64 (V.gv k).su, .int .i64 (V.gv k).qu, .int .i64 (V.gv k).po, .int .i64 (V.gv k).sp, .slice (a.gh k).la (V.gv k).ln (a.gh k).lc, .slice (a.gh k).da (V.gv k).dn (a.gh k).dc, .slice (some ⟨a.sb k, a.so k, none⟩) (V.gv k).sn (a.gh k).sc] 68)).alloc (.cells #[.int .i64 ((V.gv k).s0 c), .bool ((V.gv k).s1 c), .int .i64 ((V.gv k).s2 c), .int .i64 ((V.gv k).s3 c), .int .i64 ((V.gv k).s4 c)] 70)) (w.heap.size + 1) 68 #[.bool true, .int .i64 (V.gv k).pa, .string (V.gv k).nm, .int .i64 (V.gv k).we, .int .i64 (V.gv k).cp, .int .i64 (V.gv k).pe, .int .i64 (V.gv k).ne, .int .i64 (V.gv k).su, .int .i64 (V.gv k).qu, .int .i64 (V.gv k).po, .int .i64 (V.gv k).sp, .slice (a.gh k).la (V.gv k).ln (a.gh k).lc, .slice (a.gh k).da (V.gv k).dn (a.gh k).dc, .slice (some ⟨a.sb k, a.so k, none⟩) (V.gv k).sn (a.gh k).sc] := by
    have := Bk.new (w.alloc (.cells #[.int .i64 V.now, .slice (some ⟨a.ca, a.oc, none⟩) V.cn a.cc, .slice (some ⟨a.ta, a.ot, none⟩) V.tn a.tc, .slice (some ⟨a.ga, a.og, none⟩) V.gn a.gc] 33)) 68 #[.bool true, .int .i64 (V.gv k).pa, .string (V.gv k).nm, .int .i64 (V.gv k).we, .int .i64 (V.gv k).cp, .int .i64 (V.gv k).pe, .int .i64 (V.gv k).ne, .int .i64 (V.gv k).su, .int .i64 (V.gv k).qu, .int .i64 (V.gv k).po, .int .i64 (V.gv k).sp, .slice (a.gh k).la (V.gv k).ln (a.gh k).lc, .slice (a.gh k).da (V.gv k).dn (a.gh k).dc, .slice (some ⟨a.sb k, a.so k, none⟩) (V.gv k).sn (a.gh k).sc]
    rw [show ((w.alloc (.cells #[.int .i64 V.now, .slice (some ⟨a.ca, a.oc, none⟩) V.cn a.cc, .slice (some ⟨a.ta, a.ot, none⟩) V.tn a.tc, .slice (some ⟨a.ga, a.og, none⟩) V.gn a.gc] 33))).heap.size = w.heap.size + 1 by simp] at this
    exact this.alloc _
  have hk2 : Bk (((w.alloc (.cells #[.int .i64 V.now, .slice (some ⟨a.ca, a.oc, none⟩) V.cn a.cc, .slice (some ⟨a.ta, a.ot, none⟩) V.tn a.tc, .slice (some ⟨a.ga, a.og, none⟩) V.gn a.gc] 33)).alloc (.cells #[.bool true, .int .i64 (V.gv k).pa, .string (V.gv k).nm, .int .i64 (V.gv k).we, .int .i64 (V.gv k).cp, .int .i64 (V.gv k).pe, .int .i64 (V.gv k).ne, .int .i64 (V.gv k).su, .int .i64 (V.gv k).qu, .int .i64 (V.gv k).po, .int .i64 (V.gv k).sp, .slice (a.gh k).la (V.gv k).ln (a.gh k).lc, .slice (a.gh k).da (V.gv k).dn (a.gh k).dc, .slice (some ⟨a.sb k, a.so k, none⟩) (V.gv k).sn (a.gh k).sc] 68)).alloc (.cells #[.int .i64 ((V.gv k).s0 c), .bool ((V.gv k).s1 c), .int .i64 ((V.gv k).s2 c), .int .i64 ((V.gv k).s3 c), .int .i64 ((V.gv k).s4 c)] 70)) (w.heap.size + 2) 70 #[.int .i64 ((V.gv k).s0 c), .bool ((V.gv k).s1 c), .int .i64 ((V.gv k).s2 c), .int .i64 ((V.gv k).s3 c), .int .i64 ((V.gv k).s4 c)] := by
    have := Bk.new ((w.alloc (.cells #[.int .i64 V.now, .slice (some ⟨a.ca, a.oc, none⟩) V.cn a.cc, .slice (some ⟨a.ta, a.ot, none⟩) V.tn a.tc, .slice (some ⟨a.ga, a.og, none⟩) V.gn a.gc] 33)).alloc (.cells #[.bool true, .int .i64 (V.gv k).pa, .string (V.gv k).nm, .int .i64 (V.gv k).we, .int .i64 (V.gv k).cp, .int .i64 (V.gv k).pe, .int .i64 (V.gv k).ne, .int .i64 (V.gv k).su, .int .i64 (V.gv k).qu, .int .i64 (V.gv k).po, .int .i64 (V.gv k).sp, .slice (a.gh k).la (V.gv k).ln (a.gh k).lc, .slice (a.gh k).da (V.gv k).dn (a.gh k).dc, .slice (some ⟨a.sb k, a.so k, none⟩) (V.gv k).sn (a.gh k).sc] 68)) 70 #[.int .i64 ((V.gv k).s0 c), .bool ((V.gv k).s1 c), .int .i64 ((V.gv k).s2 c), .int .i64 ((V.gv k).s3 c), .int .i64 ((V.gv k).s4 c)]
    rw [show (((w.alloc (.cells #[.int .i64 V.now, .slice (some ⟨a.ca, a.oc, none⟩) V.cn a.cc, .slice (some ⟨a.ta, a.ot, none⟩) V.tn a.tc, .slice (some ⟨a.ga, a.og, none⟩) V.gn a.gc] 33)).alloc (.cells #[.bool true, .int .i64 (V.gv k).pa, .string (V.gv k).nm, .int .i64 (V.gv k).we, .int .i64 (V.gv k).cp, .int .i64 (V.gv k).pe, .int .i64 (V.gv k).ne, .int .i64 (V.gv k).su, .int .i64 (V.gv k).qu, .int .i64 (V.gv k).po, .int .i64 (V.gv k).sp, .slice (a.gh k).la (V.gv k).ln (a.gh k).lc, .slice (a.gh k).da (V.gv k).dn (a.gh k).dc, .slice (some ⟨a.sb k, a.so k, none⟩) (V.gv k).sn (a.gh k).sc] 68))).heap.size = w.heap.size + 2 by simp] at this
    exact this
  have hb3 : Below w.heap.size w (((w.alloc (.cells #[.int .i64 V.now, .slice (some ⟨a.ca, a.oc, none⟩) V.cn a.cc, .slice (some ⟨a.ta, a.ot, none⟩) V.tn a.tc, .slice (some ⟨a.ga, a.og, none⟩) V.gn a.gc] 33)).alloc (.cells #[.bool true, .int .i64 (V.gv k).pa, .string (V.gv k).nm, .int .i64 (V.gv k).we, .int .i64 (V.gv k).cp, .int .i64 (V.gv k).pe, .int .i64 (V.gv k).ne, .int .i64 (V.gv k).su, .int .i64 (V.gv k).qu, .int .i64 (V.gv k).po, .int .i64 (V.gv k).sp, .slice (a.gh k).la (V.gv k).ln (a.gh k).lc, .slice (a.gh k).da (V.gv k).dn (a.gh k).dc, .slice (some ⟨a.sb k, a.so k, none⟩) (V.gv k).sn (a.gh k).sc] 68)).alloc (.cells #[.int .i64 ((V.gv k).s0 c), .bool ((V.gv k).s1 c), .int .i64 ((V.gv k).s2 c), .int .i64 ((V.gv k).s3 c), .int .i64 ((V.gv k).s4 c)] 70)) := (hbx.alloc hbx.size _).alloc (by simp; omega) _
  generalize (((w.alloc (.cells #[.int .i64 V.now, .slice (some ⟨a.ca, a.oc, none⟩) V.cn a.cc, .slice (some ⟨a.ta, a.ot, none⟩) V.tn a.tc, .slice (some ⟨a.ga, a.og, none⟩) V.gn a.gc] 33)).alloc (.cells #[.bool true, .int .i64 (V.gv k).pa, .string (V.gv k).nm, .int .i64 (V.gv k).we, .int .i64 (V.gv k).cp, .int .i64 (V.gv k).pe, .int .i64 (V.gv k).ne, .int .i64 (V.gv k).su, .int .i64 (V.gv k).qu, .int .i64 (V.gv k).po, .int .i64 (V.gv k).sp, .slice (a.gh k).la (V.gv k).ln (a.gh k).lc, .slice (a.gh k).da (V.gv k).dn (a.gh k).dc, .slice (some ⟨a.sb k, a.so k, none⟩) (V.gv k).sn (a.gh k).sc] 68)).alloc (.cells #[.int .i64 ((V.gv k).s0 c), .bool ((V.gv k).s1 c), .int .i64 ((V.gv k).s2 c), .int .i64 ((V.gv k).s3 c), .int .i64 ((V.gv k).s4 c)] 70)) = wq at hk0 hk1 hk2 hb3 ⊢
  have HK0 := Lib.hid hk0
  have HK1 := Lib.hid hk1
  have HK2 := Lib.hid hk2
  have HB3 := Lib.hid hb3
  have t0 := hk2.cell 0
  have t1 := hk2.cell 1
  have t2 := hk2.cell 2
  have t3 := hk2.cell 3
  have t4 := hk2.cell 4
  clear hk0 hk1 hk2 hb3 hbx
  cases n1 : timeB ((V.gv k).s0 c)
  · go_wp2_with (go_at_call 75; refine (l4Time_any _ _).mono ?_; rintro e w' ⟨rfl, rfl⟩)
    go_ret
    exact ⟨ret_boolB (by rw [HES.out, n1]; rfl), HB3.out⟩
  cases n2 : timeB ((V.gv k).s2 c)
  · go_wp2_with (go_at_call 75; refine (l4Time_any _ _).mono ?_; rintro e w' ⟨rfl, rfl⟩)
    go_ret
    exact ⟨ret_boolB (by rw [HES.out, n1, n2]; rfl), HB3.out⟩
  cases n3 : timeB ((V.gv k).s4 c)
  · go_wp2_with (go_at_call 75; refine (l4Time_any _ _).mono ?_; rintro e w' ⟨rfl, rfl⟩)
    go_ret
    exact ⟨ret_boolB (by rw [HES.out, n1, n2, n3]; rfl), HB3.out⟩
  cases n4 : inR ((V.gv k).s3 c) 1 20
  · go_wp2_with (first | (go_at_call 75; refine (l4Time_any _ _).mono ?_; rintro e w' ⟨rfl, rfl⟩) | (go_at_call 73; refine (l1Weight_any _ _).mono ?_; rintro e w' ⟨rfl, rfl⟩))
    go_ret
    exact ⟨ret_boolB (by rw [HES.out, n1, n2, n3, n4]; rfl), HB3.out⟩
  rw [n1, n2, n3, n4] at HES
  by_cases h0 : k = 0
  · have h0' : ((k : Int) == 0) = true := by simp [h0]
    have HRR : Hid (R = (!(V.gv k).s1 c && ((V.gv k).s2 c == 0) && ((V.gv k).s3 c == 10))) := by rw [HES.out, if_pos h0, HRT.out h0]; rfl
    clear h0 HES HRT
    cases r1 : (V.gv k).s1 c
    case true =>
      rw [r1] at t1
      go_wp2_with (first | (go_at_call 75; refine (l4Time_any _ _).mono ?_; rintro e w' ⟨rfl, rfl⟩) | (go_at_call 73; refine (l1Weight_any _ _).mono ?_; rintro e w' ⟨rfl, rfl⟩))
      go_ret
      exact ⟨ret_boolB (by rw [HRR.out, r1]; rfl), HB3.out⟩
    rw [r1] at t1
    cases r2 : ((V.gv k).s2 c == 0)
    · go_wp2_with (first | (go_at_call 75; refine (l4Time_any _ _).mono ?_; rintro e w' ⟨rfl, rfl⟩) | (go_at_call 73; refine (l1Weight_any _ _).mono ?_; rintro e w' ⟨rfl, rfl⟩))
      go_ret
      exact ⟨ret_boolB (by rw [HRR.out, r1, r2]; rfl), HB3.out⟩
    cases r3 : ((V.gv k).s3 c == 10)
    all_goals
      go_wp2_with (first | (go_at_call 75; refine (l4Time_any _ _).mono ?_; rintro e w' ⟨rfl, rfl⟩) | (go_at_call 73; refine (l1Weight_any _ _).mono ?_; rintro e w' ⟨rfl, rfl⟩))
      go_ret
      exact ⟨ret_boolB (by rw [HRR.out, r1, r2, r3]; rfl), HB3.out⟩
  have h0' : ((k : Int) == 0) = false := by simp [h0]
  obtain ⟨p1, p2, p3, p4⟩ := HT.out.pa k h0 (by have := HN8.out; omega) HU.out
  have HRE : Hid (R = (onH V k c && (!(V.gv k).s1 c || standS ((V.gv k).s2 c) ((V.gv (pN V k)).s0 c) ((V.gv k).s3 c)))) := by rw [HES.out, if_neg h0]; rfl
  have HSS : Hid (∀ g, g < V.gn → (V.gv g).us = true → c < (V.gv g).sn ∧ (V.gv g).sn ≤ 1048576) := fun g hg hgu => by
    have := sn_of HGG.out hg
    rw [hgu, if_pos rfl] at this
    omega
  have HAC : Hid (∀ y, Below w.heap.size w y → Calls Tryz.prog 80 #[.agg #[.int .i64 V.now, .slice (some ⟨a.ca, a.oc, none⟩) V.cn a.cc, .slice (some ⟨a.ta, a.ot, none⟩) V.tn a.tc, .slice (some ⟨a.ga, a.og, none⟩) V.gn a.gc], .int .i64 k, .int .i64 c] y fun e w' => e = .returned (.bool (actB V k c)) ∧ Below y.heap.size y w') := fun y hy => sActive_any V a k c h8 htn (by have := HN8.out; omega) HSS.out y (HMW.out.below hy)
  have HDR : Hid (∀ y, Below w.heap.size w y → Calls Tryz.prog 52 #[.agg #[.int .i64 V.now, .slice (some ⟨a.ca, a.oc, none⟩) V.cn a.cc, .slice (some ⟨a.ta, a.ot, none⟩) V.tn a.tc, .slice (some ⟨a.ga, a.og, none⟩) V.gn a.gc], .int .i64 k, .int .i64 c] y fun e w' => e = .returned (.bool (dryB V k c)) ∧ Below y.heap.size y w') := fun y hy => sDry_any V a k c hk h8 (fun hq => by rw [dn_of HGG.out hk HU.out hq]; exact hcc) (HD.out k hk) y (HMW.out.below hy)
  have HOH : Hid (onH V k c = ((V.gv k).s1 c == (actB V k c && !dryB V k c))) := rfl
  clear HES HRT h0
  have hbx := HB3.out
  have hk0 := HK0.out
  have hk2 := HK2.out
  go_upto_region 7 with (first | (go_at_call 75; refine (l4Time_any _ _).mono ?_; rintro e w' ⟨rfl, rfl⟩) | (go_at_call 73; refine (l1Weight_any _ _).mono ?_; rintro e w' ⟨rfl, rfl⟩))
  clear n1 n2 n3 n4 t0 t1 t2 t3 t4
  go_cut [69] from 9 (fun c' wx => c' = .bool (!(onH V k c)) ∧ Hid (Below wq.heap.size wq wx))
  case first =>
    have KS : ∀ w', Below wq.heap.size wq w' → (fun w' => Below wq.heap.size wq w' ∧ w'.cell? ⟨w.heap.size, 0, none⟩ = some (.int .i64 V.now) ∧ w'.cell? ⟨w.heap.size, 1, none⟩ = some (.slice (some ⟨a.ca, a.oc, none⟩) V.cn a.cc) ∧ w'.cell? ⟨w.heap.size, 2, none⟩ = some (.slice (some ⟨a.ta, a.ot, none⟩) V.tn a.tc) ∧ w'.cell? ⟨w.heap.size, 3, none⟩ = some (.slice (some ⟨a.ga, a.og, none⟩) V.gn a.gc) ∧ w'.cell? ⟨w.heap.size + 2, 1, none⟩ = some (.bool ((V.gv k).s1 c))) w' := fun w' h => ⟨h, (h.cell (p := ⟨w.heap.size, 0, none⟩) hk0.lt).trans (hk0.cell 0), (h.cell (p := ⟨w.heap.size, 1, none⟩) hk0.lt).trans (hk0.cell 1), (h.cell (p := ⟨w.heap.size, 2, none⟩) hk0.lt).trans (hk0.cell 2), (h.cell (p := ⟨w.heap.size, 3, none⟩) hk0.lt).trans (hk0.cell 3), (h.cell (p := ⟨w.heap.size + 2, 1, none⟩) hk2.lt).trans (hk2.cell 1)⟩
    have KT : ∀ wa wb, (fun w' => Below wq.heap.size wq w' ∧ w'.cell? ⟨w.heap.size, 0, none⟩ = some (.int .i64 V.now) ∧ w'.cell? ⟨w.heap.size, 1, none⟩ = some (.slice (some ⟨a.ca, a.oc, none⟩) V.cn a.cc) ∧ w'.cell? ⟨w.heap.size, 2, none⟩ = some (.slice (some ⟨a.ta, a.ot, none⟩) V.tn a.tc) ∧ w'.cell? ⟨w.heap.size, 3, none⟩ = some (.slice (some ⟨a.ga, a.og, none⟩) V.gn a.gc) ∧ w'.cell? ⟨w.heap.size + 2, 1, none⟩ = some (.bool ((V.gv k).s1 c))) wa → Below wa.heap.size wa wb → (fun w' => Below wq.heap.size wq w' ∧ w'.cell? ⟨w.heap.size, 0, none⟩ = some (.int .i64 V.now) ∧ w'.cell? ⟨w.heap.size, 1, none⟩ = some (.slice (some ⟨a.ca, a.oc, none⟩) V.cn a.cc) ∧ w'.cell? ⟨w.heap.size, 2, none⟩ = some (.slice (some ⟨a.ta, a.ot, none⟩) V.tn a.tc) ∧ w'.cell? ⟨w.heap.size, 3, none⟩ = some (.slice (some ⟨a.ga, a.og, none⟩) V.gn a.gc) ∧ w'.cell? ⟨w.heap.size + 2, 1, none⟩ = some (.bool ((V.gv k).s1 c))) wb := fun wa wb h hab => KS wb (h.1.trans (hab.mono h.1.size))
    have HKS := Lib.hid KS
    have HKT := Lib.hid KT
    clear KS KT
    clear hk0 hk2
    refine wp_region_held_drew (S := (fun w' => Below wq.heap.size wq w' ∧ w'.cell? ⟨w.heap.size, 0, none⟩ = some (.int .i64 V.now) ∧ w'.cell? ⟨w.heap.size, 1, none⟩ = some (.slice (some ⟨a.ca, a.oc, none⟩) V.cn a.cc) ∧ w'.cell? ⟨w.heap.size, 2, none⟩ = some (.slice (some ⟨a.ta, a.ot, none⟩) V.tn a.tc) ∧ w'.cell? ⟨w.heap.size, 3, none⟩ = some (.slice (some ⟨a.ga, a.og, none⟩) V.gn a.gc) ∧ w'.cell? ⟨w.heap.size + 2, 1, none⟩ = some (.bool ((V.gv k).s1 c)))) (by kernel_rfl) (HKS.out _ (Below.refl _ _).drew) (fun hH => ?_)
    refine rgT 0 ?_ ?_ hH ?_; rotate_left; · (intro w s; (try dsimp only at s); go_simp; try with_reducible rfl)
    try simp only [rgp, rg0, rg1]
    rcases boolFT ((V.gv k).s1 c) with a1 | a1
    · refine rgT 1 ?_ ?_ hH ?_; rotate_left; · (intro w s; (try dsimp only at s); go_simp; try with_reducible rfl)
      try simp only [rgp, rg0, rg1]
      refine rgT 2 ?_ ?_ hH ?_; rotate_left; · (intro w s; (try dsimp only at s); go_simp; try with_reducible rfl)
      try simp only [rgp, rg0, rg1]
      refine rgT 3 ?_ ?_ hH ?_; rotate_left; · (intro w s; (try dsimp only at s); go_simp; try with_reducible rfl)
      try simp only [rgp, rg0, rg1]
      refine rgT 4 ?_ ?_ hH ?_; rotate_left; · (intro w s; (try dsimp only at s); go_simp; try with_reducible rfl)
      try simp only [rgp, rg0, rg1]
      cases a2 : (actB V k c)
      · refine rgS 5 (fun K hK => ?_)
        go_simp
        (go_at_call 80; refine (HAC.out _ (hbx.trans (hH.1.mono hbx.size))).mono ?_; rintro e wv1 ⟨rfl, hbb1⟩)
        go_wp2_with fail
        refine hK.out _ _ (HKT.out _ _ hH hbb1) (fun hH_1 => ?_)
        clear hK K
        try simp only [rgp, rgn, rg0, rg1]
        refine rgT 6 ?_ ?_ hH_1 ?_; rotate_left; · (intro w s; (try dsimp only at s); go_simp; try with_reducible rfl)
        try simp only [rgp, rg0, rg1]
        refine rgU 7 hH_1 ?_; try simp only [rgp, rg0, rg1]
        refine rgU 8 hH_1 ?_; try simp only [rgp, rg0, rg1]
        refine rgU 9 hH_1 ?_; try simp only [rgp, rg0, rg1]
        refine rgU 10 hH_1 ?_; try simp only [rgp, rg0, rg1]
        refine rgU 11 hH_1 ?_; try simp only [rgp, rg0, rg1]
        refine rgT 12 ?_ ?_ hH_1 ?_; rotate_left; · (intro w s; (try dsimp only at s); go_simp; try with_reducible rfl)
        try simp only [rgp, rg0, rg1]
        refine rgT 13 ?_ ?_ hH_1 ?_; rotate_left; · (intro w s; (try dsimp only at s); go_simp; try with_reducible rfl)
        try simp only [rgp, rg0, rg1]
        refine wpAnyH_done (by kernel_rfl) ?_ _
        go_wp2
        go_meet
        exact ⟨by rw [HOH.out, a1, a2]; rfl, hH_1.1⟩
      · refine rgS 5 (fun K hK => ?_)
        go_simp
        (go_at_call 80; refine (HAC.out _ (hbx.trans (hH.1.mono hbx.size))).mono ?_; rintro e wv2 ⟨rfl, hbb2⟩)
        go_wp2_with fail
        refine hK.out _ _ (HKT.out _ _ hH hbb2) (fun hH_2 => ?_)
        clear hK K
        try simp only [rgp, rgn, rg0, rg1]
        refine rgT 6 ?_ ?_ hH_2 ?_; rotate_left; · (intro w s; (try dsimp only at s); go_simp; try with_reducible rfl)
        try simp only [rgp, rg0, rg1]
        refine rgT 7 ?_ ?_ hH_2 ?_; rotate_left; · (intro w s; (try dsimp only at s); go_simp; try with_reducible rfl)
        try simp only [rgp, rg0, rg1]
        refine rgT 8 ?_ ?_ hH_2 ?_; rotate_left; · (intro w s; (try dsimp only at s); go_simp; try with_reducible rfl)
        try simp only [rgp, rg0, rg1]
        refine rgT 9 ?_ ?_ hH_2 ?_; rotate_left; · (intro w s; (try dsimp only at s); go_simp; try with_reducible rfl)
        try simp only [rgp, rg0, rg1]
        cases a3 : (dryB V k c)
        · refine rgS 10 (fun K hK => ?_)
          go_simp
          (go_at_call 52; refine (HDR.out _ (hbx.trans (hH_2.1.mono hbx.size))).mono ?_; rintro e wv3 ⟨rfl, hbb3⟩)
          go_wp2_with fail
          refine hK.out _ _ (HKT.out _ _ hH_2 hbb3) (fun hH_3 => ?_)
          clear hK K
          try simp only [rgp, rgn, rg0, rg1]
          refine rgT 11 ?_ ?_ hH_3 ?_; rotate_left; · (intro w s; (try dsimp only at s); go_simp; try with_reducible rfl)
          try simp only [rgp, rg0, rg1]
          refine rgT 12 ?_ ?_ hH_3 ?_; rotate_left; · (intro w s; (try dsimp only at s); go_simp; try with_reducible rfl)
          try simp only [rgp, rg0, rg1]
          refine rgT 13 ?_ ?_ hH_3 ?_; rotate_left; · (intro w s; (try dsimp only at s); go_simp; try with_reducible rfl)
          try simp only [rgp, rg0, rg1]
          refine wpAnyH_done (by kernel_rfl) ?_ _
          go_wp2
          go_meet
          exact ⟨by rw [HOH.out, a1, a2, a3]; rfl, hH_3.1⟩
        · refine rgS 10 (fun K hK => ?_)
          go_simp
          (go_at_call 52; refine (HDR.out _ (hbx.trans (hH_2.1.mono hbx.size))).mono ?_; rintro e wv4 ⟨rfl, hbb4⟩)
          go_wp2_with fail
          refine hK.out _ _ (HKT.out _ _ hH_2 hbb4) (fun hH_4 => ?_)
          clear hK K
          try simp only [rgp, rgn, rg0, rg1]
          refine rgT 11 ?_ ?_ hH_4 ?_; rotate_left; · (intro w s; (try dsimp only at s); go_simp; try with_reducible rfl)
          try simp only [rgp, rg0, rg1]
          refine rgT 12 ?_ ?_ hH_4 ?_; rotate_left; · (intro w s; (try dsimp only at s); go_simp; try with_reducible rfl)
          try simp only [rgp, rg0, rg1]
          refine rgT 13 ?_ ?_ hH_4 ?_; rotate_left; · (intro w s; (try dsimp only at s); go_simp; try with_reducible rfl)
          try simp only [rgp, rg0, rg1]
          refine wpAnyH_done (by kernel_rfl) ?_ _
          go_wp2
          go_meet
          exact ⟨by rw [HOH.out, a1, a2, a3]; rfl, hH_4.1⟩
    · refine rgT 1 ?_ ?_ hH ?_; rotate_left; · (intro w s; (try dsimp only at s); go_simp; try with_reducible rfl)
      try simp only [rgp, rg0, rg1]
      refine rgT 2 ?_ ?_ hH ?_; rotate_left; · (intro w s; (try dsimp only at s); go_simp; try with_reducible rfl)
      try simp only [rgp, rg0, rg1]
      refine rgT 3 ?_ ?_ hH ?_; rotate_left; · (intro w s; (try dsimp only at s); go_simp; try with_reducible rfl)
      try simp only [rgp, rg0, rg1]
      refine rgT 4 ?_ ?_ hH ?_; rotate_left; · (intro w s; (try dsimp only at s); go_simp; try with_reducible rfl)
      try simp only [rgp, rg0, rg1]
      cases a2 : (actB V k c)
      · refine rgS 5 (fun K hK => ?_)
        go_simp
        (go_at_call 80; refine (HAC.out _ (hbx.trans (hH.1.mono hbx.size))).mono ?_; rintro e wv5 ⟨rfl, hbb5⟩)
        go_wp2_with fail
        refine hK.out _ _ (HKT.out _ _ hH hbb5) (fun hH_5 => ?_)
        clear hK K
        try simp only [rgp, rgn, rg0, rg1]
        refine rgT 6 ?_ ?_ hH_5 ?_; rotate_left; · (intro w s; (try dsimp only at s); go_simp; try with_reducible rfl)
        try simp only [rgp, rg0, rg1]
        refine rgU 7 hH_5 ?_; try simp only [rgp, rg0, rg1]
        refine rgU 8 hH_5 ?_; try simp only [rgp, rg0, rg1]
        refine rgU 9 hH_5 ?_; try simp only [rgp, rg0, rg1]
        refine rgU 10 hH_5 ?_; try simp only [rgp, rg0, rg1]
        refine rgU 11 hH_5 ?_; try simp only [rgp, rg0, rg1]
        refine rgT 12 ?_ ?_ hH_5 ?_; rotate_left; · (intro w s; (try dsimp only at s); go_simp; try with_reducible rfl)
        try simp only [rgp, rg0, rg1]
        refine rgT 13 ?_ ?_ hH_5 ?_; rotate_left; · (intro w s; (try dsimp only at s); go_simp; try with_reducible rfl)
        try simp only [rgp, rg0, rg1]
        refine wpAnyH_done (by kernel_rfl) ?_ _
        go_wp2
        go_meet
        exact ⟨by rw [HOH.out, a1, a2]; rfl, hH_5.1⟩
      · refine rgS 5 (fun K hK => ?_)
        go_simp
        (go_at_call 80; refine (HAC.out _ (hbx.trans (hH.1.mono hbx.size))).mono ?_; rintro e wv6 ⟨rfl, hbb6⟩)
        go_wp2_with fail
        refine hK.out _ _ (HKT.out _ _ hH hbb6) (fun hH_6 => ?_)
        clear hK K
        try simp only [rgp, rgn, rg0, rg1]
        refine rgT 6 ?_ ?_ hH_6 ?_; rotate_left; · (intro w s; (try dsimp only at s); go_simp; try with_reducible rfl)
        try simp only [rgp, rg0, rg1]
        refine rgT 7 ?_ ?_ hH_6 ?_; rotate_left; · (intro w s; (try dsimp only at s); go_simp; try with_reducible rfl)
        try simp only [rgp, rg0, rg1]
        refine rgT 8 ?_ ?_ hH_6 ?_; rotate_left; · (intro w s; (try dsimp only at s); go_simp; try with_reducible rfl)
        try simp only [rgp, rg0, rg1]
        refine rgT 9 ?_ ?_ hH_6 ?_; rotate_left; · (intro w s; (try dsimp only at s); go_simp; try with_reducible rfl)
        try simp only [rgp, rg0, rg1]
        cases a3 : (dryB V k c)
        · refine rgS 10 (fun K hK => ?_)
          go_simp
          (go_at_call 52; refine (HDR.out _ (hbx.trans (hH_6.1.mono hbx.size))).mono ?_; rintro e wv7 ⟨rfl, hbb7⟩)
          go_wp2_with fail
          refine hK.out _ _ (HKT.out _ _ hH_6 hbb7) (fun hH_7 => ?_)
          clear hK K
          try simp only [rgp, rgn, rg0, rg1]
          refine rgT 11 ?_ ?_ hH_7 ?_; rotate_left; · (intro w s; (try dsimp only at s); go_simp; try with_reducible rfl)
          try simp only [rgp, rg0, rg1]
          refine rgT 12 ?_ ?_ hH_7 ?_; rotate_left; · (intro w s; (try dsimp only at s); go_simp; try with_reducible rfl)
          try simp only [rgp, rg0, rg1]
          refine rgT 13 ?_ ?_ hH_7 ?_; rotate_left; · (intro w s; (try dsimp only at s); go_simp; try with_reducible rfl)
          try simp only [rgp, rg0, rg1]
          refine wpAnyH_done (by kernel_rfl) ?_ _
          go_wp2
          go_meet
          exact ⟨by rw [HOH.out, a1, a2, a3]; rfl, hH_7.1⟩
        · refine rgS 10 (fun K hK => ?_)
          go_simp
          (go_at_call 52; refine (HDR.out _ (hbx.trans (hH_6.1.mono hbx.size))).mono ?_; rintro e wv8 ⟨rfl, hbb8⟩)
          go_wp2_with fail
          refine hK.out _ _ (HKT.out _ _ hH_6 hbb8) (fun hH_8 => ?_)
          clear hK K
          try simp only [rgp, rgn, rg0, rg1]
          refine rgT 11 ?_ ?_ hH_8 ?_; rotate_left; · (intro w s; (try dsimp only at s); go_simp; try with_reducible rfl)
          try simp only [rgp, rg0, rg1]
          refine rgT 12 ?_ ?_ hH_8 ?_; rotate_left; · (intro w s; (try dsimp only at s); go_simp; try with_reducible rfl)
          try simp only [rgp, rg0, rg1]
          refine rgT 13 ?_ ?_ hH_8 ?_; rotate_left; · (intro w s; (try dsimp only at s); go_simp; try with_reducible rfl)
          try simp only [rgp, rg0, rg1]
          refine wpAnyH_done (by kernel_rfl) ?_ _
          go_wp2
          go_meet
          exact ⟨by rw [HOH.out, a1, a2, a3]; rfl, hH_8.1⟩
  case rest =>
    obtain ⟨rfl, HXX⟩ := hcut
    rename World => wd
    have HBD : Hid (Below w.heap.size w wd) := HB3.out.trans (HXX.out.mono HB3.out.size)
    cases hE : onH V k c
    · rw [hE] at HRE
      go_wp2
      go_ret
      exact ⟨ret_boolB (by rw [HRE.out]; rfl), HBD.out⟩
    rw [hE] at HRE
    have HRE2 : Hid (R = (!(V.gv k).s1 c || standS ((V.gv k).s2 c) ((V.gv (pN V k)).s0 c) ((V.gv k).s3 c))) := by rw [HRE.out]; rfl
    have hpn : pN V k < V.gn := by have := HN8.out; omega
    have hpi : (pN V k : Int) < (V.gn : Nat) := by omega
    obtain ⟨q1, q2⟩ := HSS.out (pN V k) hpn p3
    have hcp : (c : Int) < ((V.gv (pN V k)).sn : Nat) := by omega
    obtain ⟨y13, s2, s3⟩ := HMW.out.s (pN V k) hpn (by omega)
    have f13 := HMW.out.g (pN V k) hpn 13 _ rfl
    rw [y13] at f13
    have f0 := s3 c q1 0 _ rfl
    rw [Nat.add_zero] at f0
    have hgl := HMW.out.gl
    have hk0 := HK0.out.below HXX.out HK0.out.lt
    have hk1 := HK1.out.below HXX.out HK1.out.lt
    have hk2 := HK2.out.below HXX.out HK2.out.lt
    have k1 : wd.cell? ⟨w.heap.size + 1, 1, none⟩ = some (.int .i64 (pN V k : Nat)) := (hk1.cell 1).trans (by rw [p1]; rfl)
    have hbx := HBD.out
    clear hE HRE HXX HK0 HK1 HK2 HAC HDR HOH p1 p2 p3 p4 q1 q2 s3 y13 hpn
    go_upto_region 9 with (fail)
    have hzx := hbx.size
    have KS : ∀ w', Below wd.heap.size wd w' → (fun w' => Below wd.heap.size wd w' ∧ w'.cell? ⟨w.heap.size, 3, none⟩ = some (.slice (some ⟨a.ga, a.og, none⟩) V.gn a.gc) ∧ w'.cell? ⟨w.heap.size + 1, 1, none⟩ = some (.int .i64 (pN V k : Nat)) ∧ w'.cell? ⟨w.heap.size + 2, 1, none⟩ = some (.bool ((V.gv k).s1 c)) ∧ w'.cell? ⟨w.heap.size + 2, 2, none⟩ = some (.int .i64 ((V.gv k).s2 c)) ∧ w'.cell? ⟨w.heap.size + 2, 3, none⟩ = some (.int .i64 ((V.gv k).s3 c)) ∧ w'.cell? ⟨a.ga, a.og + pN V k * 14 + 13, none⟩ = some (.slice (some ⟨a.sb (pN V k), a.so (pN V k), none⟩) (V.gv (pN V k)).sn (a.gh (pN V k)).sc) ∧ w'.cell? ⟨a.sb (pN V k), a.so (pN V k) + c * 5, none⟩ = some (.int .i64 ((V.gv (pN V k)).s0 c))) w' := fun w' h => ⟨h, (h.cell (p := ⟨w.heap.size, 3, none⟩) hk0.lt).trans (hk0.cell 3), (h.cell (p := ⟨w.heap.size + 1, 1, none⟩) hk1.lt).trans k1, (h.cell (p := ⟨w.heap.size + 2, 1, none⟩) hk2.lt).trans (hk2.cell 1), (h.cell (p := ⟨w.heap.size + 2, 2, none⟩) hk2.lt).trans (hk2.cell 2), (h.cell (p := ⟨w.heap.size + 2, 3, none⟩) hk2.lt).trans (hk2.cell 3), (h.cell (p := ⟨a.ga, a.og + pN V k * 14 + 13, none⟩) (Nat.lt_of_lt_of_le hgl hzx)).trans ((hbx.cell (p := ⟨a.ga, a.og + pN V k * 14 + 13, none⟩) hgl).trans f13), (h.cell (p := ⟨a.sb (pN V k), a.so (pN V k) + c * 5, none⟩) (Nat.lt_of_lt_of_le s2 hzx)).trans ((hbx.cell (p := ⟨a.sb (pN V k), a.so (pN V k) + c * 5, none⟩) s2).trans f0)⟩
    have KT : ∀ wa wb, (fun w' => Below wd.heap.size wd w' ∧ w'.cell? ⟨w.heap.size, 3, none⟩ = some (.slice (some ⟨a.ga, a.og, none⟩) V.gn a.gc) ∧ w'.cell? ⟨w.heap.size + 1, 1, none⟩ = some (.int .i64 (pN V k : Nat)) ∧ w'.cell? ⟨w.heap.size + 2, 1, none⟩ = some (.bool ((V.gv k).s1 c)) ∧ w'.cell? ⟨w.heap.size + 2, 2, none⟩ = some (.int .i64 ((V.gv k).s2 c)) ∧ w'.cell? ⟨w.heap.size + 2, 3, none⟩ = some (.int .i64 ((V.gv k).s3 c)) ∧ w'.cell? ⟨a.ga, a.og + pN V k * 14 + 13, none⟩ = some (.slice (some ⟨a.sb (pN V k), a.so (pN V k), none⟩) (V.gv (pN V k)).sn (a.gh (pN V k)).sc) ∧ w'.cell? ⟨a.sb (pN V k), a.so (pN V k) + c * 5, none⟩ = some (.int .i64 ((V.gv (pN V k)).s0 c))) wa → Below wa.heap.size wa wb → (fun w' => Below wd.heap.size wd w' ∧ w'.cell? ⟨w.heap.size, 3, none⟩ = some (.slice (some ⟨a.ga, a.og, none⟩) V.gn a.gc) ∧ w'.cell? ⟨w.heap.size + 1, 1, none⟩ = some (.int .i64 (pN V k : Nat)) ∧ w'.cell? ⟨w.heap.size + 2, 1, none⟩ = some (.bool ((V.gv k).s1 c)) ∧ w'.cell? ⟨w.heap.size + 2, 2, none⟩ = some (.int .i64 ((V.gv k).s2 c)) ∧ w'.cell? ⟨w.heap.size + 2, 3, none⟩ = some (.int .i64 ((V.gv k).s3 c)) ∧ w'.cell? ⟨a.ga, a.og + pN V k * 14 + 13, none⟩ = some (.slice (some ⟨a.sb (pN V k), a.so (pN V k), none⟩) (V.gv (pN V k)).sn (a.gh (pN V k)).sc) ∧ w'.cell? ⟨a.sb (pN V k), a.so (pN V k) + c * 5, none⟩ = some (.int .i64 ((V.gv (pN V k)).s0 c))) wb := fun wa wb h hab => KS wb (h.1.trans (hab.mono h.1.size))
    have HKS := Lib.hid KS
    have HKT := Lib.hid KT
    clear KS KT
    clear hk0 hk1 hk2 k1 f13 f0
    refine wp_region_held_drew (S := (fun w' => Below wd.heap.size wd w' ∧ w'.cell? ⟨w.heap.size, 3, none⟩ = some (.slice (some ⟨a.ga, a.og, none⟩) V.gn a.gc) ∧ w'.cell? ⟨w.heap.size + 1, 1, none⟩ = some (.int .i64 (pN V k : Nat)) ∧ w'.cell? ⟨w.heap.size + 2, 1, none⟩ = some (.bool ((V.gv k).s1 c)) ∧ w'.cell? ⟨w.heap.size + 2, 2, none⟩ = some (.int .i64 ((V.gv k).s2 c)) ∧ w'.cell? ⟨w.heap.size + 2, 3, none⟩ = some (.int .i64 ((V.gv k).s3 c)) ∧ w'.cell? ⟨a.ga, a.og + pN V k * 14 + 13, none⟩ = some (.slice (some ⟨a.sb (pN V k), a.so (pN V k), none⟩) (V.gv (pN V k)).sn (a.gh (pN V k)).sc) ∧ w'.cell? ⟨a.sb (pN V k), a.so (pN V k) + c * 5, none⟩ = some (.int .i64 ((V.gv (pN V k)).s0 c)))) (by kernel_rfl) (HKS.out _ (Below.refl _ _).drew) (fun hH => ?_)
    refine rgT 0 ?_ ?_ hH ?_; rotate_left; · (intro w s; (try dsimp only at s); go_simp; try with_reducible rfl)
    try simp only [rgp, rg0, rg1]
    rcases boolFT ((V.gv k).s1 c) with b1 | b1
    · refine rgT 1 ?_ ?_ hH ?_; rotate_left; · (intro w s; (try dsimp only at s); go_simp; try with_reducible rfl)
      try simp only [rgp, rg0, rg1]
      refine rgT 2 ?_ ?_ hH ?_; rotate_left; · (intro w s; (try dsimp only at s); go_simp; try with_reducible rfl)
      try simp only [rgp, rg0, rg1]
      refine rgT 3 ?_ ?_ hH ?_; rotate_left; · (intro w s; (try dsimp only at s); go_simp; try with_reducible rfl)
      try simp only [rgp, rg0, rg1]
      refine rgU 4 hH ?_; try simp only [rgp, rg0, rg1]
      refine rgU 5 hH ?_; try simp only [rgp, rg0, rg1]
      refine rgU 6 hH ?_; try simp only [rgp, rg0, rg1]
      refine rgU 7 hH ?_; try simp only [rgp, rg0, rg1]
      refine rgU 8 hH ?_; try simp only [rgp, rg0, rg1]
      refine rgU 9 hH ?_; try simp only [rgp, rg0, rg1]
      refine rgU 10 hH ?_; try simp only [rgp, rg0, rg1]
      refine rgU 11 hH ?_; try simp only [rgp, rg0, rg1]
      refine rgU 12 hH ?_; try simp only [rgp, rg0, rg1]
      refine rgU 13 hH ?_; try simp only [rgp, rg0, rg1]
      refine rgU 14 hH ?_; try simp only [rgp, rg0, rg1]
      refine rgU 15 hH ?_; try simp only [rgp, rg0, rg1]
      refine rgU 16 hH ?_; try simp only [rgp, rg0, rg1]
      refine rgU 17 hH ?_; try simp only [rgp, rg0, rg1]
      refine rgU 18 hH ?_; try simp only [rgp, rg0, rg1]
      refine rgU 19 hH ?_; try simp only [rgp, rg0, rg1]
      refine rgT 20 ?_ ?_ hH ?_; rotate_left; · (intro w s; (try dsimp only at s); go_simp; try with_reducible rfl)
      try simp only [rgp, rg0, rg1]
      refine rgT 21 ?_ ?_ hH ?_; rotate_left; · (intro w s; (try dsimp only at s); go_simp; try with_reducible rfl)
      try simp only [rgp, rg0, rg1]
      refine wpAnyH_done (by kernel_rfl) ?_ _
      go_wp2
      go_ret
      exact ⟨ret_boolB (by rw [HRE2.out, b1]; rfl), hbx.trans (hH.1.mono hbx.size)⟩
    · refine rgT 1 ?_ ?_ hH ?_; rotate_left; · (intro w s; (try dsimp only at s); go_simp; try with_reducible rfl)
      try simp only [rgp, rg0, rg1]
      refine rgT 2 ?_ ?_ hH ?_; rotate_left; · (intro w s; (try dsimp only at s); go_simp; try with_reducible rfl)
      try simp only [rgp, rg0, rg1]
      refine rgT 3 ?_ ?_ hH ?_; rotate_left; · (intro w s; (try dsimp only at s); go_simp; try with_reducible rfl)
      try simp only [rgp, rg0, rg1]
      refine rgT 4 ?_ ?_ hH ?_; rotate_left; · (intro w s; (try dsimp only at s); go_simp; try with_reducible rfl)
      try simp only [rgp, rg0, rg1]
      refine rgT 5 ?_ ?_ hH ?_; rotate_left; · (intro w s; (try dsimp only at s); go_simp; try with_reducible rfl)
      try simp only [rgp, rg0, rg1]
      refine rgT 6 ?_ ?_ hH ?_; rotate_left; · (intro w s; (try dsimp only at s); go_simp; try with_reducible rfl)
      try simp only [rgp, rg0, rg1]
      refine rgT 7 ?_ ?_ hH ?_; rotate_left; · (intro w s; (try dsimp only at s); go_simp; try with_reducible rfl)
      try simp only [rgp, rg0, rg1]
      refine rgT 8 ?_ ?_ hH ?_; rotate_left; · (intro w s; (try dsimp only at s); go_simp; try with_reducible rfl)
      try simp only [rgp, rg0, rg1]
      refine rgT 9 ?_ ?_ hH ?_; rotate_left; · (intro w s; (try dsimp only at s); go_simp; try with_reducible rfl)
      try simp only [rgp, rg0, rg1]
      refine rgT 10 ?_ ?_ hH ?_; rotate_left; · (intro w s; (try dsimp only at s); go_simp; try with_reducible rfl)
      try simp only [rgp, rg0, rg1]
      refine rgT 11 ?_ ?_ hH ?_; rotate_left; · (intro w s; (try dsimp only at s); go_simp; try with_reducible rfl)
      try simp only [rgp, rg0, rg1]
      refine rgT 12 ?_ ?_ hH ?_; rotate_left; · (intro w s; (try dsimp only at s); go_simp; try with_reducible rfl)
      try simp only [rgp, rg0, rg1]
      refine rgT 13 ?_ ?_ hH ?_; rotate_left; · (intro w s; (try dsimp only at s); go_simp; try with_reducible rfl)
      try simp only [rgp, rg0, rg1]
      refine rgT 14 ?_ ?_ hH ?_; rotate_left; · (intro w s; (try dsimp only at s); go_simp; try with_reducible rfl)
      try simp only [rgp, rg0, rg1]
      refine rgT 15 ?_ ?_ hH ?_; rotate_left; · (intro w s; (try dsimp only at s); go_simp; try with_reducible rfl)
      try simp only [rgp, rg0, rg1]
      refine rgT 16 ?_ ?_ hH ?_; rotate_left; · (intro w s; (try dsimp only at s); go_simp; try with_reducible rfl)
      try simp only [rgp, rg0, rg1]
      refine rgT 17 ?_ ?_ hH ?_; rotate_left; · (intro w s; (try dsimp only at s); go_simp; try with_reducible rfl)
      try simp only [rgp, rg0, rg1]
      refine rgT 18 ?_ ?_ hH ?_; rotate_left; · (intro w s; (try dsimp only at s); go_simp; try with_reducible rfl)
      try simp only [rgp, rg0, rg1]
      cases b2 : (standS ((V.gv k).s2 c) ((V.gv (pN V k)).s0 c) ((V.gv k).s3 c))
      · refine rgS 19 (fun K hK => ?_)
        go_simp
        (go_at_call 79; refine (sStand_any _ _ _ _).mono ?_; rintro e wv1 ⟨rfl, rfl⟩)
        go_wp2_with fail
        refine hK.out _ _ (hH) (fun hH_1 => ?_)
        clear hK K
        try simp only [rgp, rgn, rg0, rg1]
        refine rgT 20 ?_ ?_ hH_1 ?_; rotate_left; · (intro w s; (try dsimp only at s); go_simp; try with_reducible rfl)
        try simp only [rgp, rg0, rg1]
        refine rgT 21 ?_ ?_ hH_1 ?_; rotate_left; · (intro w s; (try dsimp only at s); go_simp; try with_reducible rfl)
        try simp only [rgp, rg0, rg1]
        refine wpAnyH_done (by kernel_rfl) ?_ _
        go_wp2
        go_ret
        exact ⟨ret_boolB (by rw [HRE2.out, b1, b2]; rfl), hbx.trans (hH_1.1.mono hbx.size)⟩
      · refine rgS 19 (fun K hK => ?_)
        go_simp
        (go_at_call 79; refine (sStand_any _ _ _ _).mono ?_; rintro e wv2 ⟨rfl, rfl⟩)
        go_wp2_with fail
        refine hK.out _ _ (hH) (fun hH_2 => ?_)
        clear hK K
        try simp only [rgp, rgn, rg0, rg1]
        refine rgT 20 ?_ ?_ hH_2 ?_; rotate_left; · (intro w s; (try dsimp only at s); go_simp; try with_reducible rfl)
        try simp only [rgp, rg0, rg1]
        refine rgT 21 ?_ ?_ hH_2 ?_; rotate_left; · (intro w s; (try dsimp only at s); go_simp; try with_reducible rfl)
        try simp only [rgp, rg0, rg1]
        refine wpAnyH_done (by kernel_rfl) ?_ _
        go_wp2
        go_ret
        exact ⟨ret_boolB (by rw [HRE2.out, b1, b2]; rfl), hbx.trans (hH_2.1.mono hbx.size)⟩
end Go.Proofs.YtndbmeedimhohaaGreat

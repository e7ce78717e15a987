/- Worlds: the reference: how far one has stayed (printed by mkv.py). -/
import Derived.Test.YtndbmeedimhohaaGreatFCJ
namespace Go.Proofs.YtndbmeedimhohaaGreat
open Go.RowKit
set_option maxHeartbeats 4000000 in
set_option maxRecDepth 100000 in
theorem sStayed_any (V : WV) (T : Tree V) (a : WA) (c t G : Nat) (hc : c < V.cn) (hcn : V.cn ≤ 4) (_htn : V.tn ≤ 1048576) (ht : t < V.tn) (hcu : (V.cv c).cu = t) (hGe : (V.tv t).gr = G) (hG8 : G < V.gn) (hGu : (V.gv G).us = true) (hvv : timeB (V.tv t).vv = true) (hG : allTo (groupI V) V.gn = true) (hNU : allTo (fun g => allTo (numH V g) (V.gv g).sn) V.gn = true) (w : World) (m : MR w V a) :
    Calls Tryz.prog 81 #[.agg #[.int .i64 V.now, .slice (some ⟨a.ca, a.oc, none⟩) V.cn a.cc, .slice (some ⟨a.ta, a.ot, none⟩) V.tn a.tc, .slice (some ⟨a.ga, a.og, none⟩) V.gn a.gc], .int .i64 c] w fun e w' => e = .returned (.bool (stayB V c)) ∧ Below w.heap.size w w' := by
  have hbx : Below w.heap.size w (w.alloc (.cells #[.int .i64 V.now, .slice (some ⟨a.ca, a.oc, none⟩) V.cn a.cc, .slice (some ⟨a.ta, a.ot, none⟩) V.tn a.tc, .slice (some ⟨a.ga, a.og, none⟩) V.gn a.gc] 33)) := (Below.refl _ w).alloc (Nat.le_refl _) _
  have HM : Hid (MR (w.alloc (.cells #[.int .i64 V.now, .slice (some ⟨a.ca, a.oc, none⟩) V.cn a.cc, .slice (some ⟨a.ta, a.ot, none⟩) V.tn a.tc, .slice (some ⟨a.ga, a.og, none⟩) V.gn a.gc] 33)) V a) := m.below hbx
  have HN8 := Lib.hid T.n8
  have h8 : V.gn ≤ 1048576 := by have := HN8.out; omega
  have hti : (t : Int) < (V.tn : Nat) := by omega
  have hgi : (G : Int) < (V.gn : Nat) := by omega
  have HST : Hid (stayB V c = (decide ((V.tv t).vv - (V.gv G).s0 c ≤ virtualStep (V.cv c).ra (weightOf (V.tv t).ni)) && styB V c (V.cv c).ra G)) := by
    show stayB V c = _
    unfold stayB
    rw [hcu, Int.toNat_natCast, hGe, Int.toNat_natCast]
  have HSS : Hid (∀ k, k < V.gn → (V.gv k).us = true → c < (V.gv k).sn ∧ (V.gv k).sn ≤ 1048576 ∧ (V.gv k).sn = V.cn) := fun k hk hu => by
    have := sn_of hG hk
    rw [hu, if_pos rfl] at this
    omega
  have HNU := Lib.hid hNU
  have HMW := Lib.hid m
  have HT := Lib.hid T
  obtain ⟨R, hR⟩ : ∃ R, R = stayB V c := ⟨_, rfl⟩
  rw [← hR] at HST ⊢
  have a0 := HM.out.c c hc 0 _ rfl
  have a1 := HM.out.c c hc 1 _ rfl
  have a2 := HM.out.c c hc 2 _ rfl
  have a3 := HM.out.c c hc 3 _ rfl
  have a4 := HM.out.c c hc 4 _ rfl
  rw [Nat.add_zero] at a0
  rw [hcu] at a1
  have HM2 : Hid (MR ((w.alloc (.cells #[.int .i64 V.now, .slice (some ⟨a.ca, a.oc, none⟩) V.cn a.cc, .slice (some ⟨a.ta, a.ot, none⟩) V.tn a.tc, .slice (some ⟨a.ga, a.og, none⟩) V.gn a.gc] 33)).alloc (.cells #[.bool (V.cv c).up, .int .i64 (t : Nat), .int .i64 (V.cv c).ra, .int .i64 (V.cv c).bu, .int .i64 (V.cv c).id] 61)) V a) := HM.out.below ((Below.refl _ _).alloc (Nat.le_refl _) _)
  have e0 := HM2.out.t t ht 0 _ rfl
  have e1 := HM2.out.t t ht 1 _ rfl
  have e2 := HM2.out.t t ht 2 _ rfl
  have e3 := HM2.out.t t ht 3 _ rfl
  have e4 := HM2.out.t t ht 4 _ rfl
  have e5 := HM2.out.t t ht 5 _ rfl
  have e6 := HM2.out.t t ht 6 _ rfl
  have e7 := HM2.out.t t ht 7 _ rfl
  have e8 := HM2.out.t t ht 8 _ rfl
  rw [Nat.add_zero] at e0
  rw [hGe] at e1
  clear hR hG hNU m T hcu hGe
  go_enter Tryz.func81, Tryz.ntmps81
  go_upto_region 3 with (fail)
  clear e0 e1 e2 e3 e4 e5 e6 e7 e8 a0 a1 a2 a3 a4 HM HM2
  have hk0 : Bk (((w.alloc (.cells #[.int .i64 V.now, .slice (some ⟨a.ca, a.oc, none⟩) V.cn a.cc, .slice (some ⟨a.ta, a.ot, none⟩) V.tn a.tc, .slice (some ⟨a.ga, a.og, none⟩) V.gn a.gc] 33)).alloc (.cells #[.bool (V.cv c).up, .int .i64 (t : Nat), .int .i64 (V.cv c).ra, .int .i64 (V.cv c).bu, .int .i64 (V.cv c).id] 61)).alloc (.cells #[.int .i64 (V.tv t).st, .int .i64 (G : Nat), .int .i64 (V.tv t).cp, .int .i64 (V.tv t).ni, .int .i64 (V.tv t).ma, .int .i64 (V.tv t).vv, .int .i64 (V.tv t).su, .int .i64 (V.tv t).us, .int .i64 (V.tv t).lo] 54)) w.heap.size 33 #[.int .i64 V.now, .slice (some ⟨a.ca, a.oc, none⟩) V.cn a.cc, .slice (some ⟨a.ta, a.ot, none⟩) V.tn a.tc, .slice (some ⟨a.ga, a.og, none⟩) V.gn a.gc] := ((Bk.new w _ _).alloc _).alloc _
  have hk1 : Bk (((w.alloc (.cells #[.int .i64 V.now, .slice (some ⟨a.ca, a.oc, none⟩) V.cn a.cc, .slice (some ⟨a.ta, a.ot, none⟩) V.tn a.tc, .slice (some ⟨a.ga, a.og, none⟩) V.gn a.gc] 33)).alloc (.cells #[.bool (V.cv c).up, .int .i64 (t : Nat), .int .i64 (V.cv c).ra, .int .i64 (V.cv c).bu, .int .i64 (V.cv c).id] 61)).alloc (.cells #[.int .i64 (V.tv t).st, .int .i64 (G : Nat), .int .i64 (V.tv t).cp, .int .i64 (V.tv t).ni, .int .i64 (V.tv t).ma, .int .i64 (V.tv t).vv, .int .i64 (V.tv t).su, .int .i64 (V.tv t).us, .int .i64 (V.tv t).lo] 54)) (w.heap.size + 1) 61 #[.bool (V.cv c).up, .int .i64 (t : Nat), .int .i64 (V.cv c).ra, .int .i64 (V.cv c).bu, .int .i64 (V.cv c).id] := by
    have := Bk.new (w.alloc (.cells #[.int .i64 V.now, .slice (some ⟨a.ca, a.oc, none⟩) V.cn a.cc, .slice (some ⟨a.ta, a.ot, none⟩) V.tn a.tc, .slice (some ⟨a.ga, a.og, none⟩) V.gn a.gc] 33)) 61 #[.bool (V.cv c).up, .int .i64 (t : Nat), .int .i64 (V.cv c).ra, .int .i64 (V.cv c).bu, .int .i64 (V.cv c).id]
    rw [show ((w.alloc (.cells #[.int .i64 V.now, .slice (some ⟨a.ca, a.oc, none⟩) V.cn a.cc, .slice (some ⟨a.ta, a.ot, none⟩) V.tn a.tc, .slice (some ⟨a.ga, a.og, none⟩) V.gn a.gc] 33))).heap.size = w.heap.size + 1 by simp] at this
    exact this.alloc _
  have hk2 : Bk (((w.alloc (.cells #[.int .i64 V.now, .slice (some ⟨a.ca, a.oc, none⟩) V.cn a.cc, .slice (some ⟨a.ta, a.ot, none⟩) V.tn a.tc, .slice (some ⟨a.ga, a.og, none⟩) V.gn a.gc] 33)).alloc (.cells #[.bool (V.cv c).up, .int .i64 (t : Nat), .int .i64 (V.cv c).ra, .int .i64 (V.cv c).bu, .int .i64 (V.cv c).id] 61)).alloc (.cells #[.int .i64 (V.tv t).st, .int .i64 (G : Nat), .int .i64 (V.tv t).cp, .int .i64 (V.tv t).ni, .int .i64 (V.tv t).ma, .int .i64 (V.tv t).vv, .int .i64 (V.tv t).su, .int .i64 (V.tv t).us, .int .i64 (V.tv t).lo] 54)) (w.heap.size + 2) 54 #[.int .i64 (V.tv t).st, .int .i64 (G : Nat), .int .i64 (V.tv t).cp, .int .i64 (V.tv t).ni, .int .i64 (V.tv t).ma, .int .i64 (V.tv t).vv, .int .i64 (V.tv t).su, .int .i64 (V.tv t).us, .int .i64 (V.tv t).lo] := by
    have := Bk.new ((w.alloc (.cells #[.int .i64 V.now, .slice (some ⟨a.ca, a.oc, none⟩) V.cn a.cc, .slice (some ⟨a.ta, a.ot, none⟩) V.tn a.tc, .slice (some ⟨a.ga, a.og, none⟩) V.gn a.gc] 33)).alloc (.cells #[.bool (V.cv c).up, .int .i64 (t : Nat), .int .i64 (V.cv c).ra, .int .i64 (V.cv c).bu, .int .i64 (V.cv c).id] 61)) 54 #[.int .i64 (V.tv t).st, .int .i64 (G : Nat), .int .i64 (V.tv t).cp, .int .i64 (V.tv t).ni, .int .i64 (V.tv t).ma, .int .i64 (V.tv t).vv, .int .i64 (V.tv t).su, .int .i64 (V.tv t).us, .int .i64 (V.tv t).lo]
    rw [show (((w.alloc (.cells #[.int .i64 V.now, .slice (some ⟨a.ca, a.oc, none⟩) V.cn a.cc, .slice (some ⟨a.ta, a.ot, none⟩) V.tn a.tc, .slice (some ⟨a.ga, a.og, none⟩) V.gn a.gc] 33)).alloc (.cells #[.bool (V.cv c).up, .int .i64 (t : Nat), .int .i64 (V.cv c).ra, .int .i64 (V.cv c).bu, .int .i64 (V.cv c).id] 61))).heap.size = w.heap.size + 2 by simp] at this
    exact this
  have hb3 : Below w.heap.size w (((w.alloc (.cells #[.int .i64 V.now, .slice (some ⟨a.ca, a.oc, none⟩) V.cn a.cc, .slice (some ⟨a.ta, a.ot, none⟩) V.tn a.tc, .slice (some ⟨a.ga, a.og, none⟩) V.gn a.gc] 33)).alloc (.cells #[.bool (V.cv c).up, .int .i64 (t : Nat), .int .i64 (V.cv c).ra, .int .i64 (V.cv c).bu, .int .i64 (V.cv c).id] 61)).alloc (.cells #[.int .i64 (V.tv t).st, .int .i64 (G : Nat), .int .i64 (V.tv t).cp, .int .i64 (V.tv t).ni, .int .i64 (V.tv t).ma, .int .i64 (V.tv t).vv, .int .i64 (V.tv t).su, .int .i64 (V.tv t).us, .int .i64 (V.tv t).lo] 54)) := (hbx.alloc hbx.size _).alloc (by simp; omega) _
  have hw2 : w.heap.size + 2 < ((((w.alloc (.cells #[.int .i64 V.now, .slice (some ⟨a.ca, a.oc, none⟩) V.cn a.cc, .slice (some ⟨a.ta, a.ot, none⟩) V.tn a.tc, .slice (some ⟨a.ga, a.og, none⟩) V.gn a.gc] 33)).alloc (.cells #[.bool (V.cv c).up, .int .i64 (t : Nat), .int .i64 (V.cv c).ra, .int .i64 (V.cv c).bu, .int .i64 (V.cv c).id] 61)).alloc (.cells #[.int .i64 (V.tv t).st, .int .i64 (G : Nat), .int .i64 (V.tv t).cp, .int .i64 (V.tv t).ni, .int .i64 (V.tv t).ma, .int .i64 (V.tv t).vv, .int .i64 (V.tv t).su, .int .i64 (V.tv t).us, .int .i64 (V.tv t).lo] 54))).heap.size := by simp
  generalize (((w.alloc (.cells #[.int .i64 V.now, .slice (some ⟨a.ca, a.oc, none⟩) V.cn a.cc, .slice (some ⟨a.ta, a.ot, none⟩) V.tn a.tc, .slice (some ⟨a.ga, a.og, none⟩) V.gn a.gc] 33)).alloc (.cells #[.bool (V.cv c).up, .int .i64 (t : Nat), .int .i64 (V.cv c).ra, .int .i64 (V.cv c).bu, .int .i64 (V.cv c).id] 61)).alloc (.cells #[.int .i64 (V.tv t).st, .int .i64 (G : Nat), .int .i64 (V.tv t).cp, .int .i64 (V.tv t).ni, .int .i64 (V.tv t).ma, .int .i64 (V.tv t).vv, .int .i64 (V.tv t).su, .int .i64 (V.tv t).us, .int .i64 (V.tv t).lo] 54)) = wq at hk0 hk1 hk2 hb3 hw2 ⊢
  have HK0 := Lib.hid hk0
  have HK1 := Lib.hid hk1
  have HK2 := Lib.hid hk2
  have HB3 := Lib.hid hb3
  obtain ⟨q1, q2, q3⟩ := HSS.out G hG8 hGu
  obtain ⟨x13, s2, s3⟩ := HMW.out.s G hG8 (by omega)
  have f13 := HMW.out.g G hG8 13 _ rfl
  rw [x13] at f13
  have f0 := s3 c q1 0 _ rfl
  rw [Nat.add_zero] at f0
  have HW : Hid (IntKind.i64.wrap ((V.tv t).vv - (V.gv G).s0 c) = (V.tv t).vv - (V.gv G).s0 c) := by
    obtain ⟨y1, y2⟩ := timeB_t hvv
    obtain ⟨y3, y4⟩ := timeB_t (numH_t (allTo_at (numH V G) c _ q1 (allTo_at (fun g => allTo (numH V g) (V.gv g).sn) G _ hG8 HNU.out))).1
    exact wrap_in (by omega) (by omega)
  have hci : (c : Int) < ((V.gv G).sn : Nat) := by omega
  have hgl := HMW.out.gl
  clear hk0 hk1 hk2 hbx s3 x13
  go_cut [40] from 9 (fun c' wx => c' = .bool (!(decide ((V.tv t).vv - (V.gv G).s0 c ≤ virtualStep (V.cv c).ra (weightOf (V.tv t).ni)))) ∧ Hid (Below wq.heap.size wq wx))
  case first =>
    have hbx := hb3
    have hzx := hb3.size
    have KS : ∀ w', Below wq.heap.size wq w' → (fun w' => Below wq.heap.size wq w' ∧ w'.cell? ⟨w.heap.size, 3, none⟩ = some (.slice (some ⟨a.ga, a.og, none⟩) V.gn a.gc) ∧ w'.cell? ⟨w.heap.size + 1, 2, none⟩ = some (.int .i64 (V.cv c).ra) ∧ w'.cell? ⟨w.heap.size + 2, 1, none⟩ = some (.int .i64 (G : Nat)) ∧ w'.cell? ⟨w.heap.size + 2, 3, none⟩ = some (.int .i64 (V.tv t).ni) ∧ w'.cell? ⟨w.heap.size + 2, 5, none⟩ = some (.int .i64 (V.tv t).vv) ∧ w'.cell? ⟨a.ga, a.og + G * 14 + 13, none⟩ = some (.slice (some ⟨a.sb G, a.so G, none⟩) (V.gv G).sn (a.gh G).sc) ∧ w'.cell? ⟨a.sb G, a.so G + c * 5, none⟩ = some (.int .i64 ((V.gv G).s0 c))) w' := fun w' h => ⟨h, (h.cell (p := ⟨w.heap.size, 3, none⟩) HK0.out.lt).trans (HK0.out.cell 3), (h.cell (p := ⟨w.heap.size + 1, 2, none⟩) HK1.out.lt).trans (HK1.out.cell 2), (h.cell (p := ⟨w.heap.size + 2, 1, none⟩) HK2.out.lt).trans (HK2.out.cell 1), (h.cell (p := ⟨w.heap.size + 2, 3, none⟩) HK2.out.lt).trans (HK2.out.cell 3), (h.cell (p := ⟨w.heap.size + 2, 5, none⟩) HK2.out.lt).trans (HK2.out.cell 5), (h.cell (p := ⟨a.ga, a.og + G * 14 + 13, none⟩) (Nat.lt_of_lt_of_le hgl hzx)).trans ((hbx.cell (p := ⟨a.ga, a.og + G * 14 + 13, none⟩) hgl).trans f13), (h.cell (p := ⟨a.sb G, a.so G + c * 5, none⟩) (Nat.lt_of_lt_of_le s2 hzx)).trans ((hbx.cell (p := ⟨a.sb G, a.so G + c * 5, none⟩) s2).trans f0)⟩
    have KT : ∀ wa wb, (fun w' => Below wq.heap.size wq w' ∧ w'.cell? ⟨w.heap.size, 3, none⟩ = some (.slice (some ⟨a.ga, a.og, none⟩) V.gn a.gc) ∧ w'.cell? ⟨w.heap.size + 1, 2, none⟩ = some (.int .i64 (V.cv c).ra) ∧ w'.cell? ⟨w.heap.size + 2, 1, none⟩ = some (.int .i64 (G : Nat)) ∧ w'.cell? ⟨w.heap.size + 2, 3, none⟩ = some (.int .i64 (V.tv t).ni) ∧ w'.cell? ⟨w.heap.size + 2, 5, none⟩ = some (.int .i64 (V.tv t).vv) ∧ w'.cell? ⟨a.ga, a.og + G * 14 + 13, none⟩ = some (.slice (some ⟨a.sb G, a.so G, none⟩) (V.gv G).sn (a.gh G).sc) ∧ w'.cell? ⟨a.sb G, a.so G + c * 5, none⟩ = some (.int .i64 ((V.gv G).s0 c))) wa → Below wa.heap.size wa wb → (fun w' => Below wq.heap.size wq w' ∧ w'.cell? ⟨w.heap.size, 3, none⟩ = some (.slice (some ⟨a.ga, a.og, none⟩) V.gn a.gc) ∧ w'.cell? ⟨w.heap.size + 1, 2, none⟩ = some (.int .i64 (V.cv c).ra) ∧ w'.cell? ⟨w.heap.size + 2, 1, none⟩ = some (.int .i64 (G : Nat)) ∧ w'.cell? ⟨w.heap.size + 2, 3, none⟩ = some (.int .i64 (V.tv t).ni) ∧ w'.cell? ⟨w.heap.size + 2, 5, none⟩ = some (.int .i64 (V.tv t).vv) ∧ w'.cell? ⟨a.ga, a.og + G * 14 + 13, none⟩ = some (.slice (some ⟨a.sb G, a.so G, none⟩) (V.gv G).sn (a.gh G).sc) ∧ w'.cell? ⟨a.sb G, a.so G + c * 5, none⟩ = some (.int .i64 ((V.gv G).s0 c))) wb := fun wa wb h hab => KS wb (h.1.trans (hab.mono h.1.size))
    have HKS := Lib.hid KS
    have HKT := Lib.hid KT
    clear KS KT
    clear f0 f13 hb3
    refine wp_region_held_drew (S := (fun w' => Below wq.heap.size wq w' ∧ w'.cell? ⟨w.heap.size, 3, none⟩ = some (.slice (some ⟨a.ga, a.og, none⟩) V.gn a.gc) ∧ w'.cell? ⟨w.heap.size + 1, 2, none⟩ = some (.int .i64 (V.cv c).ra) ∧ w'.cell? ⟨w.heap.size + 2, 1, none⟩ = some (.int .i64 (G : Nat)) ∧ w'.cell? ⟨w.heap.size + 2, 3, none⟩ = some (.int .i64 (V.tv t).ni) ∧ w'.cell? ⟨w.heap.size + 2, 5, none⟩ = some (.int .i64 (V.tv t).vv) ∧ w'.cell? ⟨a.ga, a.og + G * 14 + 13, none⟩ = some (.slice (some ⟨a.sb G, a.so G, none⟩) (V.gv G).sn (a.gh G).sc) ∧ w'.cell? ⟨a.sb G, a.so G + c * 5, none⟩ = some (.int .i64 ((V.gv G).s0 c)))) (by kernel_rfl) (HKS.out _ (Below.refl _ _).drew) (fun hH => ?_)
    refine rgT 0 ?_ ?_ hH ?_; rotate_left; · (intro w s; (try dsimp only at s); go_simp; try with_reducible rfl)
    try simp only [rgp, rg0, rg1]
    refine rgT 1 ?_ ?_ hH ?_; rotate_left; · (intro w s; (try dsimp only at s); go_simp; try with_reducible rfl)
    try simp only [rgp, rg0, rg1]
    refine rgT 2 ?_ ?_ hH ?_; rotate_left; · (intro w s; (try dsimp only at s); go_simp; try with_reducible rfl)
    try simp only [rgp, rg0, rg1]
    refine rgT 3 ?_ ?_ hH ?_; rotate_left; · (intro w s; (try dsimp only at s); go_simp; try with_reducible rfl)
    try simp only [rgp, rg0, rg1]
    refine rgT 4 ?_ ?_ hH ?_; rotate_left; · (intro w s; (try dsimp only at s); go_simp; try with_reducible rfl)
    try simp only [rgp, rg0, rg1]
    refine rgT 5 ?_ ?_ hH ?_; rotate_left; · (intro w s; (try dsimp only at s); go_simp; try with_reducible rfl)
    try simp only [rgp, rg0, rg1]
    refine rgT 6 ?_ ?_ hH ?_; rotate_left; · (intro w s; (try dsimp only at s); go_simp; try with_reducible rfl)
    try simp only [rgp, rg0, rg1]
    refine rgT 7 ?_ ?_ hH ?_; rotate_left; · (intro w s; (try dsimp only at s); go_simp; try with_reducible rfl)
    try simp only [rgp, rg0, rg1]
    refine rgT 8 ?_ ?_ hH ?_; rotate_left; · (intro w s; (try dsimp only at s); go_simp; try with_reducible rfl)
    try simp only [rgp, rg0, rg1]
    refine rgT 9 ?_ ?_ hH ?_; rotate_left; · (intro w s; (try dsimp only at s); go_simp; try with_reducible rfl)
    try simp only [rgp, rg0, rg1]
    refine rgT 10 ?_ ?_ hH ?_; rotate_left; · (intro w s; (try dsimp only at s); go_simp; try with_reducible rfl)
    try simp only [rgp, rg0, rg1]
    refine rgT 11 ?_ ?_ hH ?_; rotate_left; · (intro w s; (try dsimp only at s); go_simp; try with_reducible rfl)
    try simp only [rgp, rg0, rg1]
    refine rgT 12 ?_ ?_ hH ?_; rotate_left; · (intro w s; (try dsimp only at s); go_simp; try with_reducible rfl)
    try simp only [rgp, rg0, rg1]
    refine rgT 13 ?_ ?_ hH ?_; rotate_left; · (intro w s; (try dsimp only at s); go_simp; try with_reducible rfl)
    try simp only [rgp, rg0, rg1]
    refine rgT 14 ?_ ?_ hH ?_; rotate_left; · (intro w s; (try dsimp only at s); go_simp; try with_reducible rfl)
    try simp only [rgp, rg0, rg1]
    refine rgT 15 ?_ ?_ hH ?_; rotate_left; · (intro w s; (try dsimp only at s); go_simp; try with_reducible rfl)
    try simp only [rgp, rg0, rg1]
    refine rgT 16 ?_ ?_ hH ?_; rotate_left; · (intro w s; (try dsimp only at s); go_simp; try with_reducible rfl)
    try simp only [rgp, rg0, rg1]
    refine rgT 17 ?_ ?_ hH ?_; rotate_left; · (intro w s; (try dsimp only at s); go_simp; try with_reducible rfl)
    try simp only [rgp, rg0, rg1]
    refine rgS 18 (fun K hK => ?_)
    go_simp
    (go_at_call 77; refine (sWeightOf_any _ _).mono ?_; rintro e wv1 ⟨rfl, rfl⟩)
    go_wp2_with fail
    refine hK.out _ _ (hH) (fun hH_1 => ?_)
    clear hK K
    try simp only [rgp, rgn, rg0, rg1]
    refine rgS 19 (fun K hK => ?_)
    go_simp
    (go_at_call 106; refine (sVirtualStep_any _ _ _).mono ?_; rintro e wv2 ⟨rfl, rfl⟩)
    go_wp2_with fail
    refine hK.out _ _ (hH_1) (fun hH_2 => ?_)
    clear hK K
    try simp only [rgp, rgn, rg0, rg1]
    refine rgT 20 ?_ ?_ hH_2 ?_; rotate_left; · (intro w s; (try dsimp only at s); go_simp; try with_reducible rfl)
    try simp only [rgp, rg0, rg1]
    refine wpAnyH_done (by kernel_rfl) ?_ _
    go_wp2
    go_meet
    exact ⟨by rw [HW.out]; exact congrArg Value.bool (decGt _ _), hH_2.1⟩
  case rest =>
    obtain ⟨rfl, HXX⟩ := hcut
    have HBC : Hid (Below w.heap.size w wc) := HB3.out.trans (HXX.out.mono HB3.out.size)
    have HK0C : Hid (Bk wc w.heap.size 33 #[.int .i64 V.now, .slice (some ⟨a.ca, a.oc, none⟩) V.cn a.cc, .slice (some ⟨a.ta, a.ot, none⟩) V.tn a.tc, .slice (some ⟨a.ga, a.og, none⟩) V.gn a.gc]) := HK0.out.below HXX.out HK0.out.lt
    have HK1C : Hid (Bk wc (w.heap.size + 1) 61 #[.bool (V.cv c).up, .int .i64 (t : Nat), .int .i64 (V.cv c).ra, .int .i64 (V.cv c).bu, .int .i64 (V.cv c).id]) := HK1.out.below HXX.out HK1.out.lt
    have t1 := (HXX.out.cell (p := ⟨w.heap.size + 2, 1, none⟩) HK2.out.lt).trans (HK2.out.cell 1)
    clear HXX HK0 HK1 HK2 HB3 hb3 f0 f13 HW hci hvv s2 q1 q2 q3 hw2
    cases hD : decide ((V.tv t).vv - (V.gv G).s0 c ≤ virtualStep (V.cv c).ra (weightOf (V.tv t).ni))
    · rw [hD] at HST
      go_wp2
      go_ret
      exact ⟨ret_boolB (by rw [HST.out]; rfl), HBC.out⟩
    rw [hD] at HST
    have HEQ : Hid (R = styB V c (V.cv c).ra G) := by rw [HST.out]; rfl
    clear hD HST
    go_wp2
    go_loopw [7] (fun i wr => ∃ g : Nat, g < 8 ∧ (V.gv g).us = true ∧ i = .int .i64 g ∧ Hid (R = styB V c (V.cv c).ra g) ∧ Hid (Bk wr w.heap.size 33 #[.int .i64 V.now, .slice (some ⟨a.ca, a.oc, none⟩) V.cn a.cc, .slice (some ⟨a.ta, a.ot, none⟩) V.tn a.tc, .slice (some ⟨a.ga, a.og, none⟩) V.gn a.gc]) ∧ Hid (Bk wr (w.heap.size + 1) 61 #[.bool (V.cv c).up, .int .i64 (t : Nat), .int .i64 (V.cv c).ra, .int .i64 (V.cv c).bu, .int .i64 (V.cv c).id]) ∧ Hid (Below w.heap.size w wr)) (fun i _ => dN V (intOf i).toNat)
    case atStart => exact ⟨G, by have := HN8.out; omega, hGu, rfl, HEQ, HK0C, HK1C, HBC⟩
    case round =>
      clear t1 HK0C HK1C HBC HEQ hgi hti
      obtain ⟨g, hg8, hgu, rfl, HSY, HK0, HK1, HB⟩ := hrel
      have hz := HB.out.size
      by_cases h0 : g = 0
      · subst h0
        have HN := Lib.hid (HSY.out.trans (HT.out.sty0 c _))
        clear HSY
        go_wp2
        go_ret
        exact ⟨ret_boolB HN.out.symm, HB.out⟩
      · have h0' : ((g : Int) != 0) = true := by simp [h0]
        have HSTG := Lib.hid (HT.out.sty h0 hg8 hgu c (V.cv c).ra)
        obtain ⟨p1, p2, p3, p4⟩ := HT.out.pa g h0 hg8 hgu
        have hgn : g < V.gn := by have := HN8.out; omega
        have hpn : pN V g < V.gn := by have := HN8.out; omega
        obtain ⟨q1, q2, q3⟩ := HSS.out g hgn hgu
        obtain ⟨r1, r2, r3⟩ := HSS.out (pN V g) hpn p3
        obtain ⟨ya, y2, y3⟩ := HMW.out.s g hgn (by omega)
        obtain ⟨za, z2, z3⟩ := HMW.out.s (pN V g) hpn (by omega)
        have j3 := HK0.out.cell 3
        have x13 := (HB.out.cell (p := ⟨a.ga, a.og + g * 14 + 13, none⟩) hgl).trans (HMW.out.g g hgn 13 _ rfl)
        rw [ya] at x13
        have hrs := rangeAt_below (y3 c q1) HB.out y2
        have e0 := hrs 0 _ rfl
        have e1 := hrs 1 _ rfl
        have e2 := hrs 2 _ rfl
        have e3 := hrs 3 _ rfl
        have e4 := hrs 4 _ rfl
        rw [Nat.add_zero] at e0
        have x0 := z3 c r1 0 _ rfl
        rw [Nat.add_zero] at x0
        have xp := HMW.out.g g hgn 1 _ rfl
        rw [p1] at xp
        have xs := HMW.out.g (pN V g) hpn 13 _ rfl
        rw [za] at xs
        have HW : Hid (IntKind.i64.wrap ((V.gv g).s2 c - (V.gv (pN V g)).s0 c) = (V.gv g).s2 c - (V.gv (pN V g)).s0 c) := by
          obtain ⟨o1, o2⟩ := timeB_t (numH_t (allTo_at (numH V g) c _ q1 (allTo_at (fun g => allTo (numH V g) (V.gv g).sn) g _ hgn HNU.out))).2.1
          obtain ⟨o3, o4⟩ := timeB_t (numH_t (allTo_at (numH V (pN V g)) c _ r1 (allTo_at (fun g => allTo (numH V g) (V.gv g).sn) (pN V g) _ hpn HNU.out))).1
          exact wrap_in (by omega) (by omega)
        have hgi : (g : Int) < (V.gn : Nat) := by omega
        have hpi : (pN V g : Int) < (V.gn : Nat) := by omega
        have hci : (c : Int) < ((V.gv g).sn : Nat) := by omega
        have hcp : (c : Int) < ((V.gv (pN V g)).sn : Nat) := by omega
        clear y3 z3 ya za hrs p1 hpn q1 q2 q3 r1 r2 r3
        go_upto_region 9 with (fail)
        have hkx : Bk (wr.alloc (.cells #[.int .i64 ((V.gv g).s0 c), .bool ((V.gv g).s1 c), .int .i64 ((V.gv g).s2 c), .int .i64 ((V.gv g).s3 c), .int .i64 ((V.gv g).s4 c)] 70)) wr.heap.size 70 #[.int .i64 ((V.gv g).s0 c), .bool ((V.gv g).s1 c), .int .i64 ((V.gv g).s2 c), .int .i64 ((V.gv g).s3 c), .int .i64 ((V.gv g).s4 c)] := Bk.new _ _ _
        have hbx := HB.out.alloc hz (.cells #[.int .i64 ((V.gv g).s0 c), .bool ((V.gv g).s1 c), .int .i64 ((V.gv g).s2 c), .int .i64 ((V.gv g).s3 c), .int .i64 ((V.gv g).s4 c)] 70)
        have hk0 := HK0.out.alloc (.cells #[.int .i64 ((V.gv g).s0 c), .bool ((V.gv g).s1 c), .int .i64 ((V.gv g).s2 c), .int .i64 ((V.gv g).s3 c), .int .i64 ((V.gv g).s4 c)] 70)
        have hk1 := HK1.out.alloc (.cells #[.int .i64 ((V.gv g).s0 c), .bool ((V.gv g).s1 c), .int .i64 ((V.gv g).s2 c), .int .i64 ((V.gv g).s3 c), .int .i64 ((V.gv g).s4 c)] 70)
        generalize (wr.alloc (.cells #[.int .i64 ((V.gv g).s0 c), .bool ((V.gv g).s1 c), .int .i64 ((V.gv g).s2 c), .int .i64 ((V.gv g).s3 c), .int .i64 ((V.gv g).s4 c)] 70)) = wq at hkx hbx hk0 hk1 ⊢
        have HBX := Lib.hid hbx
        have HK0Q := Lib.hid hk0
        have HK1Q := Lib.hid hk1
        clear HB HK0 HK1 hz e0 e1 e2 e3 e4 j3 x13
        go_cut [83] from 43 to 83 (fun c' wx => c' = .bool (!(decide ((V.gv g).s2 c - (V.gv (pN V g)).s0 c ≤ virtualStep (V.cv c).ra ((V.gv g).s3 c)))) ∧ Hid (Below wq.heap.size wq wx))
        case first =>
          have hzx := hbx.size
          have KS : ∀ w', Below wq.heap.size wq w' → (fun w' => Below wq.heap.size wq w' ∧ w'.cell? ⟨w.heap.size, 3, none⟩ = some (.slice (some ⟨a.ga, a.og, none⟩) V.gn a.gc) ∧ w'.cell? ⟨w.heap.size + 1, 2, none⟩ = some (.int .i64 (V.cv c).ra) ∧ w'.cell? ⟨wr.heap.size, 2, none⟩ = some (.int .i64 ((V.gv g).s2 c)) ∧ w'.cell? ⟨wr.heap.size, 3, none⟩ = some (.int .i64 ((V.gv g).s3 c)) ∧ w'.cell? ⟨a.ga, a.og + g * 14 + 1, none⟩ = some (.int .i64 (pN V g : Nat)) ∧ w'.cell? ⟨a.ga, a.og + pN V g * 14 + 13, none⟩ = some (.slice (some ⟨a.sb (pN V g), a.so (pN V g), none⟩) (V.gv (pN V g)).sn (a.gh (pN V g)).sc) ∧ w'.cell? ⟨a.sb (pN V g), a.so (pN V g) + c * 5, none⟩ = some (.int .i64 ((V.gv (pN V g)).s0 c))) w' := fun w' h => ⟨h, (h.cell (p := ⟨w.heap.size, 3, none⟩) hk0.lt).trans (hk0.cell 3), (h.cell (p := ⟨w.heap.size + 1, 2, none⟩) hk1.lt).trans (hk1.cell 2), (h.cell (p := ⟨wr.heap.size, 2, none⟩) hkx.lt).trans (hkx.cell 2), (h.cell (p := ⟨wr.heap.size, 3, none⟩) hkx.lt).trans (hkx.cell 3), (h.cell (p := ⟨a.ga, a.og + g * 14 + 1, none⟩) (Nat.lt_of_lt_of_le hgl hzx)).trans ((hbx.cell (p := ⟨a.ga, a.og + g * 14 + 1, none⟩) hgl).trans xp), (h.cell (p := ⟨a.ga, a.og + pN V g * 14 + 13, none⟩) (Nat.lt_of_lt_of_le hgl hzx)).trans ((hbx.cell (p := ⟨a.ga, a.og + pN V g * 14 + 13, none⟩) hgl).trans xs), (h.cell (p := ⟨a.sb (pN V g), a.so (pN V g) + c * 5, none⟩) (Nat.lt_of_lt_of_le z2 hzx)).trans ((hbx.cell (p := ⟨a.sb (pN V g), a.so (pN V g) + c * 5, none⟩) z2).trans x0)⟩
          have KT : ∀ wa wb, (fun w' => Below wq.heap.size wq w' ∧ w'.cell? ⟨w.heap.size, 3, none⟩ = some (.slice (some ⟨a.ga, a.og, none⟩) V.gn a.gc) ∧ w'.cell? ⟨w.heap.size + 1, 2, none⟩ = some (.int .i64 (V.cv c).ra) ∧ w'.cell? ⟨wr.heap.size, 2, none⟩ = some (.int .i64 ((V.gv g).s2 c)) ∧ w'.cell? ⟨wr.heap.size, 3, none⟩ = some (.int .i64 ((V.gv g).s3 c)) ∧ w'.cell? ⟨a.ga, a.og + g * 14 + 1, none⟩ = some (.int .i64 (pN V g : Nat)) ∧ w'.cell? ⟨a.ga, a.og + pN V g * 14 + 13, none⟩ = some (.slice (some ⟨a.sb (pN V g), a.so (pN V g), none⟩) (V.gv (pN V g)).sn (a.gh (pN V g)).sc) ∧ w'.cell? ⟨a.sb (pN V g), a.so (pN V g) + c * 5, none⟩ = some (.int .i64 ((V.gv (pN V g)).s0 c))) wa → Below wa.heap.size wa wb → (fun w' => Below wq.heap.size wq w' ∧ w'.cell? ⟨w.heap.size, 3, none⟩ = some (.slice (some ⟨a.ga, a.og, none⟩) V.gn a.gc) ∧ w'.cell? ⟨w.heap.size + 1, 2, none⟩ = some (.int .i64 (V.cv c).ra) ∧ w'.cell? ⟨wr.heap.size, 2, none⟩ = some (.int .i64 ((V.gv g).s2 c)) ∧ w'.cell? ⟨wr.heap.size, 3, none⟩ = some (.int .i64 ((V.gv g).s3 c)) ∧ w'.cell? ⟨a.ga, a.og + g * 14 + 1, none⟩ = some (.int .i64 (pN V g : Nat)) ∧ w'.cell? ⟨a.ga, a.og + pN V g * 14 + 13, none⟩ = some (.slice (some ⟨a.sb (pN V g), a.so (pN V g), none⟩) (V.gv (pN V g)).sn (a.gh (pN V g)).sc) ∧ w'.cell? ⟨a.sb (pN V g), a.so (pN V g) + c * 5, none⟩ = some (.int .i64 ((V.gv (pN V g)).s0 c))) wb := fun wa wb h hab => KS wb (h.1.trans (hab.mono h.1.size))
          have HKS := Lib.hid KS
          have HKT := Lib.hid KT
          clear KS KT
          clear x0 xp xs hk0 hk1 hkx
          refine wp_region_held_drew (S := (fun w' => Below wq.heap.size wq w' ∧ w'.cell? ⟨w.heap.size, 3, none⟩ = some (.slice (some ⟨a.ga, a.og, none⟩) V.gn a.gc) ∧ w'.cell? ⟨w.heap.size + 1, 2, none⟩ = some (.int .i64 (V.cv c).ra) ∧ w'.cell? ⟨wr.heap.size, 2, none⟩ = some (.int .i64 ((V.gv g).s2 c)) ∧ w'.cell? ⟨wr.heap.size, 3, none⟩ = some (.int .i64 ((V.gv g).s3 c)) ∧ w'.cell? ⟨a.ga, a.og + g * 14 + 1, none⟩ = some (.int .i64 (pN V g : Nat)) ∧ w'.cell? ⟨a.ga, a.og + pN V g * 14 + 13, none⟩ = some (.slice (some ⟨a.sb (pN V g), a.so (pN V g), none⟩) (V.gv (pN V g)).sn (a.gh (pN V g)).sc) ∧ w'.cell? ⟨a.sb (pN V g), a.so (pN V g) + c * 5, none⟩ = some (.int .i64 ((V.gv (pN V g)).s0 c)))) (by kernel_rfl) (HKS.out _ (Below.refl _ _).drew) (fun hH => ?_)
          refine rgT 0 ?_ ?_ hH ?_; rotate_left; · (intro w s; (try dsimp only at s); go_simp; try with_reducible rfl)
          try simp only [rgp, rg0, rg1]
          refine rgT 1 ?_ ?_ hH ?_; rotate_left; · (intro w s; (try dsimp only at s); go_simp; try with_reducible rfl)
          try simp only [rgp, rg0, rg1]
          refine rgT 2 ?_ ?_ hH ?_; rotate_left; · (intro w s; (try dsimp only at s); go_simp; try with_reducible rfl)
          try simp only [rgp, rg0, rg1]
          refine rgT 3 ?_ ?_ hH ?_; rotate_left; · (intro w s; (try dsimp only at s); go_simp; try with_reducible rfl)
          try simp only [rgp, rg0, rg1]
          refine rgT 4 ?_ ?_ hH ?_; rotate_left; · (intro w s; (try dsimp only at s); go_simp; try with_reducible rfl)
          try simp only [rgp, rg0, rg1]
          refine rgT 5 ?_ ?_ hH ?_; rotate_left; · (intro w s; (try dsimp only at s); go_simp; try with_reducible rfl)
          try simp only [rgp, rg0, rg1]
          refine rgT 6 ?_ ?_ hH ?_; rotate_left; · (intro w s; (try dsimp only at s); go_simp; try with_reducible rfl)
          try simp only [rgp, rg0, rg1]
          refine rgT 7 ?_ ?_ hH ?_; rotate_left; · (intro w s; (try dsimp only at s); go_simp; try with_reducible rfl)
          try simp only [rgp, rg0, rg1]
          refine rgT 8 ?_ ?_ hH ?_; rotate_left; · (intro w s; (try dsimp only at s); go_simp; try with_reducible rfl)
          try simp only [rgp, rg0, rg1]
          refine rgT 9 ?_ ?_ hH ?_; rotate_left; · (intro w s; (try dsimp only at s); go_simp; try with_reducible rfl)
          try simp only [rgp, rg0, rg1]
          refine rgT 10 ?_ ?_ hH ?_; rotate_left; · (intro w s; (try dsimp only at s); go_simp; try with_reducible rfl)
          try simp only [rgp, rg0, rg1]
          refine rgT 11 ?_ ?_ hH ?_; rotate_left; · (intro w s; (try dsimp only at s); go_simp; try with_reducible rfl)
          try simp only [rgp, rg0, rg1]
          refine rgT 12 ?_ ?_ hH ?_; rotate_left; · (intro w s; (try dsimp only at s); go_simp; try with_reducible rfl)
          try simp only [rgp, rg0, rg1]
          refine rgT 13 ?_ ?_ hH ?_; rotate_left; · (intro w s; (try dsimp only at s); go_simp; try with_reducible rfl)
          try simp only [rgp, rg0, rg1]
          refine rgT 14 ?_ ?_ hH ?_; rotate_left; · (intro w s; (try dsimp only at s); go_simp; try with_reducible rfl)
          try simp only [rgp, rg0, rg1]
          refine rgT 15 ?_ ?_ hH ?_; rotate_left; · (intro w s; (try dsimp only at s); go_simp; try with_reducible rfl)
          try simp only [rgp, rg0, rg1]
          refine rgT 16 ?_ ?_ hH ?_; rotate_left; · (intro w s; (try dsimp only at s); go_simp; try with_reducible rfl)
          try simp only [rgp, rg0, rg1]
          refine rgT 17 ?_ ?_ hH ?_; rotate_left; · (intro w s; (try dsimp only at s); go_simp; try with_reducible rfl)
          try simp only [rgp, rg0, rg1]
          refine rgT 18 ?_ ?_ hH ?_; rotate_left; · (intro w s; (try dsimp only at s); go_simp; try with_reducible rfl)
          try simp only [rgp, rg0, rg1]
          refine rgT 19 ?_ ?_ hH ?_; rotate_left; · (intro w s; (try dsimp only at s); go_simp; try with_reducible rfl)
          try simp only [rgp, rg0, rg1]
          refine rgT 20 ?_ ?_ hH ?_; rotate_left; · (intro w s; (try dsimp only at s); go_simp; try with_reducible rfl)
          try simp only [rgp, rg0, rg1]
          refine rgT 21 ?_ ?_ hH ?_; rotate_left; · (intro w s; (try dsimp only at s); go_simp; try with_reducible rfl)
          try simp only [rgp, rg0, rg1]
          refine rgS 22 (fun K hK => ?_)
          go_simp
          (go_at_call 106; refine (sVirtualStep_any _ _ _).mono ?_; rintro e wv1 ⟨rfl, rfl⟩)
          go_wp2_with fail
          refine hK.out _ _ (hH) (fun hH_1 => ?_)
          clear hK K
          try simp only [rgp, rgn, rg0, rg1]
          refine rgT 23 ?_ ?_ hH_1 ?_; rotate_left; · (intro w s; (try dsimp only at s); go_simp; try with_reducible rfl)
          try simp only [rgp, rg0, rg1]
          refine wpAnyH_done (by kernel_rfl) ?_ _
          go_wp2
          go_meet
          exact ⟨by rw [HW.out]; exact congrArg Value.bool (decGt _ _), hH_1.1⟩
        case rest =>
          obtain ⟨rfl, HXX⟩ := hcut
          rename World => wg
          have HBG : Hid (Below w.heap.size w wg) := HBX.out.trans (HXX.out.mono HBX.out.size)
          have HK0G : Hid (Bk wg w.heap.size 33 #[.int .i64 V.now, .slice (some ⟨a.ca, a.oc, none⟩) V.cn a.cc, .slice (some ⟨a.ta, a.ot, none⟩) V.tn a.tc, .slice (some ⟨a.ga, a.og, none⟩) V.gn a.gc]) := HK0Q.out.below HXX.out HK0Q.out.lt
          have HK1G : Hid (Bk wg (w.heap.size + 1) 61 #[.bool (V.cv c).up, .int .i64 (t : Nat), .int .i64 (V.cv c).ra, .int .i64 (V.cv c).bu, .int .i64 (V.cv c).id]) := HK1Q.out.below HXX.out HK1Q.out.lt
          have j3 := HK0G.out.cell 3
          have jp := (HBG.out.cell (p := ⟨a.ga, a.og + g * 14 + 1, none⟩) hgl).trans xp
          clear hbx hkx hk0 hk1 HXX x0 xp xs HW HBX HK0Q HK1Q
          cases hD : decide ((V.gv g).s2 c - (V.gv (pN V g)).s0 c ≤ virtualStep (V.cv c).ra ((V.gv g).s3 c))
          · have HN := Lib.hid (HSY.out.trans (HSTG.out.trans (by rw [hD]; rfl)) : R = false)
            clear hD
            go_wp2
            go_ret
            exact ⟨ret_boolB HN.out.symm, HBG.out⟩
          · have HN : Hid (R = styB V c (V.cv c).ra (pN V g)) := HSY.out.trans (HSTG.out.trans (by rw [hD]; rfl))
            clear hD
            go_wp2
            go_roundw
            case rel => exact ⟨pN V g, p2, p3, by go_num, HN, HK0G, HK1G, HBG⟩
            case measure => simp [intOf]; omega
end Go.Proofs.YtndbmeedimhohaaGreat
namespace Go.Proofs.YtndbmeedimhohaaGreat
open Go.RowKit
set_option maxHeartbeats 4000000 in
set_option maxRecDepth 100000 in
theorem sCpuOk_any (V : WV) (T : Tree V) (a : WA) (c : Nat) (hc : c < V.cn) (hcn : V.cn ≤ 4) (htn : V.tn ≤ 1048576) (hG : allTo (groupI V) V.gn = true) (hTS : ∀ t, t < V.tn → (V.tv t).st = 1 → usedB (fun i => (V.gv i).us) V.gn (V.tv t).gr = true ∧ 0 ≤ (V.tv t).cp ∧ (V.tv t).cp.toNat < V.cn ∧ timeB (V.tv t).vv = true) (hNU : allTo (fun g => allTo (numH V g) (V.gv g).sn) V.gn = true) (w : World) (m : MR w V a) :
    Calls Tryz.prog 45 #[.agg #[.int .i64 V.now, .slice (some ⟨a.ca, a.oc, none⟩) V.cn a.cc, .slice (some ⟨a.ta, a.ot, none⟩) V.tn a.tc, .slice (some ⟨a.ga, a.og, none⟩) V.gn a.gc], .int .i64 c] w fun e w' => e = .returned (.bool (cpuS V c)) ∧ Below w.heap.size w w' := by
  have hbx : Below w.heap.size w (w.alloc (.cells #[.int .i64 V.now, .slice (some ⟨a.ca, a.oc, none⟩) V.cn a.cc, .slice (some ⟨a.ta, a.ot, none⟩) V.tn a.tc, .slice (some ⟨a.ga, a.og, none⟩) V.gn a.gc] 33)) := (Below.refl _ w).alloc (Nat.le_refl _) _
  have HM : Hid (MR (w.alloc (.cells #[.int .i64 V.now, .slice (some ⟨a.ca, a.oc, none⟩) V.cn a.cc, .slice (some ⟨a.ta, a.ot, none⟩) V.tn a.tc, .slice (some ⟨a.ga, a.og, none⟩) V.gn a.gc] 33)) V a) := m.below hbx
  have hci : (c : Int) < (V.cn : Nat) := by omega
  have HES : Hid (cpuS V c = (timeB (V.cv c).bu && timeB (V.cv c).id && inR (V.cv c).cu (-1) ((V.tn : Int) - 1) && if (V.cv c).cu < 0 then ((V.cv c).ra == 0) else (V.cv c).up && inR (V.cv c).ra 1 149 && ((V.tv (V.cv c).cu.toNat).cp == (c : Int)) && inlS V (V.cv c).cu.toNat && stayB V c)) := rfl
  obtain ⟨R, hR⟩ : ∃ R, R = cpuS V c := ⟨_, rfl⟩
  rw [← hR] at HES ⊢
  have a0 := HM.out.c c hc 0 _ rfl
  have a1 := HM.out.c c hc 1 _ rfl
  have a2 := HM.out.c c hc 2 _ rfl
  have a3 := HM.out.c c hc 3 _ rfl
  have a4 := HM.out.c c hc 4 _ rfl
  rw [Nat.add_zero] at a0
  have hb2 : Below w.heap.size w ((w.alloc (.cells #[.int .i64 V.now, .slice (some ⟨a.ca, a.oc, none⟩) V.cn a.cc, .slice (some ⟨a.ta, a.ot, none⟩) V.tn a.tc, .slice (some ⟨a.ga, a.og, none⟩) V.gn a.gc] 33)).alloc (.cells #[.bool (V.cv c).up, .int .i64 (V.cv c).cu, .int .i64 (V.cv c).ra, .int .i64 (V.cv c).bu, .int .i64 (V.cv c).id] 61)) := hbx.alloc hbx.size _
  have HB2 := Lib.hid hb2
  have HMW := Lib.hid m
  have HG := Lib.hid hG
  have HTS := Lib.hid hTS
  have HNU := Lib.hid hNU
  have HT := Lib.hid T
  clear hR hb2 hbx m hG hTS hNU T
  cases n1 : timeB (V.cv c).bu
  · go_enter Tryz.func45, Tryz.ntmps45
    go_wp2_with (go_at_call 75; refine (l4Time_any _ _).mono ?_; rintro e w' ⟨rfl, rfl⟩)
    go_ret
    exact ⟨ret_boolB (by rw [HES.out, n1]; rfl), HB2.out⟩
  cases n2 : timeB (V.cv c).id
  · go_enter Tryz.func45, Tryz.ntmps45
    go_wp2_with (go_at_call 75; refine (l4Time_any _ _).mono ?_; rintro e w' ⟨rfl, rfl⟩)
    go_ret
    exact ⟨ret_boolB (by rw [HES.out, n1, n2]; rfl), HB2.out⟩
  cases n3 : inR (V.cv c).cu (-1) ((V.tn : Int) - 1)
  · go_enter Tryz.func45, Tryz.ntmps45
    go_wp2_with (first | (go_at_call 75; refine (l4Time_any _ _).mono ?_; rintro e w' ⟨rfl, rfl⟩) | (go_at_call 39; refine (l1In_any _ _ _ _).mono ?_; rintro e w' ⟨rfl, rfl⟩))
    go_ret
    exact ⟨ret_boolB (by rw [HES.out, n1, n2, n3]; rfl), HB2.out⟩
  by_cases hneg : (V.cv c).cu < 0
  · have HES2 : Hid (R = ((V.cv c).ra == 0)) := by rw [HES.out, n1, n2, n3, if_pos hneg]; rfl
    clear HES
    cases z2 : ((V.cv c).ra == 0)
    all_goals
      go_enter Tryz.func45, Tryz.ntmps45
      go_wp2_with (first | (go_at_call 75; refine (l4Time_any _ _).mono ?_; rintro e w' ⟨rfl, rfl⟩) | (go_at_call 39; refine (l1In_any _ _ _ _).mono ?_; rintro e w' ⟨rfl, rfl⟩))
      go_ret
      exact ⟨ret_boolB (by rw [HES2.out, z2]), HB2.out⟩
  obtain ⟨r1, r2⟩ := inR_iff.1 n3
  obtain ⟨t, ht⟩ := Int.eq_ofNat_of_zero_le (by omega : 0 ≤ (V.cv c).cu)
  have htt : t < V.tn := by omega
  have hti : (t : Int) < (V.tn : Nat) := by omega
  have HES2 : Hid (R = ((V.cv c).up && inR (V.cv c).ra 1 149 && ((V.tv t).cp == (c : Int)) && inlS V t && stayB V c)) := by rw [HES.out, n1, n2, n3, if_neg hneg, ht, Int.toNat_natCast]; rfl
  have n3' : inR (t : Int) (-1) ((V.tn : Int) - 1) = true := by rw [← ht]; exact n3
  have HCU := Lib.hid ht
  rw [ht] at a1 HB2
  have HM2 : Hid (MR ((w.alloc (.cells #[.int .i64 V.now, .slice (some ⟨a.ca, a.oc, none⟩) V.cn a.cc, .slice (some ⟨a.ta, a.ot, none⟩) V.tn a.tc, .slice (some ⟨a.ga, a.og, none⟩) V.gn a.gc] 33)).alloc (.cells #[.bool (V.cv c).up, .int .i64 (t : Nat), .int .i64 (V.cv c).ra, .int .i64 (V.cv c).bu, .int .i64 (V.cv c).id] 61)) V a) := HM.out.below ((Below.refl _ _).alloc (Nat.le_refl _) _)
  have e2 := HM2.out.t t htt 2 _ rfl
  clear HES hneg r1 r2 n3 ht
  cases y1 : (V.cv c).up
  · rw [y1] at a0 HB2
    go_enter Tryz.func45, Tryz.ntmps45
    go_wp2_with (first | (go_at_call 75; refine (l4Time_any _ _).mono ?_; rintro e w' ⟨rfl, rfl⟩) | (go_at_call 39; refine (l1In_any _ _ _ _).mono ?_; rintro e w' ⟨rfl, rfl⟩))
    go_ret
    exact ⟨ret_boolB (by rw [HES2.out, y1]; rfl), HB2.out⟩
  rw [y1] at a0 HB2 HM2 e2
  cases y2 : inR (V.cv c).ra 1 149
  · go_enter Tryz.func45, Tryz.ntmps45
    go_wp2_with (first | (go_at_call 75; refine (l4Time_any _ _).mono ?_; rintro e w' ⟨rfl, rfl⟩) | (go_at_call 39; refine (l1In_any _ _ _ _).mono ?_; rintro e w' ⟨rfl, rfl⟩))
    go_ret
    exact ⟨ret_boolB (by rw [HES2.out, y1, y2]; rfl), HB2.out⟩
  cases y3 : ((V.tv t).cp == (c : Int))
  · go_enter Tryz.func45, Tryz.ntmps45
    go_wp2_with (first | (go_at_call 75; refine (l4Time_any _ _).mono ?_; rintro e w' ⟨rfl, rfl⟩) | (go_at_call 39; refine (l1In_any _ _ _ _).mono ?_; rintro e w' ⟨rfl, rfl⟩))
    go_ret
    exact ⟨ret_boolB (by rw [HES2.out, y1, y2, y3]; rfl), HB2.out⟩
  have HIL : Hid (∀ y, Below w.heap.size w y → Calls Tryz.prog 25 #[.agg #[.int .i64 V.now, .slice (some ⟨a.ca, a.oc, none⟩) V.cn a.cc, .slice (some ⟨a.ta, a.ot, none⟩) V.tn a.tc, .slice (some ⟨a.ga, a.og, none⟩) V.gn a.gc], .int .i64 t] y fun e w' => e = .returned (.bool (inlS V t)) ∧ Below y.heap.size y w') := fun y hy => sInLine_any V HT.out a t htt htn hcn HG.out (fun hs => ⟨(HTS.out t htt hs).1, (HTS.out t htt hs).2.1, (HTS.out t htt hs).2.2.1⟩) y (HMW.out.below hy)
  have HKB : Hid (Bk ((w.alloc (.cells #[.int .i64 V.now, .slice (some ⟨a.ca, a.oc, none⟩) V.cn a.cc, .slice (some ⟨a.ta, a.ot, none⟩) V.tn a.tc, .slice (some ⟨a.ga, a.og, none⟩) V.gn a.gc] 33)).alloc (.cells #[.bool true, .int .i64 (t : Nat), .int .i64 (V.cv c).ra, .int .i64 (V.cv c).bu, .int .i64 (V.cv c).id] 61)) w.heap.size 33 #[.int .i64 V.now, .slice (some ⟨a.ca, a.oc, none⟩) V.cn a.cc, .slice (some ⟨a.ta, a.ot, none⟩) V.tn a.tc, .slice (some ⟨a.ga, a.og, none⟩) V.gn a.gc]) := (Bk.new w _ _).alloc _
  cases y4 : inlS V t
  · rw [y4] at HIL
    go_enter Tryz.func45, Tryz.ntmps45
    go_wp2_with (first | (go_at_call 75; refine (l4Time_any _ _).mono ?_; rintro e w' ⟨rfl, rfl⟩) | (go_at_call 39; refine (l1In_any _ _ _ _).mono ?_; rintro e w' ⟨rfl, rfl⟩) | (go_at_call 25; refine (HIL.out _ HB2.out).mono ?_; rintro e w3 ⟨rfl, hb3⟩))
    go_ret
    exact ⟨ret_boolB (by rw [HES2.out, y1, y2, y3, y4]; rfl), HB2.out.trans (hb3.mono HB2.out.size)⟩
  rw [y4] at HIL
  have hst : (V.tv t).st = 1 := by simp only [inlS, Bool.and_eq_true, beq_iff_eq] at y4; exact y4.1
  obtain ⟨hu, _, _, hvv⟩ := HTS.out t htt hst
  obtain ⟨u1, u2, u3⟩ := usedB_iff.1 hu
  obtain ⟨G, hGe⟩ := Int.eq_ofNat_of_zero_le u1
  rw [hGe] at u2 u3
  simp only [Int.toNat_natCast] at u3
  have HSY : Hid (∀ y, Below w.heap.size w y → Calls Tryz.prog 81 #[.agg #[.int .i64 V.now, .slice (some ⟨a.ca, a.oc, none⟩) V.cn a.cc, .slice (some ⟨a.ta, a.ot, none⟩) V.tn a.tc, .slice (some ⟨a.ga, a.og, none⟩) V.gn a.gc], .int .i64 c] y fun e w' => e = .returned (.bool (stayB V c)) ∧ Below y.heap.size y w') := fun y hy => sStayed_any V HT.out a c t G hc hcn htn htt HCU.out hGe (by omega) u3 hvv HG.out HNU.out y (HMW.out.below hy)
  clear hst hu hvv u1 u2 u3 hGe HCU
  cases y5 : stayB V c
  all_goals
    rw [y5] at HSY
    go_enter Tryz.func45, Tryz.ntmps45
    go_wp2_with (first | (go_at_call 75; refine (l4Time_any _ _).mono ?_; rintro e w' ⟨rfl, rfl⟩) | (go_at_call 39; refine (l1In_any _ _ _ _).mono ?_; rintro e w' ⟨rfl, rfl⟩) | (go_at_call 25; refine (HIL.out _ HB2.out).mono ?_; rintro e w3 ⟨rfl, hb3⟩; obtain ⟨j0, j1, j2, j3⟩ := (HKB.out.below hb3 HKB.out.lt).four) | (go_at_call 81; refine (HSY.out _ (HB2.out.trans (hb3.mono HB2.out.size))).mono ?_; rintro e w4 ⟨rfl, hb4⟩))
    go_ret
    exact ⟨ret_boolB (by rw [HES2.out, y1, y2, y3, y4, y5]; rfl), (HB2.out.trans (hb3.mono HB2.out.size)).trans (hb4.mono (HB2.out.trans (hb3.mono HB2.out.size)).size)⟩
end Go.Proofs.YtndbmeedimhohaaGreat

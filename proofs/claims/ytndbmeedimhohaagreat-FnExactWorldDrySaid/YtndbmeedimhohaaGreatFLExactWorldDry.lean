/-
  Whatever the world and the numbers, the law FnExactWorldDry returns true: the program's WorldDry returns what the reference's returns and leaves its argument as it was; no condition.
-/
import Derived.Test.YtndbmeedimhohaaGreatFY2Base
import Derived.Test.YtndbmeedimhohaaGreatFCL
import Derived.ProofKit
import Derived.OpenShut
import Derived.ShutString
import Derived.ChangeOld
import Derived.Below
import Derived.Deep.Slices
import Derived.Lib.SmallJoins
import Derived.Deep.RegionWith
namespace Go.Proofs.YtndbmeedimhohaaGreat.fnExactWorldDry
open Go.ChangeShapes Go.WideShapes Go.ChangeAt Go.RowKit
open Go.ChangeMaps (open_string shut_string)
set_option maxHeartbeats 4000000 in
set_option maxRecDepth 100000 in
theorem walk (V : WV) (h : WH) (g : Int) (c : Int) (w : World) (hA : WArg w V h) (_wg : (Lit.int .i64 g).wf = true) (_wc : (Lit.int .i64 c).wf = true) :
    Calls Tryz.prog 7 #[.agg #[.int .i64 V.now, .slice h.ca V.cn h.cc, .slice h.ta V.tn h.tc, .slice h.ga V.gn h.gc], .int .i64 g, .int .i64 c] w fun e w' => e = .returned (.bool true) ∧ Below w.heap.size w w' := by
  have hbx : Below w.heap.size w (w.alloc (.cells #[.int .i64 V.now, .slice h.ca V.cn h.cc, .slice h.ta V.tn h.tc, .slice h.ga V.gn h.gc] 26)) := (Below.refl _ w).alloc (Nat.le_refl _) _
  have HK : Hid (Bk (w.alloc (.cells #[.int .i64 V.now, .slice h.ca V.cn h.cc, .slice h.ta V.tn h.tc, .slice h.ga V.gn h.gc] 26)) w.heap.size 26 #[.int .i64 V.now, .slice h.ca V.cn h.cc, .slice h.ta V.tn h.tc, .slice h.ga V.gn h.gc]) := Bk.new w _ _
  have HA := Lib.hid hA
  have HRX := Lib.hid (hA.r.at_ hbx)
  have HSZ := Lib.hid (szWorld_any V h hA.b (w.alloc (.cells #[.int .i64 V.now, .slice h.ca V.cn h.cc, .slice h.ta V.tn h.tc, .slice h.ga V.gn h.gc] 26)) (w.alloc (.cells #[.int .i64 V.now, .slice h.ca V.cn h.cc, .slice h.ta V.tn h.tc, .slice h.ga V.gn h.gc] 26)) (Below.refl _ _) HRX.out)
  have HBX := Lib.hid hbx
  clear hA hbx
  go_enter Tryz.func7, Tryz.ntmps7
  go_wp2_with fail
  refine HSZ.out.mono ?_
  rintro e w1 ⟨r, rfl, hb1, hr⟩
  have HK1 := Lib.hid (HK.out.below hb1 HK.out.lt)
  have HR1 := Lib.hid (HRX.out.at_ hb1)
  have HB1 := Lib.hid (HBX.out.trans (hb1.mono HBX.out.size))
  clear HSZ hb1 HRX HBX HK
  rcases hr with rfl | ⟨r0, hL⟩
  · go_wp2
    go_ret
    exact ⟨rfl, HB1.out⟩
  have r0' : ¬ r < 0 := by omega
  have HL := Lib.hid hL
  have HFL := Lib.hid (GsRd.flds hL.l HA.out.f)
  clear hL
  obtain ⟨x0, x1, x2, x3⟩ := HK1.out.four
  go_wp2_with fail
  refine (toWorld_any V h HL.out _ w1 (Below.refl _ _) HR1.out).mono ?_
  rintro e w2 ⟨h2, rfl, hr2, hb2⟩
  go_wp2_with fail
  refine (sWorldDry_any V h2 HL.out HFL.out HA.out.ne g c _ hr2).mono ?_
  rintro e w3 ⟨rfl, hb3⟩
  have hb13 := hb2.trans (hb3.mono hb2.size)
  have HK3 := Lib.hid (HK1.out.below hb13 HK1.out.lt)
  have HR3 := Lib.hid (HR1.out.at_ hb13)
  have HB3 := Lib.hid (HB1.out.trans (hb13.mono HB1.out.size))
  clear hb2 hb3 hb13 hr2 x0 x1 x2 x3 HK1 HR1 HB1
  obtain ⟨x0, x1, x2, x3⟩ := HK3.out.four
  go_wp2_with fail
  refine (toWorld_any V h HL.out _ w3 (Below.refl _ _) HR3.out).mono ?_
  rintro e w4 ⟨h4, rfl, hr4, hb4⟩
  have hkq : Bk (w4.alloc (.cells #[.int .i64 V.now, .slice h4.ca V.cn h4.cc, .slice h4.ta V.tn h4.tc, .slice h4.ga V.gn h4.gc] 33)) w4.heap.size 33 #[.int .i64 V.now, .slice h4.ca V.cn h4.cc, .slice h4.ta V.tn h4.tc, .slice h4.ga V.gn h4.gc] := Bk.new w4 _ _
  have hb4q : Below w4.heap.size w4 (w4.alloc (.cells #[.int .i64 V.now, .slice h4.ca V.cn h4.cc, .slice h4.ta V.tn h4.tc, .slice h4.ga V.gn h4.gc] 33)) := (Below.refl _ _).alloc (Nat.le_refl _) _
  have hb34 := hb4.trans (hb4q.mono hb4.size)
  have HK4 := Lib.hid (HK3.out.below hb34 HK3.out.lt)
  have HKQ := Lib.hid hkq
  have HR4 := Lib.hid (HR3.out.at_ hb34)
  have HQ4 := Lib.hid (hr4.at_ hb4q)
  have HB4 := Lib.hid (HB3.out.trans (hb34.mono HB3.out.size))
  clear hb4 hb4q hb34 hr4 hkq HK3 HR3 HB3 x0 x1 x2 x3
  go_wp2_with fail
  refine (iWorldDry_any V h4 HL.out HFL.out g c _ HQ4.out).mono ?_
  rintro e w5 ⟨rfl, hb5⟩
  have HK5 := Lib.hid (HK4.out.below hb5 HK4.out.lt)
  have HKQ5 := Lib.hid (HKQ.out.below hb5 HKQ.out.lt)
  have HR5 := Lib.hid (HR4.out.at_ hb5)
  have HQ5 := Lib.hid (HQ4.out.at_ hb5)
  have HB5 := Lib.hid (HB4.out.trans (hb5.mono HB4.out.size))
  clear hb5 HK4 HKQ HR4 HQ4 HB4
  generalize dryR V g c = R
  go_upto_region 10 with (fail)
  have KS : ∀ w', Below w5.heap.size w5 w' → (fun w' => Below w5.heap.size w5 w' ∧ w'.cell? ⟨w.heap.size, 0, none⟩ = some (.int .i64 V.now) ∧ w'.cell? ⟨w.heap.size, 1, none⟩ = some (.slice h.ca V.cn h.cc) ∧ w'.cell? ⟨w.heap.size, 2, none⟩ = some (.slice h.ta V.tn h.tc) ∧ w'.cell? ⟨w.heap.size, 3, none⟩ = some (.slice h.ga V.gn h.gc) ∧ w'.cell? ⟨w4.heap.size, 0, none⟩ = some (.int .i64 V.now) ∧ w'.cell? ⟨w4.heap.size, 1, none⟩ = some (.slice h4.ca V.cn h4.cc) ∧ w'.cell? ⟨w4.heap.size, 2, none⟩ = some (.slice h4.ta V.tn h4.tc) ∧ w'.cell? ⟨w4.heap.size, 3, none⟩ = some (.slice h4.ga V.gn h4.gc)) w' := fun w' h => ⟨h, (h.cell (p := ⟨w.heap.size, 0, none⟩) HK5.out.lt).trans (HK5.out.cell 0), (h.cell (p := ⟨w.heap.size, 1, none⟩) HK5.out.lt).trans (HK5.out.cell 1), (h.cell (p := ⟨w.heap.size, 2, none⟩) HK5.out.lt).trans (HK5.out.cell 2), (h.cell (p := ⟨w.heap.size, 3, none⟩) HK5.out.lt).trans (HK5.out.cell 3), (h.cell (p := ⟨w4.heap.size, 0, none⟩) HKQ5.out.lt).trans (HKQ5.out.cell 0), (h.cell (p := ⟨w4.heap.size, 1, none⟩) HKQ5.out.lt).trans (HKQ5.out.cell 1), (h.cell (p := ⟨w4.heap.size, 2, none⟩) HKQ5.out.lt).trans (HKQ5.out.cell 2), (h.cell (p := ⟨w4.heap.size, 3, none⟩) HKQ5.out.lt).trans (HKQ5.out.cell 3)⟩
  have KT : ∀ wa wb, (fun w' => Below w5.heap.size w5 w' ∧ w'.cell? ⟨w.heap.size, 0, none⟩ = some (.int .i64 V.now) ∧ w'.cell? ⟨w.heap.size, 1, none⟩ = some (.slice h.ca V.cn h.cc) ∧ w'.cell? ⟨w.heap.size, 2, none⟩ = some (.slice h.ta V.tn h.tc) ∧ w'.cell? ⟨w.heap.size, 3, none⟩ = some (.slice h.ga V.gn h.gc) ∧ w'.cell? ⟨w4.heap.size, 0, none⟩ = some (.int .i64 V.now) ∧ w'.cell? ⟨w4.heap.size, 1, none⟩ = some (.slice h4.ca V.cn h4.cc) ∧ w'.cell? ⟨w4.heap.size, 2, none⟩ = some (.slice h4.ta V.tn h4.tc) ∧ w'.cell? ⟨w4.heap.size, 3, none⟩ = some (.slice h4.ga V.gn h4.gc)) wa → Below wa.heap.size wa wb → (fun w' => Below w5.heap.size w5 w' ∧ w'.cell? ⟨w.heap.size, 0, none⟩ = some (.int .i64 V.now) ∧ w'.cell? ⟨w.heap.size, 1, none⟩ = some (.slice h.ca V.cn h.cc) ∧ w'.cell? ⟨w.heap.size, 2, none⟩ = some (.slice h.ta V.tn h.tc) ∧ w'.cell? ⟨w.heap.size, 3, none⟩ = some (.slice h.ga V.gn h.gc) ∧ w'.cell? ⟨w4.heap.size, 0, none⟩ = some (.int .i64 V.now) ∧ w'.cell? ⟨w4.heap.size, 1, none⟩ = some (.slice h4.ca V.cn h4.cc) ∧ w'.cell? ⟨w4.heap.size, 2, none⟩ = some (.slice h4.ta V.tn h4.tc) ∧ w'.cell? ⟨w4.heap.size, 3, none⟩ = some (.slice h4.ga V.gn h4.gc)) wb := fun wa wb h hab => KS wb (h.1.trans (hab.mono h.1.size))
  have HKS := Lib.hid KS
  have HKT := Lib.hid KT
  clear KS KT
  refine wp_region_held_drew (S := (fun w' => Below w5.heap.size w5 w' ∧ w'.cell? ⟨w.heap.size, 0, none⟩ = some (.int .i64 V.now) ∧ w'.cell? ⟨w.heap.size, 1, none⟩ = some (.slice h.ca V.cn h.cc) ∧ w'.cell? ⟨w.heap.size, 2, none⟩ = some (.slice h.ta V.tn h.tc) ∧ w'.cell? ⟨w.heap.size, 3, none⟩ = some (.slice h.ga V.gn h.gc) ∧ w'.cell? ⟨w4.heap.size, 0, none⟩ = some (.int .i64 V.now) ∧ w'.cell? ⟨w4.heap.size, 1, none⟩ = some (.slice h4.ca V.cn h4.cc) ∧ w'.cell? ⟨w4.heap.size, 2, none⟩ = some (.slice h4.ta V.tn h4.tc) ∧ w'.cell? ⟨w4.heap.size, 3, none⟩ = some (.slice h4.ga V.gn h4.gc))) (by kernel_rfl) (HKS.out _ (Below.refl _ _).drew) (fun hH => ?_)
  refine rgT 0 ?_ ?_ hH ?_; rotate_left; · (intro w s; (try dsimp only at s); go_simp; try with_reducible rfl)
  try simp only [rgp, rg0, rg1]
  refine rgT 1 ?_ ?_ hH ?_; rotate_left; · (intro w s; (try dsimp only at s); go_simp; try with_reducible rfl)
  try simp only [rgp, rg0, rg1]
  refine rgS 2 (fun K hK => ?_)
  go_simp
  (go_at_call 10; refine (toWorld_any V h HL.out _ w5 hH.1 HR5.out).mono ?_; rintro e wv1 ⟨h6, rfl, hr6, hbb1⟩)
  go_wp2_with fail
  refine hK.out _ _ (HKT.out _ _ hH hbb1) (fun hH_1 => ?_)
  clear hK K
  try simp only [rgp, rgn, rg0, rg1]
  refine rgS 3 (fun K hK => ?_)
  go_simp
  (go_at_call 12; refine (eqWorld_t V h4 h6 HL.out _ _ (Below.refl _ _) (HQ5.out.at_ hH_1.1) hr6).mono ?_; rintro e wv2 ⟨rfl, hbb2⟩)
  go_wp2_with fail
  refine hK.out _ _ (HKT.out _ _ hH_1 hbb2) (fun hH_2 => ?_)
  clear hK K
  try simp only [rgp, rgn, rg0, rg1]
  refine rgT 4 ?_ ?_ hH_2 ?_; rotate_left; · (intro w s; (try dsimp only at s); go_simp; try with_reducible rfl)
  try simp only [rgp, rg0, rg1]
  refine wpAnyH_done (by kernel_rfl) ?_ _
  go_wp2
  go_ret
  exact ⟨rfl, HB5.out.trans (hH_2.1.mono HB5.out.size)⟩

theorem own : ownKnob Tryz.prog.godebug = none := by kernel_rfl
theorem laidOut : laidOutB Tryz.prog = true := by kernel_rfl
set_option maxRecDepth 100000 in
theorem lifted (os : Os) (started : os.Started) (H : Type) (enc : TypeId × Value → H) :
    ReturnsInHanded {} Tryz.checked os 7 .any (Rows.fnExactWorldDrySpec.pre6 enc Tryz.prog Tryz.f7 Rows.fnExactWorldDryRow.domain false) (Rows.fnExactWorldDrySpec.post enc Tryz.prog Tryz.f7 false true false false) := by
  refine returnsInHanded_of_change (C := Tryz.checked) own started (by kernel_rfl) Tryz.func7
    (ChangeSpec.witness6 (enc := enc) (C := Tryz.checked) false ⟨#[], #[.agg #[.int .i64 0, .slice none 0 0, .slice none 0 0, .slice none 0 0], .int .i64 0, .int .i64 0], []⟩ 8 (by kernel_rfl) (by kernel_rfl) (by kernel_rfl) (by kernel_rfl)) ?_
  intro W base args ds gs before hval0 hW hcnd _
  have hval : ∀ (j : Nat) t v, Tryz.f7.params[j]? = some t → args[j]? = some v → Value.okWide Tryz.prog W .any base t v := hval0
  have hW' := hW
  obtain ⟨p, q, hA0, hV, rfl, hfz, hnd⟩ := hW
  have hA : DataW.TrodAll enc Tryz.prog W 0 (fun _ => true) true Tryz.f7.params.toList args.toList ds p := hA0
  rw [Tryz.params7] at hA hval
  obtain ⟨v0, vs0, d0, ds0, p0, q0, hargs, rfl, rfl, h0, r0⟩ := trodAll_cons hA
  obtain ⟨v1, vs1, d1, ds1, p1, q1, rfl, rfl, rfl, h1, r1⟩ := trodAll_cons r0
  obtain ⟨v2, vs2, d2, ds2, p2, q2, rfl, rfl, rfl, h2, r2⟩ := trodAll_cons r1
  obtain ⟨rfl, rfl, rfl⟩ := trodAll_nil r2
  obtain rfl : args = #[v0, v1, v2] := by cases args; simp_all
  obtain ⟨rfl, rfl⟩ := trodVars_none hV
  have k0 := h0
  have lt0 : ∀ x ∈ p0, x.block < W.heap.size := by obtain ⟨m, hm⟩ := k0; exact DataW.trod_lt m _ _ _ hm
  obtain ⟨Vx0, hx0, rfl, hAx0⟩ := open_lawsWorld (hval 0 26 v0 rfl rfl) h0
  obtain ⟨a1, rfl, rfl, rfl, w1⟩ := open_int Tryz.underlying3 (hval 1 3 v1 rfl rfl) h1
  obtain ⟨a2, rfl, rfl, rfl, w2⟩ := open_int Tryz.underlying3 (hval 2 3 v2 rfl rfl) h2
  clear hA0 hval0
  refine (walk Vx0 hx0 a1 a2 W hAx0 w1 w2).mono fun e W' ⟨he, bel⟩ => ?_
  subst he
  exact ⟨_, rfl, _, _, _, [], _, [], hW', trodAll_mk1 (shut_bool Tryz.underlying4 _), (trodAll_cons_mk (Below.trod laidOut (by kernel_rfl) (of_decide_eq_true (by kernel_rfl)) k0 bel lt0) (trodAll_cons_mk (shut_int Tryz.underlying3 w1) (trodAll_cons_mk (shut_int Tryz.underlying3 w2) trodAll_mk0))), rfl, bel.frame _, fun h => by cases h⟩
theorem over : Rows.fnExactWorldDryRow.holds Tryz.pinned (OpenSpec.ofChange Rows.fnExactWorldDrySpec) :=
  OpenClaim.holds_of_wide 7 Tryz.f7 rfl rfl rfl rfl rfl rfl rfl ⟨rfl, rfl, rfl, rfl, rfl⟩ rfl rfl rfl rfl rfl (by kernel_rfl) Tryz.func7 (by kernel_rfl)
    (of_decide_eq_true (by kernel_rfl)) (by unfold Func.isWrapper; first | (rw [if_pos (by decide +kernel)]; kernel_rfl) | (rw [if_neg (by decide +kernel)]; exact ⟨rfl, rfl⟩))
    (fun os started H enc _ => lifted os started H enc)
theorem proved : Rows.FnExactWorldDrySaid := over
end Go.Proofs.YtndbmeedimhohaaGreat.fnExactWorldDry

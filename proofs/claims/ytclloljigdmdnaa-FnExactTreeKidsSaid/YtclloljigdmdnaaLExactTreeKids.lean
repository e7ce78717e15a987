/-
  Whatever the groups, the law FnExactTreeKids returns true: the program's TreeKids returns what the reference's returns and leaves its argument as it was, and returns memory of its own; no condition.
-/
import Derived.Test.YtclloljigdmdnaaG17Base
import Derived.ProofKit
import Derived.OpenShut
import Derived.ShutString
import Derived.ChangeOld
import Derived.Below
import Derived.Deep.Slices
import Derived.Lib.SmallJoins
import Derived.Deep.RegionWith
namespace Go.Proofs.Ytclloljigdmdnaa.fnExactTreeKids
open Go.ChangeShapes Go.WideShapes Go.ChangeAt Go.RowKit
open Go.ChangeMaps (open_string shut_string)

set_option maxHeartbeats 4000000 in
theorem walk (A : Option Addr) (n c : Nat) (g : Nat → GV) (u : Nat → GH) (at_ : Int) (w : World) (hn : (n : Int) ≤ 9223372036854775807) (hA : GsRd w w.heap.size A n g u) (hB : ∀ i, GBig (g i)) (hW : ∀ i, GWf (g i)) (_ha : (Lit.int .i64 at_).wf = true) :
    Calls Try.prog 7 #[.slice A n c, .int .i64 at_] w fun e w' => e = .returned (.bool true) ∧ Below w.heap.size w w' := by
  have HA := Lib.hid hA
  have HW := Lib.hid hW
  have HSZ := Lib.hid (szGroupS_any A n c hn g u (fun i _ => hB i) 1048576 (by omega) (by omega) w w (Below.refl _ _) hA)
  clear hA hB hW
  go_enter Try.func7, Try.ntmps7
  go_wp2_with fail
  refine HSZ.out.mono ?_
  rintro e w1 ⟨r, rfl, hb1, hr⟩
  clear HSZ
  rcases hr with rfl | ⟨hr0, hr1, hn1, hL⟩
  · go_wp2
    go_ret
    exact ⟨rfl, hb1⟩
  have HL := Lib.hid hL
  have HB1 := Lib.hid hb1
  have HZ1 := hb1.size
  clear hL hb1
  obtain ⟨us, hus⟩ : ∃ us, us = fun i => (g i).us := ⟨_, rfl⟩
  obtain ⟨pa, hpa⟩ : ∃ pa, pa = fun i => (g i).pa := ⟨_, rfl⟩
  obtain ⟨nm, hnm⟩ : ∃ nm, nm = fun i => (g i).nm := ⟨_, rfl⟩
  have HTR : Hid (∀ (x : World) (B : Nat) (A : Option Addr) (h : Nat → GH), GsRd x B A n g h → TRd x B A n us pa nm) := fun x B A h r => by rw [hus, hpa, hnm]; exact r.trd
  have HFL : Hid (n = 8 → Flds us pa nm) := by show n = 8 → Flds us pa nm; rw [hus, hpa, hnm]; exact GsRd.flds HL.out HW.out
  clear hus hpa hnm
  obtain ⟨m, hm⟩ : ∃ m, m = (kids us pa nm n at_).length := ⟨_, rfl⟩
  obtain ⟨F, hF⟩ : ∃ F : Nat → Int, F = fun i => (kids us pa nm n at_).getD i 0 := ⟨_, rfl⟩
  have hmn : m ≤ n := by rw [hm]; exact kids_len us pa nm n at_
  have HKR : Hid (∀ (B : Nat) (e : Ending) (x : World), KidR us pa nm n at_ B e x → ∃ A c, e = .returned (.slice A m c) ∧ OwnR x B A m (fun i => .int .i64 (F i))) := fun B e x h => h.named hm (by rw [hF])
  clear hm hF
  go_wp2_with fail
  refine (toGroupS_any A n c hn1 g u _ w HB1.out HL.out HA.out).mono ?_
  rintro e w2 ⟨rfl, ⟨h2, ho2⟩, hb2⟩
  have YO2 := Lib.hid ho2
  clear ho2
  have HB2 := Lib.hid (bel HB1.out hb2)
  have HZ2 := hb2.size
  clear hb2 HB1
  go_wp2_with fail
  refine (sTreeKids_any _ n n hn1 us pa nm at_ w2 w2 (Below.refl _ _) (HTR.out _ _ _ _ YO2.out.rd)).mono ?_
  rintro e w3 ⟨hkr, hb3⟩
  obtain ⟨As, cs, rfl, hws⟩ := HKR.out _ _ _ hkr
  clear hkr YO2
  have WS3 := Lib.hid hws
  have US := Lib.hid (fun (hn0 : 0 < m) (b : Nat) (hb : hd As b) => hws.ub hn0 hb)
  clear hws
  have HB3 := Lib.hid (bel HB2.out hb3)
  have HZ3 := hb3.size
  clear hb3 HB2
  go_wp2_with fail
  refine (toGroupS_any A n c hn1 g u _ w HB3.out HL.out HA.out).mono ?_
  rintro e w4 ⟨rfl, ⟨h4, ho4⟩, hb4⟩
  have XO4 := Lib.hid ho4
  clear ho4
  have HB4 := Lib.hid (bel HB3.out hb4)
  have WS4 := Lib.hid (WS3.out.below hb4 (Nat.le_refl _))
  have HZ4 := hb4.size
  clear hb4 HB3 WS3
  have XSP := Lib.hid (fun (b : Nat) (hb : touched w3.heap.size n g h4 b) => XO4.out.span hb)
  go_wp2_with fail
  refine (iTreeKids_any _ n n hn1 us pa nm HFL.out at_ w4 w4 (Below.refl _ _) (HTR.out _ _ _ _ XO4.out.rd)).mono ?_
  rintro e w5 ⟨hkr, hb5⟩
  obtain ⟨Ag, cg, rfl, hgs⟩ := HKR.out _ _ _ hkr
  clear hkr
  have GS5 := Lib.hid hgs
  have UG := Lib.hid (fun (hn0 : 0 < m) (b : Nat) (hb : hd Ag b) => hgs.ub hn0 hb)
  clear hgs
  have HB5 := Lib.hid (bel HB4.out hb5)
  have WS5 := Lib.hid (WS4.out.below hb5 (Nat.le_refl _))
  have XO5 := Lib.hid (XO4.out.below hb5)
  have HZ5 := hb5.size
  clear hb5 HB4 WS4 XO4
  go_wp2_with fail
  refine (eqIntS_t Ag As m cg cs (by omega) F _ w5 (Below.refl _ _) GS5.out.rw_ WS5.out.rw_).mono ?_
  rintro e w6 ⟨rfl, hb6⟩
  have HB6 := Lib.hid (bel HB5.out hb6)
  have WS6 := Lib.hid (WS5.out.below hb6 (Nat.le_refl _))
  have XO6 := Lib.hid (XO5.out.below hb6)
  have GS6 := Lib.hid (GS5.out.below hb6 (Nat.le_refl _))
  have HZ6 := hb6.size
  clear hb6 HB5 WS5 XO5 GS5
  go_wp2_with fail
  refine (toGroupS_any A n c hn1 g u _ w HB6.out HL.out HA.out).mono ?_
  rintro e w7 ⟨rfl, ⟨h7, ho7⟩, hb7⟩
  have ZO7 := Lib.hid ho7
  clear ho7
  have HB7 := Lib.hid (bel HB6.out hb7)
  have WS7 := Lib.hid (WS6.out.below hb7 (Nat.le_refl _))
  have XO7 := Lib.hid (XO6.out.below hb7)
  have GS7 := Lib.hid (GS6.out.below hb7 (Nat.le_refl _))
  have HZ7 := hb7.size
  clear hb7 HB6 WS6 XO6 GS6
  go_wp2_with fail
  refine (eqGroupS_t _ _ n n n hn1 g _ _ HL.out _ w7 (Below.refl _ _) XO7.out.rd ZO7.out.rd).mono ?_
  rintro e w8 ⟨rfl, hb8⟩
  clear ZO7
  have HB8 := Lib.hid (bel HB7.out hb8)
  have WS8 := Lib.hid (WS7.out.below hb8 (Nat.le_refl _))
  have XO8 := Lib.hid (XO7.out.below hb8)
  have GS8 := Lib.hid (GS7.out.below hb8 (Nat.le_refl _))
  have HZ8 := hb8.size
  clear hb8 HB7 WS7 XO7 GS7
  have hku := (kUp_b (k := 1) HL.out n (Nat.le_refl _)).1
  have HKU : Hid (¬ kUp g 1 n < 0) := Lib.hid (by omega)
  clear hku
  go_wp2_with fail
  refine (markGroupS_any _ n n hn1 g h4 HL.out 1 (by omega) (by omega) w8 XO8.out).mono ?_
  rintro e w9 ⟨rfl, _, hk9⟩
  generalize kUp g 1 n = ku at *
  have hku := HKU.out
  have HB9 := Lib.hid (HB8.out.trans (hk9.below HB8.out.size (fun b hb => by have := XSP.out b hb; have := HZ2; have := HZ3; have := HZ1; omega)))
  have WS9 := Lib.hid (WS8.out.kept hk9 (fun hn0 b _ hb hp => by have := XSP.out b hp; have := US.out hn0 b hb; omega))
  have GS9 := Lib.hid (GS8.out.kept hk9 (fun hn0 b _ hb hp => by have := XSP.out b hp; have := UG.out hn0 b hb; omega))
  have HZ9 := hk9.size
  clear hk9 HB8 WS8 GS8 XO8
  go_wp2_with fail
  refine (eqIntS_t Ag As m cg cs (by omega) F _ w9 (Below.refl _ _) GS9.out.rw_ WS9.out.rw_).mono ?_
  rintro e w10 ⟨rfl, hb10⟩
  have HB10 := Lib.hid (bel HB9.out hb10)
  have WS10 := Lib.hid (WS9.out.below hb10 (Nat.le_refl _))
  have GS10 := Lib.hid (GS9.out.below hb10 (Nat.le_refl _))
  have HZ10 := hb10.size
  clear hb10 HB9 WS9 GS9
  go_wp2_with fail
  refine (markIntS_any Ag m cg w4.heap.size 1 (by omega) (by omega) (by omega) _ w10 GS10.out).mono ?_
  rintro e w11 ⟨rfl, hk11, ho11⟩
  have HB11 := Lib.hid (HB10.out.trans (hk11.below HB10.out.size (fun b hb => by have := hb.2.1; omega)))
  have WS11 := Lib.hid (WS10.out.kept hk11 (fun hn0 b _ hb hp => by have := hp.2.1; have := US.out hn0 b hb; omega))
  have GM11 := Lib.hid ho11
  have HZ11 := hk11.size
  clear hk11 ho11 HB10 WS10 GS10
  have hm0 : ¬ (1 : Int) + m < 0 := by omega
  go_wp2_with fail
  refine (heldIntS_any Ag m cg 1 (by omega) (by omega) (by omega) _ w11 (Below.refl _ _) GM11.out.rw_).mono ?_
  rintro e w' ⟨rfl, rfl⟩
  go_wp2_with fail
  refine (toGroupS_any A n c hn1 g u _ w HB11.out HL.out HA.out).mono ?_
  rintro e w12 ⟨rfl, ⟨h12, ho12⟩, hb12⟩
  have VO12 := Lib.hid ho12
  clear ho12
  have HB12 := Lib.hid (bel HB11.out hb12)
  have WS12 := Lib.hid (WS11.out.below hb12 (Nat.le_refl _))
  have GM12 := Lib.hid (GM11.out.below hb12 (Nat.le_refl _))
  have HZ12 := hb12.size
  clear hb12 HB11 WS11 GM11
  go_wp2_with fail
  refine (iTreeKids_any _ n n hn1 us pa nm HFL.out at_ w12 w12 (Below.refl _ _) (HTR.out _ _ _ _ VO12.out.rd)).mono ?_
  rintro e w13 ⟨hkr, hb13⟩
  obtain ⟨Ah, ch, rfl, hhs⟩ := HKR.out _ _ _ hkr
  clear hkr VO12
  have HS13 := Lib.hid hhs
  clear hhs
  have HB13 := Lib.hid (bel HB12.out hb13)
  have WS13 := Lib.hid (WS12.out.below hb13 (Nat.le_refl _))
  have GM13 := Lib.hid (GM12.out.below hb13 (Nat.le_refl _))
  have HZ13 := hb13.size
  clear hb13 HB12 WS12 GM12
  go_wp2_with fail
  refine (eqIntS_t Ah As m ch cs (by omega) F _ w13 (Below.refl _ _) HS13.out.rw_ WS13.out.rw_).mono ?_
  rintro e w14 ⟨rfl, hb14⟩
  have HB14 := Lib.hid (bel HB13.out hb14)
  have WS14 := Lib.hid (WS13.out.below hb14 (Nat.le_refl _))
  have GM14 := Lib.hid (GM13.out.below hb14 (Nat.le_refl _))
  have HS14 := Lib.hid (HS13.out.below hb14 (Nat.le_refl _))
  have HZ14 := hb14.size
  clear hb14 HB13 WS13 GM13 HS13
  go_wp2_with fail
  refine (heldIntS_any Ag m cg 1 (by omega) (by omega) (by omega) _ w14 (Below.refl _ _) GM14.out.rw_).mono ?_
  rintro e w' ⟨rfl, rfl⟩
  go_wp2
  go_ret
  exact ⟨rfl, HB14.out⟩

theorem own : ownKnob Try.prog.godebug = none := by kernel_rfl
theorem laidOut : laidOutB Try.prog = true := by kernel_rfl
set_option maxRecDepth 100000 in
theorem lifted (os : Os) (started : os.Started) (H : Type) (enc : TypeId × Value → H) :
    ReturnsInHanded {} Try.checked os 7 .any (Rows.fnExactTreeKidsSpec.pre6 enc Try.prog Try.f7 Rows.fnExactTreeKidsRow.domain false) (Rows.fnExactTreeKidsSpec.post enc Try.prog Try.f7 false true false false) := by
  refine returnsInHanded_of_change (C := Try.checked) own started (by kernel_rfl) Try.func7
    (ChangeSpec.witness6 (enc := enc) (C := Try.checked) false ⟨#[], #[.slice none 0 0, .int .i64 0], []⟩ 8 (by kernel_rfl) (by kernel_rfl) (by kernel_rfl) (by kernel_rfl)) ?_
  intro W base args ds gs before hval0 hW hcnd _
  have hval : ∀ (j : Nat) t v, Try.f7.params[j]? = some t → args[j]? = some v → Value.okWide Try.prog W .any base t v := hval0
  have hW' := hW
  obtain ⟨p, q, hA0, hV, rfl, hfz, hnd⟩ := hW
  have hA : DataW.TrodAll enc Try.prog W 0 (fun _ => true) true Try.f7.params.toList args.toList ds p := hA0
  rw [Try.params7] at hA hval
  obtain ⟨v0, vs0, d0, ds0, p0, q0, hargs, rfl, rfl, h0, r0⟩ := trodAll_cons hA
  obtain ⟨v1, vs1, d1, ds1, p1, q1, rfl, rfl, rfl, h1, r1⟩ := trodAll_cons r0
  obtain ⟨rfl, rfl, rfl⟩ := trodAll_nil r1
  obtain rfl : args = #[v0, v1] := by cases args; simp_all
  obtain ⟨rfl, rfl⟩ := trodVars_none hV
  have k0 := h0
  have lt0 : ∀ x ∈ p0, x.block < W.heap.size := by obtain ⟨m, hm⟩ := k0; exact DataW.trod_lt m _ _ _ hm
  obtain ⟨Ax0, nx0, cx0, gx0, ux0, rfl, hnx0, hAx0, hBx0, hWx0⟩ := open_lawsGroups (hval 0 22 v0 rfl rfl) h0
  obtain ⟨a1, rfl, rfl, rfl, w1⟩ := open_int Try.underlying3 (hval 1 3 v1 rfl rfl) h1
  clear hA0 hval0
  refine (walk Ax0 nx0 cx0 gx0 ux0 a1 W hnx0 hAx0 hBx0 hWx0 w1).mono fun e W' ⟨he, bel⟩ => ?_
  subst he
  exact ⟨_, rfl, _, _, _, [], _, [], hW', trodAll_mk1 (shut_bool Try.underlying4 _), (trodAll_cons_mk (Below.trod laidOut (by kernel_rfl) (of_decide_eq_true (by kernel_rfl)) k0 bel lt0) (trodAll_cons_mk (shut_int Try.underlying3 w1) trodAll_mk0)), rfl, bel.frame _, fun h => by cases h⟩
theorem over : Rows.fnExactTreeKidsRow.holds Try.pinned (OpenSpec.ofChange Rows.fnExactTreeKidsSpec) :=
  OpenClaim.holds_of_wide 7 Try.f7 rfl rfl rfl rfl rfl rfl rfl ⟨rfl, rfl, rfl, rfl, rfl⟩ rfl rfl rfl rfl rfl (by kernel_rfl) Try.func7 (by kernel_rfl)
    (of_decide_eq_true (by kernel_rfl)) (by unfold Func.isWrapper; first | (rw [if_pos (by decide +kernel)]; kernel_rfl) | (rw [if_neg (by decide +kernel)]; exact ⟨rfl, rfl⟩))
    (fun os started H enc _ => lifted os started H enc)
theorem proved : Rows.FnExactTreeKidsSaid := over
end Go.Proofs.Ytclloljigdmdnaa.fnExactTreeKids

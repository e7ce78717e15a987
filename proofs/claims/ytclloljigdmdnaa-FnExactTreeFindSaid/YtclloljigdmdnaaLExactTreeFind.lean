/-
  Whatever the groups, the law FnExactTreeFind returns true: the program's TreeFind returns what the reference's returns and leaves its argument as it was; no condition.
-/
import Derived.Test.YtclloljigdmdnaaG14Base
import Derived.ProofKit
import Derived.OpenShut
import Derived.ShutString
import Derived.ChangeOld
import Derived.Below
import Derived.Deep.Slices
import Derived.Lib.SmallJoins
import Derived.Deep.RegionWith
namespace Go.Proofs.Ytclloljigdmdnaa.fnExactTreeFind
open Go.ChangeShapes Go.WideShapes Go.ChangeAt Go.RowKit
open Go.ChangeMaps (open_string shut_string)

set_option maxHeartbeats 1000000 in
theorem walk (A : Option Addr) (n c : Nat) (g : Nat → GV) (u : Nat → GH) (P : ByteArray) (w : World) (hn : (n : Int) ≤ 9223372036854775807) (hA : GsRd w w.heap.size A n g u) (hB : ∀ i, GBig (g i)) (hW : ∀ i, GWf (g i)) (hP : P.size ≤ maxLen) :
    Calls Try.prog 6 #[.slice A n c, .string P] w fun e w' => e = .returned (.bool true) ∧ Below w.heap.size w w' := by
  by_cases hbig : 1048576 < (P.size : Int)
  · clear hA hB hW hn
    unfold maxLen at hP
    go_enter Try.func6, Try.ntmps6
    go_wp2
    go_ret
    exact ⟨rfl, Below.refl _ _⟩
  unfold maxLen at hP
  have HA := Lib.hid hA
  have HW := Lib.hid hW
  have HSZ := Lib.hid (szGroupS_any A n c hn g u (fun i _ => hB i) 1048576 (by omega) (by omega) w w (Below.refl _ _) hA)
  clear hA hB hW
  go_enter Try.func6, Try.ntmps6
  go_wp2_with fail
  refine HSZ.out.mono ?_
  rintro e w1 ⟨r, rfl, hb1, hr⟩
  clear HSZ
  rcases hr with rfl | ⟨hr0, hr1, hn1, hL⟩
  · go_wp2
    go_ret
    exact ⟨rfl, hb1⟩
  have HL := Lib.hid hL
  have HB1 := Lib.hid hb1
  clear hL hb1
  go_wp2_with fail
  refine (toGroupS_any A n c hn1 g u _ w HB1.out HL.out HA.out).mono ?_
  rintro e w2 ⟨rfl, ⟨h2, ho2⟩, hb2⟩
  have HB2 := Lib.hid (bel HB1.out hb2)
  have HT2 := Lib.hid ho2.rd.trd
  clear hb2 ho2
  go_wp2_with fail
  refine (sTreeFind_any _ n n hn1 _ _ _ P _ w2 (Below.refl _ _) HT2.out).mono ?_
  rintro e w3 ⟨rfl, hb3⟩
  have HB3 := Lib.hid (bel HB2.out hb3)
  clear hb3 HT2
  go_wp2_with fail
  refine (toGroupS_any A n c hn1 g u _ w HB3.out HL.out HA.out).mono ?_
  rintro e w4 ⟨rfl, ⟨h4, ho4⟩, hb4⟩
  have HB4 := Lib.hid (bel HB3.out hb4)
  have HO4 := Lib.hid ho4
  clear hb4 ho4
  go_wp2_with fail
  refine (iTreeFind_any _ n n hn1 _ _ _ (GsRd.flds HL.out HW.out) P _ w4 (Below.refl _ _) HO4.out.rd.trd).mono ?_
  rintro e w5 ⟨rfl, hb5⟩
  have HB5 := Lib.hid (bel HB4.out hb5)
  have HO5 := Lib.hid (HO4.out.below hb5)
  clear hb5 HO4
  generalize treeFind (fun i => (g i).us) (fun i => (g i).pa) (fun i => (g i).nm) n P = t
  go_wp2_with fail
  refine (toGroupS_any A n c hn1 g u _ w HB5.out HL.out HA.out).mono ?_
  rintro e w6 ⟨rfl, ⟨h6, ho6⟩, hb6⟩
  have HB6 := Lib.hid (bel HB5.out hb6)
  have HO6 := Lib.hid (HO5.out.below hb6)
  have HR6 := Lib.hid ho6.rd
  clear hb6 ho6 HO5
  go_wp2_with fail
  refine (eqGroupS_t _ _ n n n hn1 g _ _ HL.out _ w6 (Below.refl _ _) HO6.out.rd HR6.out).mono ?_
  rintro e w7 ⟨rfl, hb7⟩
  have HB7 := Lib.hid (bel HB6.out hb7)
  clear hb7
  go_wp2
  go_ret
  exact ⟨rfl, HB7.out⟩

theorem own : ownKnob Try.prog.godebug = none := by kernel_rfl
theorem laidOut : laidOutB Try.prog = true := by kernel_rfl
set_option maxRecDepth 100000 in
theorem lifted (os : Os) (started : os.Started) (H : Type) (enc : TypeId × Value → H) :
    ReturnsInHanded {} Try.checked os 6 .any (Rows.fnExactTreeFindSpec.pre6 enc Try.prog Try.f6 Rows.fnExactTreeFindRow.domain false) (Rows.fnExactTreeFindSpec.post enc Try.prog Try.f6 false true false false) := by
  refine returnsInHanded_of_change (C := Try.checked) own started (by kernel_rfl) Try.func6
    (ChangeSpec.witness6 (enc := enc) (C := Try.checked) false ⟨#[], #[.slice none 0 0, .string ByteArray.empty], []⟩ 8 (by kernel_rfl) (by kernel_rfl) (by kernel_rfl) (by kernel_rfl)) ?_
  intro W base args ds gs before hval0 hW hcnd _
  have hval : ∀ (j : Nat) t v, Try.f6.params[j]? = some t → args[j]? = some v → Value.okWide Try.prog W .any base t v := hval0
  have hW' := hW
  obtain ⟨p, q, hA0, hV, rfl, hfz, hnd⟩ := hW
  have hA : DataW.TrodAll enc Try.prog W 0 (fun _ => true) true Try.f6.params.toList args.toList ds p := hA0
  rw [Try.params6] at hA hval
  obtain ⟨v0, vs0, d0, ds0, p0, q0, hargs, rfl, rfl, h0, r0⟩ := trodAll_cons hA
  obtain ⟨v1, vs1, d1, ds1, p1, q1, rfl, rfl, rfl, h1, r1⟩ := trodAll_cons r0
  obtain ⟨rfl, rfl, rfl⟩ := trodAll_nil r1
  obtain rfl : args = #[v0, v1] := by cases args; simp_all
  obtain ⟨rfl, rfl⟩ := trodVars_none hV
  have k0 := h0
  have lt0 : ∀ x ∈ p0, x.block < W.heap.size := by obtain ⟨m, hm⟩ := k0; exact DataW.trod_lt m _ _ _ hm
  obtain ⟨Ax0, nx0, cx0, gx0, ux0, rfl, hnx0, hAx0, hBx0, hWx0⟩ := open_lawsGroups (hval 0 22 v0 rfl rfl) h0
  obtain ⟨a1, rfl, rfl, rfl, w1⟩ := open_string Try.underlying9 (hval 1 9 v1 rfl rfl) h1
  clear hA0 hval0
  refine (walk Ax0 nx0 cx0 gx0 ux0 a1 W hnx0 hAx0 hBx0 hWx0 w1).mono fun e W' ⟨he, bel⟩ => ?_
  subst he
  exact ⟨_, rfl, _, _, _, [], _, [], hW', trodAll_mk1 (shut_bool Try.underlying4 _), (trodAll_cons_mk (Below.trod laidOut (by kernel_rfl) (of_decide_eq_true (by kernel_rfl)) k0 bel lt0) (trodAll_cons_mk (shut_string Try.underlying9 w1) trodAll_mk0)), rfl, bel.frame _, fun h => by cases h⟩
theorem over : Rows.fnExactTreeFindRow.holds Try.pinned (OpenSpec.ofChange Rows.fnExactTreeFindSpec) :=
  OpenClaim.holds_of_wide 6 Try.f6 rfl rfl rfl rfl rfl rfl rfl ⟨rfl, rfl, rfl, rfl, rfl⟩ rfl rfl rfl rfl rfl (by kernel_rfl) Try.func6 (by kernel_rfl)
    (of_decide_eq_true (by kernel_rfl)) (by unfold Func.isWrapper; first | (rw [if_pos (by decide +kernel)]; kernel_rfl) | (rw [if_neg (by decide +kernel)]; exact ⟨rfl, rfl⟩))
    (fun os started H enc _ => lifted os started H enc)
theorem proved : Rows.FnExactTreeFindSaid := over
end Go.Proofs.Ytclloljigdmdnaa.fnExactTreeFind

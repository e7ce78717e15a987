/-
  Whatever the number, the law FnExactWorldNew returns true: the program's WorldNew returns what the reference's returns, and returns memory of its own; no condition.
-/
import Derived.Test.YtndbmeedimhohaaW9Base
import Derived.ProofKit
import Derived.OpenShut
import Derived.ShutString
import Derived.ChangeOld
import Derived.Below
import Derived.Deep.Slices
import Derived.Lib.SmallJoins
namespace Go.Proofs.Ytndbmeedimhohaa.fnExactWorldNew
open Go.ChangeShapes Go.WideShapes Go.ChangeAt Go.RowKit
open Go.ChangeMaps (open_string shut_string)
set_option maxHeartbeats 4000000 in
theorem walk (n : Int) (w : World) (_hn : (Lit.int .i64 n).wf = true) :
    Calls Try.prog 3 #[.int .i64 n] w fun e w' => e = .returned (.bool true) ∧ Below w.heap.size w w' := by
  obtain ⟨V, ok, hL, hk0, HI, HS⟩ : ∃ (V : WV) (ok : Bool), WLen V ∧ (1 : Int) + 5 * V.cn + 9 * V.tn ≤ 1000000 ∧ Hid (∀ x : World, Calls Try.prog 5 #[.int .i64 n] x (NW V ok x)) ∧ Hid (∀ x : World, Calls Try.prog 4 #[.int .i64 n] x (NW V ok x)) := by
    refine ⟨_, _, ?_, ?_, iWorldNew_any n, sWorldNew_any n⟩
    · split
      · next h => obtain ⟨h1, h2⟩ := inR_iff.1 h; exact WLen_new _ (by omega)
      · exact WLen_zero
    · split
      · next h => obtain ⟨h1, h2⟩ := inR_iff.1 h; simp only [nWV]; omega
      · simp [zWV]
  have hke : 0 ≤ kEnd V 1 := by have := (kUp_b (k := 1 + 5 * (V.cn : Int) + 9 * V.tn) hL.l V.gn (Nat.le_refl _)).1; unfold kEnd; omega
  go_enter Try.func3, Try.ntmps3
  go_wp2_with fail
  refine (HS.out w).mono ?_
  rintro e w1 ⟨hs, rfl, hq, hb1⟩
  have HB1 := Lib.hid hb1
  have QS1 := Lib.hid hq.1.rd
  have HZ1 := hb1.size
  clear hq hb1
  have K0 := Bk.new w1 26 #[.int .i64 V.now, .slice hs.ca V.cn hs.cc, .slice hs.ta V.tn hs.tc, .slice hs.ga V.gn hs.gc]
  have hb2 := (Below.refl w1.heap.size w1).alloc (Nat.le_refl _) (.cells #[.int .i64 V.now, .slice hs.ca V.cn hs.cc, .slice hs.ta V.tn hs.tc, .slice hs.ga V.gn hs.gc] 26)
  have KSa := Lib.hid K0
  have HH := Lib.hid hb2
  clear K0 hb2
  go_wp2_with fail
  have hb2 := HH.out
  clear HH
  generalize hw2 : w1.alloc _ = w2 at *
  have HZ2 := hb2.size
  have hlt2 : w1.heap.size < w2.heap.size := KSa.out.lt
  have KS2 := KSa
  clear hw2 KSa
  have HB2 := Lib.hid (HB1.out.trans (hb2.mono HB1.out.size))
  have QS2 := Lib.hid (QS1.out.below (hb2.mono (by omega)))
  clear hb2 HB1 QS1
  refine (HI.out w2).mono ?_
  rintro e w3 ⟨hg, rfl, hq, hb3⟩
  have QG3 := Lib.hid hq.1
  have UG := Lib.hid hq.2
  have HZ3 := hb3.size
  clear hq
  have HB3 := Lib.hid (HB2.out.trans (hb3.mono HB2.out.size))
  have QS3 := Lib.hid (QS2.out.below (hb3.mono (by omega)))
  have KS3 := Lib.hid (KS2.out.below hb3 KS2.out.lt)
  clear hb3 HB2 QS2 KS2
  have K0 := Bk.new w3 26 #[.int .i64 V.now, .slice hg.ca V.cn hg.cc, .slice hg.ta V.tn hg.tc, .slice hg.ga V.gn hg.gc]
  have hb4 := (Below.refl w3.heap.size w3).alloc (Nat.le_refl _) (.cells #[.int .i64 V.now, .slice hg.ca V.cn hg.cc, .slice hg.ta V.tn hg.tc, .slice hg.ga V.gn hg.gc] 26)
  have KGa := Lib.hid K0
  have HH := Lib.hid hb4
  clear K0 hb4
  have KSa := Lib.hid (KS3.out.below HH.out KS3.out.lt)
  go_wp2_with (first | refine wpList_load_row rfl 26 _ rfl (w1.heap.size) rfl 26 _ (0, 0) _ KSa.out Try.underlying26 rfl (by kernel_rfl) ?_ | refine wpList_load_row rfl 26 _ rfl (w3.heap.size) rfl 26 _ (0, 0) _ KGa.out Try.underlying26 rfl (by kernel_rfl) ?_)
  have hb4 := HH.out
  clear HH
  generalize hw4 : w3.alloc _ = w4 at *
  have HZ4 := hb4.size
  have hlt4 : w3.heap.size < w4.heap.size := KGa.out.lt
  have KG4 := KGa
  clear hw4 KGa KSa
  have HB4 := Lib.hid (HB3.out.trans (hb4.mono HB3.out.size))
  have QS4 := Lib.hid (QS3.out.below (hb4.mono (by omega)))
  have KS4 := Lib.hid (KS3.out.below hb4 KS3.out.lt)
  have QG4 := Lib.hid (QG3.out.below hb4)
  clear hb4 HB3 QS3 KS3 QG3
  refine (eqWorld_t V hg hs hL w4 w4 (Below.refl _ _) (QG4.out.rd) (QS4.out.more (by omega))).mono ?_
  rintro e w5 ⟨rfl, hb5⟩
  have HZ5 := hb5.size
  have HB5 := Lib.hid (HB4.out.trans (hb5.mono HB4.out.size))
  have QS5 := Lib.hid (QS4.out.below (hb5.mono (by omega)))
  have KS5 := Lib.hid (KS4.out.below hb5 KS4.out.lt)
  have QG5 := Lib.hid (QG4.out.below hb5)
  have KG5 := Lib.hid (KG4.out.below hb5 KG4.out.lt)
  clear hb5 HB4 QS4 KS4 QG4 KG4
  go_wp2_with (first | refine wpList_load_row rfl 26 _ rfl (w1.heap.size) rfl 26 _ (0, 0) _ KS5.out Try.underlying26 rfl (by kernel_rfl) ?_ | refine wpList_load_row rfl 26 _ rfl (w3.heap.size) rfl 26 _ (0, 0) _ KG5.out Try.underlying26 rfl (by kernel_rfl) ?_)
  refine (markWorld_any V hg hL w2.heap.size 1 (by omega) hk0 w5 QG5.out).mono ?_
  rintro e w6 ⟨rfl, ho6, hk6⟩
  have HZ6 := hk6.size
  have QM6 := Lib.hid ho6
  clear QG5 ho6
  have HB6 := Lib.hid (HB5.out.trans (hk6.below HB5.out.size (fun b hb => by have := UG.out b hb; omega)))
  have QS6 := Lib.hid (QS5.out.below (hk6.below (by omega) (fun b hb => by have := UG.out b hb; omega)))
  have KS6 := Lib.hid (KS5.out.kept hk6 (fun hb => by have := UG.out _ hb; omega))
  have KG6 := Lib.hid (KG5.out.kept hk6 (fun hb => by have := UG.out _ hb; omega))
  clear hk6 HB5 QS5 KS5 KG5
  go_wp2_with (first | refine wpList_load_row rfl 26 _ rfl (w1.heap.size) rfl 26 _ (0, 0) _ KS6.out Try.underlying26 rfl (by kernel_rfl) ?_ | refine wpList_load_row rfl 26 _ rfl (w3.heap.size) rfl 26 _ (0, 0) _ KG6.out Try.underlying26 rfl (by kernel_rfl) ?_)
  refine (heldWorld_any V hg hL 1 (by omega) hk0 w6 w6 (Below.refl _ _) (QM6.out.more (by omega))).mono ?_
  rintro e w7 ⟨rfl, hb7⟩
  have HZ7 := hb7.size
  have HB7 := Lib.hid (HB6.out.trans (hb7.mono HB6.out.size))
  have QS7 := Lib.hid (QS6.out.below (hb7.mono (by omega)))
  have KS7 := Lib.hid (KS6.out.below hb7 KS6.out.lt)
  have KG7 := Lib.hid (KG6.out.below hb7 KG6.out.lt)
  have QM7 := Lib.hid (QM6.out.below (hb7.mono (by omega)))
  clear hb7 HB6 QS6 KS6 KG6 QM6
  go_wp2_with fail
  refine (HI.out w7).mono ?_
  rintro e w8 ⟨hh, rfl, hq, hb8⟩
  have QH8 := Lib.hid hq.1
  have HZ8 := hb8.size
  clear hq
  have HB8 := Lib.hid (HB7.out.trans (hb8.mono HB7.out.size))
  have QS8 := Lib.hid (QS7.out.below (hb8.mono (by omega)))
  have KS8 := Lib.hid (KS7.out.below hb8 KS7.out.lt)
  have KG8 := Lib.hid (KG7.out.below hb8 KG7.out.lt)
  have QM8 := Lib.hid (QM7.out.below (hb8.mono (by omega)))
  clear hb8 HB7 QS7 KS7 KG7 QM7
  have K0 := Bk.new w8 26 #[.int .i64 V.now, .slice hh.ca V.cn hh.cc, .slice hh.ta V.tn hh.tc, .slice hh.ga V.gn hh.gc]
  have hb9 := (Below.refl w8.heap.size w8).alloc (Nat.le_refl _) (.cells #[.int .i64 V.now, .slice hh.ca V.cn hh.cc, .slice hh.ta V.tn hh.tc, .slice hh.ga V.gn hh.gc] 26)
  have KHa := Lib.hid K0
  have HH := Lib.hid hb9
  clear K0 hb9
  have KSa := Lib.hid (KS8.out.below HH.out KS8.out.lt)
  go_wp2_with (first | refine wpList_load_row rfl 26 _ rfl (w1.heap.size) rfl 26 _ (0, 0) _ KSa.out Try.underlying26 rfl (by kernel_rfl) ?_ | refine wpList_load_row rfl 26 _ rfl (w8.heap.size) rfl 26 _ (0, 0) _ KHa.out Try.underlying26 rfl (by kernel_rfl) ?_)
  have hb9 := HH.out
  clear HH
  generalize hw9 : w8.alloc _ = w9 at *
  have HZ9 := hb9.size
  have hlt9 : w8.heap.size < w9.heap.size := KHa.out.lt
  have KH9 := KHa
  clear hw9 KHa KSa
  have HB9 := Lib.hid (HB8.out.trans (hb9.mono HB8.out.size))
  have QS9 := Lib.hid (QS8.out.below (hb9.mono (by omega)))
  have KS9 := Lib.hid (KS8.out.below hb9 KS8.out.lt)
  have KG9 := Lib.hid (KG8.out.below hb9 KG8.out.lt)
  have QM9 := Lib.hid (QM8.out.below (hb9.mono (by omega)))
  have QH9 := Lib.hid (QH8.out.below hb9)
  clear hb9 HB8 QS8 KS8 KG8 QM8 QH8
  refine (eqWorld_t V hh hs hL w9 w9 (Below.refl _ _) (QH9.out.rd) (QS9.out.more (by omega))).mono ?_
  rintro e w10 ⟨rfl, hb10⟩
  have HZ10 := hb10.size
  have HB10 := Lib.hid (HB9.out.trans (hb10.mono HB9.out.size))
  have QS10 := Lib.hid (QS9.out.below (hb10.mono (by omega)))
  have KS10 := Lib.hid (KS9.out.below hb10 KS9.out.lt)
  have KG10 := Lib.hid (KG9.out.below hb10 KG9.out.lt)
  have QM10 := Lib.hid (QM9.out.below (hb10.mono (by omega)))
  have QH10 := Lib.hid (QH9.out.below hb10)
  have KH10 := Lib.hid (KH9.out.below hb10 KH9.out.lt)
  clear hb10 HB9 QS9 KS9 KG9 QM9 QH9 KH9
  go_wp2_with (first | refine wpList_load_row rfl 26 _ rfl (w1.heap.size) rfl 26 _ (0, 0) _ KS10.out Try.underlying26 rfl (by kernel_rfl) ?_ | refine wpList_load_row rfl 26 _ rfl (w3.heap.size) rfl 26 _ (0, 0) _ KG10.out Try.underlying26 rfl (by kernel_rfl) ?_)
  refine (heldWorld_any V hg hL 1 (by omega) hk0 w10 w10 (Below.refl _ _) (QM10.out.more (by omega))).mono ?_
  rintro e w11 ⟨rfl, hb11⟩
  have HZ11 := hb11.size
  have HB11 := Lib.hid (HB10.out.trans (hb11.mono HB10.out.size))
  have QS11 := Lib.hid (QS10.out.below (hb11.mono (by omega)))
  have KS11 := Lib.hid (KS10.out.below hb11 KS10.out.lt)
  have KG11 := Lib.hid (KG10.out.below hb11 KG10.out.lt)
  have QM11 := Lib.hid (QM10.out.below (hb11.mono (by omega)))
  have QH11 := Lib.hid (QH10.out.below hb11)
  have KH11 := Lib.hid (KH10.out.below hb11 KH10.out.lt)
  clear hb11 HB10 QS10 KS10 KG10 QM10 QH10 KH10
  go_wp2
  go_ret
  exact ⟨rfl, HB11.out⟩
theorem own : ownKnob Try.prog.godebug = none := by kernel_rfl
set_option maxRecDepth 100000 in
theorem lifted (os : Os) (started : os.Started) (H : Type) (enc : TypeId × Value → H) :
    ReturnsInHanded {} Try.checked os 3 .any (Rows.fnExactWorldNewSpec.pre6 enc Try.prog Try.f3 Rows.fnExactWorldNewRow.domain false) (Rows.fnExactWorldNewSpec.post enc Try.prog Try.f3 false true false false) := by
  refine returnsInHanded_of_change (C := Try.checked) own started (by kernel_rfl) Try.func3
    (ChangeSpec.witness6 (enc := enc) (C := Try.checked) false ⟨#[], #[.int .i64 0], []⟩ 8 (by kernel_rfl) (by kernel_rfl) (by kernel_rfl) (by kernel_rfl)) ?_
  intro W base args ds gs before hval0 hW hcnd _
  have hval : ∀ (j : Nat) t v, Try.f3.params[j]? = some t → args[j]? = some v → Value.okWide Try.prog W .any base t v := hval0
  have hW' := hW
  obtain ⟨p, q, hA0, hV, rfl, hfz, hnd⟩ := hW
  have hA : DataW.TrodAll enc Try.prog W 0 (fun _ => true) true Try.f3.params.toList args.toList ds p := hA0
  rw [Try.params3] at hA hval
  obtain ⟨v0, vs0, d0, ds0, p0, q0, hargs, rfl, rfl, h0, r0⟩ := trodAll_cons hA
  obtain ⟨rfl, rfl, rfl⟩ := trodAll_nil r0
  obtain rfl : args = #[v0] := by cases args; simp_all
  obtain ⟨rfl, rfl⟩ := trodVars_none hV
  obtain ⟨a0, rfl, rfl, rfl, w0⟩ := open_int Try.underlying3 (hval 0 3 v0 rfl rfl) h0
  clear hA0 hval0
  refine (walk a0 W w0).mono fun e W' ⟨he, bel⟩ => ?_
  subst he
  exact ⟨_, rfl, _, _, _, [], _, [], hW', trodAll_mk1 (shut_bool Try.underlying4 _), (trodAll_cons_mk (shut_int Try.underlying3 w0) trodAll_mk0), rfl, bel.frame _, fun h => by cases h⟩
theorem over : Rows.fnExactWorldNewRow.holds Try.pinned (OpenSpec.ofChange Rows.fnExactWorldNewSpec) :=
  OpenClaim.holds_of_wide 3 Try.f3 rfl rfl rfl rfl rfl rfl rfl ⟨rfl, rfl, rfl, rfl, rfl⟩ rfl rfl rfl rfl rfl (by kernel_rfl) Try.func3 (by kernel_rfl)
    (of_decide_eq_true (by kernel_rfl)) (by unfold Func.isWrapper; first | (rw [if_pos (by decide +kernel)]; kernel_rfl) | (rw [if_neg (by decide +kernel)]; exact ⟨rfl, rfl⟩))
    (fun os started H enc _ => lifted os started H enc)
theorem proved : Rows.FnExactWorldNewSaid := over
end Go.Proofs.Ytndbmeedimhohaa.fnExactWorldNew

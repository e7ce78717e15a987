/-
  Whatever the weights, the law FnExactQueueNew returns true: the program's QueueNew returns what the reference's returns, leaves its argument as it was, and returns memory of its own; no condition.
-/
import Derived.Test.YtjdlfldeoinbiaaQN2Base
import Derived.Test.YtjdlfldeoinbiaaB1Base
import Derived.Test.YtjdlfldeoinbiaaO3Base
import Derived.ProofKit
import Derived.OpenShut
import Derived.ShutString
import Derived.ChangeOld
import Derived.Below
import Derived.Deep.Slices
import Derived.Lib.SmallJoins
import Derived.Deep.RegionWith
import Derived.Deep.Cut
namespace Go.Proofs.Ytjdlfldeoinbiaa.fnExactQueueNew
open Go.ChangeShapes Go.WideShapes Go.ChangeAt Go.RowKit
open Go.ChangeMaps (open_string shut_string)

def queue (n : Nat) (f : Nat → Int) (A : Option Addr) (c : Nat) : Array Value := #[.int .i64 0, .int .i64 (newC n f), .int .i64 0, .slice A (newN n f) c]
theorem ub {w : World} {B n sz : Nat} {A : Option Addr} {el : Nat → List Value} (h : OwnQ w B A n sz el) : 0 < n → ∀ k, hd A k → k < w.heap.size := fun hn k ⟨o, hk⟩ => by
  obtain ⟨g, ha, _, ho⟩ := h hn
  rw [ha] at hk
  simp at hk
  have := ho.1
  omega
set_option maxHeartbeats 4000000 in
theorem walk (A : Option Addr) (n c : Nat) (f : Nat → Int) (w : World) (hn : (n : Int) ≤ 9223372036854775807) (hA : Rw w w.heap.size A n (fun i => .int .i64 (f i))) :
    Calls Try.prog 5 #[.slice A n c] w fun e w' => e = .returned (.bool true) ∧ Below w.heap.size w w' := by
  by_cases h1 : (n : Int) > 1048576
  · go_enter Try.func5, Try.ntmps5
    go_wp2
    go_ret
    exact ⟨rfl, Below.refl _ _⟩
  have h2 : n ≤ 1048576 := by omega
  have h3 : newN n f ≤ 1048576 := by unfold newN; split <;> omega
  have HA := Lib.hid hA
  clear hA
  go_enter Try.func5, Try.ntmps5
  go_wp2_with fail
  refine (toIntS_any A n c h2 f _ w (Below.refl _ _) HA.out).mono ?_
  rintro e w1 ⟨rfl, hO1, hb1⟩
  have HB1 := Lib.hid hb1
  have X1 := Lib.hid hO1.rw_
  clear hb1 hO1
  go_wp2_with fail
  refine (sQueueNew_any _ n n (by omega) f _ w1 (Below.refl _ _) X1.out).mono ?_
  rintro e w2 ⟨As, cs, rfl, hq, hb2⟩
  have HB2 := Lib.hid (bel HB1.out hb2)
  have QS2 := Lib.hid hq
  have US := Lib.hid (ub hq)
  have HZ1 := HB1.out.size
  have HZ2 := hb2.size
  clear hq hb2 X1 HB1
  go_wp2_with fail
  have K0 := Bk.new w2 29 (queue n f As cs)
  have hb3 := (Below.refl w2.heap.size w2).alloc (Nat.le_refl _) (.cells (queue n f As cs) 29)
  unfold queue at K0 hb3
  generalize hw3 : w2.alloc _ = w3 at *
  have HZ3 := hb3.size
  have KS3 := Lib.hid K0
  have hgs : w2.heap.size < w3.heap.size := K0.lt
  clear K0 hw3
  have HB3 := Lib.hid (bel HB2.out hb3)
  have QS3 := Lib.hid (QS2.out.below hb3 (Nat.le_refl _))
  clear hb3 HB2 QS2
  refine (toIntS_any A n c h2 f _ w HB3.out HA.out).mono ?_
  rintro e w4 ⟨rfl, hO4, hb4⟩
  have X4 : Hid (OwnR w4 w3.heap.size (some ⟨w3.heap.size, 0, none⟩) n (fun i => .int .i64 (f i))) := fun _ => ⟨_, rfl, Nat.le_refl _, hO4.ownV⟩
  have hx4 : w3.heap.size < w4.heap.size := hO4.lt
  have HZ4 := hb4.size
  clear hO4
  have HB4 := Lib.hid (bel HB3.out hb4)
  have QS4 := Lib.hid (QS3.out.below hb4 (Nat.le_refl _))
  have KS4 := Lib.hid (KS3.out.below hb4 KS3.out.lt)
  clear hb4 HB3 QS3 KS3
  go_wp2_with fail
  refine (iQueueNew_any _ n n (by omega) f _ w4 (Below.refl _ _) X4.out.rw_).mono ?_
  rintro e w5 ⟨Ag, cg, rfl, hq, hb5⟩
  have QG5 := Lib.hid hq
  have UG := Lib.hid (ub hq)
  have HZ5 := hb5.size
  clear hq
  have HB5 := Lib.hid (bel HB4.out hb5)
  have QS5 := Lib.hid (QS4.out.below hb5 (Nat.le_refl _))
  have KS5 := Lib.hid (KS4.out.below hb5 KS4.out.lt)
  have X5 := Lib.hid (X4.out.below hb5 (Nat.le_refl _))
  clear hb5 HB4 QS4 KS4 X4
  have K0 := Bk.new w5 29 (queue n f Ag cg)
  have hb6 := (Below.refl w5.heap.size w5).alloc (Nat.le_refl _) (.cells (queue n f Ag cg) 29)
  unfold queue at K0 hb6
  have KGa := Lib.hid K0
  have KSa := Lib.hid (KS5.out.below hb6 KS5.out.lt)
  have hgg : w5.heap.size < (w5.alloc (.cells #[.int .i64 0, .int .i64 (newC n f), .int .i64 0, .slice Ag (newN n f) cg] 29)).heap.size := K0.lt
  have HH := Lib.hid hb6
  clear K0 hb6
  go_wp2_with (first | refine wpList_load_row rfl 29 _ rfl (w2.heap.size) rfl 29 _ (0, 0) _ KSa.out Try.underlying29 rfl (by kernel_rfl) ?_ | refine wpList_load_row rfl 29 _ rfl (w5.heap.size) rfl 29 _ (0, 0) _ KGa.out Try.underlying29 rfl (by kernel_rfl) ?_)
  have hb6 := HH.out
  clear HH
  generalize hw6 : w5.alloc _ = w6 at *
  have HZ6 := hb6.size
  have KG6 := KGa
  clear hw6 KSa KGa
  have HB6 := Lib.hid (bel HB5.out hb6)
  have QS6 := Lib.hid (QS5.out.below hb6 (Nat.le_refl _))
  have KS6 := Lib.hid (KS5.out.below hb6 KS5.out.lt)
  have X6 := Lib.hid (X5.out.below hb6 (Nat.le_refl _))
  have QG6 := Lib.hid (QG5.out.below hb6 (Nat.le_refl _))
  clear hb6 HB5 QS5 KS5 X5 QG5
  refine (eqQueue_t 0 (newC n f) 0 _ _ (newN n f) _ _ h3 (fun _ => false) (fun _ => 0) f (fun _ => 0) _ w6 (Below.refl _ _) QG6.out.rs QS6.out.rs).mono ?_
  rintro e w7 ⟨rfl, hb7⟩
  have HZ7 := hb7.size
  have HB7 := Lib.hid (bel HB6.out hb7)
  have QS7 := Lib.hid (QS6.out.below hb7 (Nat.le_refl _))
  have KS7 := Lib.hid (KS6.out.below hb7 KS6.out.lt)
  have X7 := Lib.hid (X6.out.below hb7 (Nat.le_refl _))
  have QG7 := Lib.hid (QG6.out.below hb7 (Nat.le_refl _))
  have KG7 := Lib.hid (KG6.out.below hb7 KG6.out.lt)
  clear hb7 HB6 QS6 KS6 X6 QG6 KG6
  go_wp2_with fail
  refine (toIntS_any A n c h2 f _ w HB7.out HA.out).mono ?_
  rintro e w8 ⟨rfl, hO8, hb8⟩
  have Y8 := Lib.hid hO8.rw_
  have HZ8 := hb8.size
  clear hO8
  have HB8 := Lib.hid (bel HB7.out hb8)
  have QS8 := Lib.hid (QS7.out.below hb8 (Nat.le_refl _))
  have KS8 := Lib.hid (KS7.out.below hb8 KS7.out.lt)
  have X8 := Lib.hid (X7.out.below hb8 (Nat.le_refl _))
  have QG8 := Lib.hid (QG7.out.below hb8 (Nat.le_refl _))
  have KG8 := Lib.hid (KG7.out.below hb8 KG7.out.lt)
  clear hb8 HB7 QS7 KS7 X7 QG7 KG7
  go_wp2_with fail
  refine (eqIntS_t _ _ n n n h2 f _ w8 (Below.refl _ _) X8.out.rw_ Y8.out).mono ?_
  rintro e w9 ⟨rfl, hb9⟩
  have HZ9 := hb9.size
  clear Y8
  have HB9 := Lib.hid (bel HB8.out hb9)
  have QS9 := Lib.hid (QS8.out.below hb9 (Nat.le_refl _))
  have KS9 := Lib.hid (KS8.out.below hb9 KS8.out.lt)
  have X9 := Lib.hid (X8.out.below hb9 (Nat.le_refl _))
  have QG9 := Lib.hid (QG8.out.below hb9 (Nat.le_refl _))
  have KG9 := Lib.hid (KG8.out.below hb9 KG8.out.lt)
  clear hb9 HB8 QS8 KS8 X8 QG8 KG8
  go_wp2_with fail
  refine (markIntS_any _ n n w3.heap.size 1 (by omega) (by omega) h2 _ w9 X9.out).mono ?_
  rintro e w10 ⟨rfl, hk10, ho10⟩
  have HZ10 := hk10.size
  clear X9 ho10
  have HB10 := Lib.hid (HB9.out.trans (hk10.below HB9.out.size (fun b hb => by have := hb.2.1; omega)))
  have QS10 := Lib.hid (QS9.out.kept hk10 (by intro hn k hB hk ⟨_, h1, _⟩; have := US.out hn k hk; omega))
  have KS10 := Lib.hid (KS9.out.kept hk10 (by omega))
  have QG10 := Lib.hid (QG9.out.kept hk10 (by intro _ k hB _ ⟨_, _, o, h⟩; simp at h))
  have KG10 := Lib.hid (KG9.out.kept hk10 (by rintro ⟨_, _, o, h⟩; simp at h))
  clear hk10 HB9 QS9 KS9 QG9 KG9
  have hm1 : 0 ≤ (1 : Int) + n := by omega
  obtain ⟨y0, y1, y2, y3⟩ := KS10.out.four
  obtain ⟨z0, z1, z2, z3⟩ := KG10.out.four
  go_wp2_with fail
  refine (eqQueue_t 0 (newC n f) 0 _ _ (newN n f) _ _ h3 (fun _ => false) (fun _ => 0) f (fun _ => 0) _ w10 (Below.refl _ _) QG10.out.rs QS10.out.rs).mono ?_
  rintro e w11 ⟨rfl, hb11⟩
  clear y0 y1 y2 y3 z0 z1 z2 z3
  have HZ11 := hb11.size
  have HB11 := Lib.hid (bel HB10.out hb11)
  have QS11 := Lib.hid (QS10.out.below hb11 (Nat.le_refl _))
  have KS11 := Lib.hid (KS10.out.below hb11 KS10.out.lt)
  have QG11 := Lib.hid (QG10.out.below hb11 (Nat.le_refl _))
  have KG11 := Lib.hid (KG10.out.below hb11 KG10.out.lt)
  clear hb11 HB10 QS10 KS10 QG10 KG10
  go_wp2_with (first | refine wpList_load_row rfl 29 _ rfl (w2.heap.size) rfl 29 _ (0, 0) _ KS11.out Try.underlying29 rfl (by kernel_rfl) ?_ | refine wpList_load_row rfl 29 _ rfl (w5.heap.size) rfl 29 _ (0, 0) _ KG11.out Try.underlying29 rfl (by kernel_rfl) ?_)
  refine (markQueue_any 0 (newC n f) 0 Ag (newN n f) cg w4.heap.size 1 (by omega) (by omega) h3 (newEl f) (newEl_len f) w11 QG11.out).mono ?_
  rintro e w12 ⟨rfl, hk12, ho12⟩
  have HZ12 := hk12.size
  have QM12 := Lib.hid ho12
  clear QG11 ho12
  have HB12 := Lib.hid (HB11.out.trans (hk12.below HB11.out.size (fun b hb => by have := hb.2.1; omega)))
  have QS12 := Lib.hid (QS11.out.kept hk12 (by intro hn k hB hk ⟨_, h1, _⟩; have := US.out hn k hk; omega))
  have KS12 := Lib.hid (KS11.out.kept hk12 (by omega))
  have KG12 := Lib.hid (KG11.out.kept hk12 (by rintro ⟨hn, _, h⟩; have := UG.out hn _ h; omega))
  clear hk12 HB11 QS11 KS11 KG11
  have hm2 : 0 ≤ (1 : Int) + 4 * newN n f := by omega
  go_wp2_with (first | refine wpList_load_row rfl 29 _ rfl (w2.heap.size) rfl 29 _ (0, 0) _ KS12.out Try.underlying29 rfl (by kernel_rfl) ?_ | refine wpList_load_row rfl 29 _ rfl (w5.heap.size) rfl 29 _ (0, 0) _ KG12.out Try.underlying29 rfl (by kernel_rfl) ?_)
  refine (heldQueue_any 0 (newC n f) 0 Ag (newN n f) cg 1 (by omega) (by omega) h3 _ w12 (Below.refl _ _) QM12.out.rs).mono ?_
  rintro e w13 ⟨rfl, hb13⟩
  have HZ13 := hb13.size
  have HB13 := Lib.hid (bel HB12.out hb13)
  have QS13 := Lib.hid (QS12.out.below hb13 (Nat.le_refl _))
  have KS13 := Lib.hid (KS12.out.below hb13 KS12.out.lt)
  have KG13 := Lib.hid (KG12.out.below hb13 KG12.out.lt)
  have QM13 := Lib.hid (QM12.out.below hb13 (Nat.le_refl _))
  clear hb13 HB12 QS12 KS12 KG12 QM12
  go_wp2_with fail
  refine (toIntS_any A n c h2 f _ w HB13.out HA.out).mono ?_
  rintro e w14 ⟨rfl, hO14, hb14⟩
  have Y14 := Lib.hid hO14.rw_
  have HZ14 := hb14.size
  clear hO14
  have HB14 := Lib.hid (bel HB13.out hb14)
  have QS14 := Lib.hid (QS13.out.below hb14 (Nat.le_refl _))
  have KS14 := Lib.hid (KS13.out.below hb14 KS13.out.lt)
  have KG14 := Lib.hid (KG13.out.below hb14 KG13.out.lt)
  have QM14 := Lib.hid (QM13.out.below hb14 (Nat.le_refl _))
  clear hb14 HB13 QS13 KS13 KG13 QM13
  go_wp2_with fail
  refine (iQueueNew_any _ n n (by omega) f _ w14 (Below.refl _ _) Y14.out).mono ?_
  rintro e w15 ⟨Ah, ch, rfl, hq, hb15⟩
  have QH15 := Lib.hid hq
  have HZ15 := hb15.size
  clear hq Y14
  have HB15 := Lib.hid (bel HB14.out hb15)
  have QS15 := Lib.hid (QS14.out.below hb15 (Nat.le_refl _))
  have KS15 := Lib.hid (KS14.out.below hb15 KS14.out.lt)
  have KG15 := Lib.hid (KG14.out.below hb15 KG14.out.lt)
  have QM15 := Lib.hid (QM14.out.below hb15 (Nat.le_refl _))
  clear hb15 HB14 QS14 KS14 KG14 QM14
  have K0 := Bk.new w15 29 (queue n f Ah ch)
  have hb16 := (Below.refl w15.heap.size w15).alloc (Nat.le_refl _) (.cells (queue n f Ah ch) 29)
  unfold queue at K0 hb16
  have KHa := Lib.hid K0
  have KSa := Lib.hid (KS15.out.below hb16 KS15.out.lt)
  have HH := Lib.hid hb16
  clear K0 hb16
  go_wp2_with (first | refine wpList_load_row rfl 29 _ rfl (w2.heap.size) rfl 29 _ (0, 0) _ KSa.out Try.underlying29 rfl (by kernel_rfl) ?_ | refine wpList_load_row rfl 29 _ rfl (w15.heap.size) rfl 29 _ (0, 0) _ KHa.out Try.underlying29 rfl (by kernel_rfl) ?_)
  have hb16 := HH.out
  clear HH
  generalize hw16 : w15.alloc _ = w16 at *
  have HZ16 := hb16.size
  clear hw16 KSa KHa
  have HB16 := Lib.hid (bel HB15.out hb16)
  have QS16 := Lib.hid (QS15.out.below hb16 (Nat.le_refl _))
  have KS16 := Lib.hid (KS15.out.below hb16 KS15.out.lt)
  have KG16 := Lib.hid (KG15.out.below hb16 KG15.out.lt)
  have QM16 := Lib.hid (QM15.out.below hb16 (Nat.le_refl _))
  have QH16 := Lib.hid (QH15.out.below hb16 (Nat.le_refl _))
  clear hb16 HB15 QS15 KS15 KG15 QM15 QH15
  refine (eqQueue_t 0 (newC n f) 0 _ _ (newN n f) _ _ h3 (fun _ => false) (fun _ => 0) f (fun _ => 0) _ w16 (Below.refl _ _) QH16.out.rs QS16.out.rs).mono ?_
  rintro e w17 ⟨rfl, hb17⟩
  have HZ17 := hb17.size
  have HB17 := Lib.hid (bel HB16.out hb17)
  have QS17 := Lib.hid (QS16.out.below hb17 (Nat.le_refl _))
  have KS17 := Lib.hid (KS16.out.below hb17 KS16.out.lt)
  have KG17 := Lib.hid (KG16.out.below hb17 KG16.out.lt)
  have QM17 := Lib.hid (QM16.out.below hb17 (Nat.le_refl _))
  have QH17 := Lib.hid (QH16.out.below hb17 (Nat.le_refl _))
  clear hb17 HB16 QS16 KS16 KG16 QM16 QH16
  go_wp2_with (first | refine wpList_load_row rfl 29 _ rfl (w2.heap.size) rfl 29 _ (0, 0) _ KS17.out Try.underlying29 rfl (by kernel_rfl) ?_ | refine wpList_load_row rfl 29 _ rfl (w5.heap.size) rfl 29 _ (0, 0) _ KG17.out Try.underlying29 rfl (by kernel_rfl) ?_)
  refine (heldQueue_any 0 (newC n f) 0 Ag (newN n f) cg 1 (by omega) (by omega) h3 _ w17 (Below.refl _ _) QM17.out.rs).mono ?_
  rintro e w18 ⟨rfl, hb18⟩
  have HB18 := Lib.hid (bel HB17.out hb18)
  have QS18 := Lib.hid (QS17.out.below hb18 (Nat.le_refl _))
  have KS18 := Lib.hid (KS17.out.below hb18 KS17.out.lt)
  have KG18 := Lib.hid (KG17.out.below hb18 KG17.out.lt)
  have QM18 := Lib.hid (QM17.out.below hb18 (Nat.le_refl _))
  have QH18 := Lib.hid (QH17.out.below hb18 (Nat.le_refl _))
  clear hb18 HB17 QS17 KS17 KG17 QM17 QH17
  go_wp2
  go_ret
  exact ⟨rfl, HB18.out⟩
theorem own : ownKnob Try.prog.godebug = none := by kernel_rfl
theorem laidOut : laidOutB Try.prog = true := by kernel_rfl
set_option maxRecDepth 100000 in
theorem lifted (os : Os) (started : os.Started) (H : Type) (enc : TypeId × Value → H) :
    ReturnsInHanded {} Try.checked os 5 .any (Rows.fnExactQueueNewSpec.pre6 enc Try.prog Try.f5 Rows.fnExactQueueNewRow.domain false) (Rows.fnExactQueueNewSpec.post enc Try.prog Try.f5 false true false false) := by
  refine returnsInHanded_of_change (C := Try.checked) own started (by kernel_rfl) Try.func5
    (ChangeSpec.witness6 (enc := enc) (C := Try.checked) false ⟨#[], #[.slice none 0 0], []⟩ 8 (by kernel_rfl) (by kernel_rfl) (by kernel_rfl) (by kernel_rfl)) ?_
  intro W base args ds gs before hval0 hW hcnd _
  have hval : ∀ (j : Nat) t v, Try.f5.params[j]? = some t → args[j]? = some v → Value.okWide Try.prog W .any base t v := hval0
  have hW' := hW
  obtain ⟨p, q, hA0, hV, rfl, hfz, hnd⟩ := hW
  have hA : DataW.TrodAll enc Try.prog W 0 (fun _ => true) true Try.f5.params.toList args.toList ds p := hA0
  rw [Try.params5] at hA hval
  obtain ⟨v0, vs0, d0, ds0, p0, q0, hargs, rfl, rfl, h0, r0⟩ := trodAll_cons hA
  obtain ⟨rfl, rfl, rfl⟩ := trodAll_nil r0
  obtain rfl : args = #[v0] := by cases args; simp_all
  obtain ⟨rfl, rfl⟩ := trodVars_none hV
  have k0 := h0
  have lt0 : ∀ x ∈ p0, x.block < W.heap.size := by obtain ⟨m, hm⟩ := k0; exact DataW.trod_lt m _ _ _ hm
  obtain ⟨Ax0, nx0, cx0, fx0, rfl, hnx0, hAx0⟩ := open_lawsInts (hval 0 35 v0 rfl rfl) h0
  clear hA0 hval0
  refine (walk Ax0 nx0 cx0 fx0 W hnx0 hAx0).mono fun e W' ⟨he, bel⟩ => ?_
  subst he
  exact ⟨_, rfl, _, _, _, [], _, [], hW', trodAll_mk1 (shut_bool Try.underlying4 _), (trodAll_cons_mk (Below.trod laidOut (by kernel_rfl) (of_decide_eq_true (by kernel_rfl)) k0 bel lt0) trodAll_mk0), rfl, bel.frame _, fun h => by cases h⟩
theorem over : Rows.fnExactQueueNewRow.holds Try.pinned (OpenSpec.ofChange Rows.fnExactQueueNewSpec) :=
  OpenClaim.holds_of_wide 5 Try.f5 rfl rfl rfl rfl rfl rfl rfl ⟨rfl, rfl, rfl, rfl, rfl⟩ rfl rfl rfl rfl rfl (by kernel_rfl) Try.func5 (by kernel_rfl)
    (of_decide_eq_true (by kernel_rfl)) (by unfold Func.isWrapper; first | (rw [if_pos (by decide +kernel)]; kernel_rfl) | (rw [if_neg (by decide +kernel)]; exact ⟨rfl, rfl⟩))
    (fun os started H enc _ => lifted os started H enc)
theorem proved : Rows.FnExactQueueNewSaid := over
end Go.Proofs.Ytjdlfldeoinbiaa.fnExactQueueNew

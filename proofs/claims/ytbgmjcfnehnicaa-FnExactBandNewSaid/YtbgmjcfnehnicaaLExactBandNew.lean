/-
  Whatever the two numbers, the law FnExactBandNew returns true: the program's BandNew returns what the reference's returns, and returns memory of its own; no condition.
-/
import Derived.Test.YtbgmjcfnehnicaaB21Base
import Derived.ProofKit
import Derived.OpenShut
import Derived.ShutString
import Derived.ChangeOld
import Derived.Below
import Derived.Deep.Slices
import Derived.Lib.SmallJoins
import Derived.Deep.RegionWith
namespace Go.Proofs.Ytbgmjcfnehnicaa.fnExactBandNew
open Go.ChangeShapes Go.WideShapes Go.ChangeAt Go.RowKit
open Go.ChangeMaps (open_string shut_string)

/-- What BandNew returns, its numbers named. -/
def NB2 (ok : Bool) (Q : Int) (N : Nat) (w : World) (e : Ending) (w' : World) : Prop :=
  ∃ Al cl Ad cd, e = .returned (.tuple #[.agg #[.int .i64 Q, .int .i64 Q, .int .i64 0, .slice Al N cl, .slice Ad N cd], .bool ok]) ∧
    OwnR w' w.heap.size Al N (fun _ => .int .i64 0) ∧ OwnR w' w.heap.size Ad N (fun _ => .bool false) ∧ (0 < N → ∀ x, hd Al x → ¬ hd Ad x) ∧ Below w.heap.size w w'
set_option maxHeartbeats 4000000 in
theorem walk (q c : Int) (w : World) (_hq : (Lit.int .i64 q).wf = true) (_hc : (Lit.int .i64 c).wf = true) :
    Calls Try.prog 3 #[.int .i64 q, .int .i64 c] w fun e w' => e = .returned (.bool true) ∧ Below w.heap.size w w' := by
  have h4 : newBOk q c = true → c.toNat ≤ 4 := fun h => by
    unfold newBOk at h
    rw [Bool.and_eq_true] at h
    obtain ⟨_, _⟩ := inR_iff.1 h.2
    omega
  have h5 : doN (newBOk q c) c.toNat ≤ 1048576 := by
    unfold doN
    split
    · next h => have := h4 h; omega
    · omega
  obtain ⟨ok, N, Q, h3, HI, HS⟩ : ∃ (ok : Bool) (N : Nat) (Q : Int), N ≤ 1048576 ∧ Hid (∀ x : World, Calls Try.prog 10 #[.int .i64 q, .int .i64 c] x (NB2 ok Q N x)) ∧ Hid (∀ x : World, Calls Try.prog 9 #[.int .i64 q, .int .i64 c] x (NB2 ok Q N x)) :=
    ⟨newBOk q c, doN (newBOk q c) c.toNat, doQ (newBOk q c) q, h5, iBandNew_any q c, sBandNew_any q c⟩
  clear h4 h5
  go_enter Try.func3, Try.ntmps3
  go_wp2_with fail
  refine (HS.out w).mono ?_
  rintro e w1 ⟨Al, cl, Ad, cd, rfl, hl, hd, hap, hb1⟩
  have HB1 := Lib.hid hb1
  have hq : Rows2 w1 w.heap.size Al Ad N (fun _ => .int .i64 0) (fun _ => .bool false) := ⟨hl, hd, hap⟩
  have QS1 := Lib.hid hq
  have US := Lib.hid hq.ub
  have HZ1 := hb1.size
  clear hl hd hap hq hb1
  have K0 := Bk.new w1 25 #[.int .i64 Q, .int .i64 Q, .int .i64 0, .slice Al N cl, .slice Ad N cd]
  have hb2 := (Below.refl w1.heap.size w1).alloc (Nat.le_refl _) (.cells #[.int .i64 Q, .int .i64 Q, .int .i64 0, .slice Al N cl, .slice Ad N cd] 25)
  have KSa := Lib.hid K0
  have HH := Lib.hid hb2
  clear K0 hb2
  go_wp2_with fail
  have hb2 := HH.out
  clear HH
  generalize hw2 : w1.alloc _ = w2 at *
  have HZ2 := hb2.size
  have hgs : w1.heap.size < w2.heap.size := KSa.out.lt
  clear hw2
  have HB2 := Lib.hid (bel HB1.out hb2)
  have QS2 := Lib.hid (QS1.out.below hb2)
  clear hb2 HB1 QS1
  have KS2 := KSa
  clear KSa
  refine (HI.out w2).mono ?_
  rintro e w3 ⟨Gl, gl, Gd, gd, rfl, hl, hd, hap, hb3⟩
  have hq : Rows2 w3 w2.heap.size Gl Gd N (fun _ => .int .i64 0) (fun _ => .bool false) := ⟨hl, hd, hap⟩
  have QG3 := Lib.hid hq
  have UG := Lib.hid hq.ub
  have HZ3 := hb3.size
  clear hl hd hap hq
  have HB3 := Lib.hid (bel HB2.out hb3)
  have QS3 := Lib.hid (QS2.out.below hb3)
  have KS3 := Lib.hid (KS2.out.below hb3 KS2.out.lt)
  clear hb3 HB2 QS2 KS2
  have K0 := Bk.new w3 25 #[.int .i64 Q, .int .i64 Q, .int .i64 0, .slice Gl N gl, .slice Gd N gd]
  have hb4 := (Below.refl w3.heap.size w3).alloc (Nat.le_refl _) (.cells #[.int .i64 Q, .int .i64 Q, .int .i64 0, .slice Gl N gl, .slice Gd N gd] 25)
  have KGa := Lib.hid K0
  have HH := Lib.hid hb4
  clear K0 hb4
  have KSa := Lib.hid (KS3.out.below HH.out KS3.out.lt)
  go_wp2_with (first | refine wpList_load_row rfl 25 _ rfl (w1.heap.size) rfl 25 _ (0, 0) _ KSa.out Try.underlying25 rfl (by kernel_rfl) ?_ | refine wpList_load_row rfl 25 _ rfl (w3.heap.size) rfl 25 _ (0, 0) _ KGa.out Try.underlying25 rfl (by kernel_rfl) ?_)
  have hb4 := HH.out
  clear HH
  generalize hw4 : w3.alloc _ = w4 at *
  have HZ4 := hb4.size
  have hlt4 : w3.heap.size < w4.heap.size := KGa.out.lt
  have KG4 := KGa
  clear hw4 KSa KGa
  have HB4 := Lib.hid (bel HB3.out hb4)
  have QS4 := Lib.hid (QS3.out.below hb4)
  have KS4 := Lib.hid (KS3.out.below hb4 KS3.out.lt)
  have QG4 := Lib.hid (QG3.out.below hb4)
  clear hb4 HB3 QS3 KS3 QG3
  refine (eqBand_t Q Q 0 _ _ _ _ N N _ _ _ _ h3 h3 (fun _ => 0) (fun _ => false) _ w4 (Below.refl _ _) QG4.out.1.rw_ QG4.out.2.1.rw_ QS4.out.1.rw_ QS4.out.2.1.rw_).mono ?_
  rintro e w5 ⟨rfl, hb5⟩
  have HZ5 := hb5.size
  have HB5 := Lib.hid (bel HB4.out hb5)
  have QS5 := Lib.hid (QS4.out.below hb5)
  have KS5 := Lib.hid (KS4.out.below hb5 KS4.out.lt)
  have QG5 := Lib.hid (QG4.out.below hb5)
  have KG5 := Lib.hid (KG4.out.below hb5 KG4.out.lt)
  clear hb5 HB4 QS4 KS4 QG4 KG4
  go_wp2_with (first | refine wpList_load_row rfl 25 _ rfl (w1.heap.size) rfl 25 _ (0, 0) _ KS5.out Try.underlying25 rfl (by kernel_rfl) ?_ | refine wpList_load_row rfl 25 _ rfl (w3.heap.size) rfl 25 _ (0, 0) _ KG5.out Try.underlying25 rfl (by kernel_rfl) ?_)
  refine (markBand_any Q Q 0 Gl Gd N gl gd w2.heap.size 1 (by omega) (by omega) h3 _ _ w5 QG5.out).mono ?_
  rintro e w6 ⟨rfl, hk6, ho6⟩
  have HZ6 := hk6.size
  have QM6 := Lib.hid ho6
  clear QG5 ho6
  have HB6 := Lib.hid (HB5.out.trans (hk6.below HB5.out.size (fun b hb => by have := hb.2.1; omega)))
  have QS6 := Lib.hid (QS5.out.kept hk6 (by intro hn k hB hk ⟨_, h1, _⟩; have := US.out hn k hk; omega))
  have KS6 := Lib.hid (KS5.out.kept hk6 (by rintro ⟨_, h, _⟩; omega))
  have KG6 := Lib.hid (KG5.out.kept hk6 (by rintro ⟨hn, _, h⟩; have := UG.out hn _ h; omega))
  clear hk6 HB5 QS5 KS5 KG5
  have hm2 : 0 ≤ (1 : Int) + N + N := by omega
  go_wp2_with (first | refine wpList_load_row rfl 25 _ rfl (w1.heap.size) rfl 25 _ (0, 0) _ KS6.out Try.underlying25 rfl (by kernel_rfl) ?_ | refine wpList_load_row rfl 25 _ rfl (w3.heap.size) rfl 25 _ (0, 0) _ KG6.out Try.underlying25 rfl (by kernel_rfl) ?_)
  refine (heldBand_any Q Q 0 Gl Gd N gl gd 1 (by omega) (by omega) h3 _ w6 (Below.refl _ _) QM6.out.1.rw_ QM6.out.2.1.rw_).mono ?_
  rintro e w7 ⟨rfl, hb7⟩
  have HZ7 := hb7.size
  have HB7 := Lib.hid (bel HB6.out hb7)
  have QS7 := Lib.hid (QS6.out.below hb7)
  have KS7 := Lib.hid (KS6.out.below hb7 KS6.out.lt)
  have KG7 := Lib.hid (KG6.out.below hb7 KG6.out.lt)
  have QM7 := Lib.hid (QM6.out.below hb7)
  clear hb7 HB6 QS6 KS6 KG6 QM6
  go_wp2_with fail
  refine (HI.out w7).mono ?_
  rintro e w8 ⟨Hl, hl, Hd, hd_, rfl, hl8, hd8, hap, hb8⟩
  have hq : Rows2 w8 w7.heap.size Hl Hd N (fun _ => .int .i64 0) (fun _ => .bool false) := ⟨hl8, hd8, hap⟩
  have QH8 := Lib.hid hq
  have HZ8 := hb8.size
  clear hl8 hd8 hap hq
  have HB8 := Lib.hid (bel HB7.out hb8)
  have QS8 := Lib.hid (QS7.out.below hb8)
  have KS8 := Lib.hid (KS7.out.below hb8 KS7.out.lt)
  have KG8 := Lib.hid (KG7.out.below hb8 KG7.out.lt)
  have QM8 := Lib.hid (QM7.out.below hb8)
  clear hb8 HB7 QS7 KS7 KG7 QM7
  have K0 := Bk.new w8 25 #[.int .i64 Q, .int .i64 Q, .int .i64 0, .slice Hl N hl, .slice Hd N hd_]
  have hb9 := (Below.refl w8.heap.size w8).alloc (Nat.le_refl _) (.cells #[.int .i64 Q, .int .i64 Q, .int .i64 0, .slice Hl N hl, .slice Hd N hd_] 25)
  have KHa := Lib.hid K0
  have HH := Lib.hid hb9
  clear K0 hb9
  have KSa := Lib.hid (KS8.out.below HH.out KS8.out.lt)
  go_wp2_with (first | refine wpList_load_row rfl 25 _ rfl (w1.heap.size) rfl 25 _ (0, 0) _ KSa.out Try.underlying25 rfl (by kernel_rfl) ?_ | refine wpList_load_row rfl 25 _ rfl (w8.heap.size) rfl 25 _ (0, 0) _ KHa.out Try.underlying25 rfl (by kernel_rfl) ?_)
  have hb9 := HH.out
  clear HH
  generalize hw9 : w8.alloc _ = w9 at *
  have HZ9 := hb9.size
  have hlt9 : w8.heap.size < w9.heap.size := KHa.out.lt
  have KH9 := KHa
  clear hw9 KSa KHa
  have HB9 := Lib.hid (bel HB8.out hb9)
  have QS9 := Lib.hid (QS8.out.below hb9)
  have KS9 := Lib.hid (KS8.out.below hb9 KS8.out.lt)
  have KG9 := Lib.hid (KG8.out.below hb9 KG8.out.lt)
  have QM9 := Lib.hid (QM8.out.below hb9)
  have QH9 := Lib.hid (QH8.out.below hb9)
  clear hb9 HB8 QS8 KS8 KG8 QM8 QH8
  refine (eqBand_t Q Q 0 _ _ _ _ N N _ _ _ _ h3 h3 (fun _ => 0) (fun _ => false) _ w9 (Below.refl _ _) QH9.out.1.rw_ QH9.out.2.1.rw_ QS9.out.1.rw_ QS9.out.2.1.rw_).mono ?_
  rintro e w10 ⟨rfl, hb10⟩
  have HZ10 := hb10.size
  have HB10 := Lib.hid (bel HB9.out hb10)
  have QS10 := Lib.hid (QS9.out.below hb10)
  have KS10 := Lib.hid (KS9.out.below hb10 KS9.out.lt)
  have KG10 := Lib.hid (KG9.out.below hb10 KG9.out.lt)
  have QM10 := Lib.hid (QM9.out.below hb10)
  have QH10 := Lib.hid (QH9.out.below hb10)
  have KH10 := Lib.hid (KH9.out.below hb10 KH9.out.lt)
  clear hb10 HB9 QS9 KS9 KG9 QM9 QH9 KH9
  go_wp2_with (first | refine wpList_load_row rfl 25 _ rfl (w1.heap.size) rfl 25 _ (0, 0) _ KS10.out Try.underlying25 rfl (by kernel_rfl) ?_ | refine wpList_load_row rfl 25 _ rfl (w3.heap.size) rfl 25 _ (0, 0) _ KG10.out Try.underlying25 rfl (by kernel_rfl) ?_)
  refine (heldBand_any Q Q 0 Gl Gd N gl gd 1 (by omega) (by omega) h3 _ w10 (Below.refl _ _) QM10.out.1.rw_ QM10.out.2.1.rw_).mono ?_
  rintro e w11 ⟨rfl, hb11⟩
  have HZ11 := hb11.size
  have HB11 := Lib.hid (bel HB10.out hb11)
  have QS11 := Lib.hid (QS10.out.below hb11)
  have KS11 := Lib.hid (KS10.out.below hb11 KS10.out.lt)
  have KG11 := Lib.hid (KG10.out.below hb11 KG10.out.lt)
  have QM11 := Lib.hid (QM10.out.below hb11)
  have QH11 := Lib.hid (QH10.out.below hb11)
  have KH11 := Lib.hid (KH10.out.below hb11 KH10.out.lt)
  clear hb11 HB10 QS10 KS10 KG10 QM10 QH10 KH10
  go_wp2
  go_ret
  exact ⟨rfl, HB11.out⟩
theorem own : ownKnob Try.prog.godebug = none := by kernel_rfl
set_option maxRecDepth 100000 in
theorem lifted (os : Os) (started : os.Started) (H : Type) (enc : TypeId × Value → H) :
    ReturnsInHanded {} Try.checked os 3 .any (Rows.fnExactBandNewSpec.pre6 enc Try.prog Try.f3 Rows.fnExactBandNewRow.domain false) (Rows.fnExactBandNewSpec.post enc Try.prog Try.f3 false true false false) := by
  refine returnsInHanded_of_change (C := Try.checked) own started (by kernel_rfl) Try.func3
    (ChangeSpec.witness6 (enc := enc) (C := Try.checked) false ⟨#[], #[.int .i64 0, .int .i64 0], []⟩ 8 (by kernel_rfl) (by kernel_rfl) (by kernel_rfl) (by kernel_rfl)) ?_
  intro W base args ds gs before hval0 hW hcnd _
  have hval : ∀ (j : Nat) t v, Try.f3.params[j]? = some t → args[j]? = some v → Value.okWide Try.prog W .any base t v := hval0
  have hW' := hW
  obtain ⟨p, q, hA0, hV, rfl, hfz, hnd⟩ := hW
  have hA : DataW.TrodAll enc Try.prog W 0 (fun _ => true) true Try.f3.params.toList args.toList ds p := hA0
  rw [Try.params3] at hA hval
  obtain ⟨v0, vs0, d0, ds0, p0, q0, hargs, rfl, rfl, h0, r0⟩ := trodAll_cons hA
  obtain ⟨v1, vs1, d1, ds1, p1, q1, rfl, rfl, rfl, h1, r1⟩ := trodAll_cons r0
  obtain ⟨rfl, rfl, rfl⟩ := trodAll_nil r1
  obtain rfl : args = #[v0, v1] := by cases args; simp_all
  obtain ⟨rfl, rfl⟩ := trodVars_none hV
  obtain ⟨a0, rfl, rfl, rfl, w0⟩ := open_int Try.underlying3 (hval 0 3 v0 rfl rfl) h0
  obtain ⟨a1, rfl, rfl, rfl, w1⟩ := open_int Try.underlying3 (hval 1 3 v1 rfl rfl) h1
  clear hA0 hval0
  refine (walk a0 a1 W w0 w1).mono fun e W' ⟨he, bel⟩ => ?_
  subst he
  exact ⟨_, rfl, _, _, _, [], _, [], hW', trodAll_mk1 (shut_bool Try.underlying4 _), (trodAll_cons_mk (shut_int Try.underlying3 w0) (trodAll_cons_mk (shut_int Try.underlying3 w1) trodAll_mk0)), rfl, bel.frame _, fun h => by cases h⟩
theorem over : Rows.fnExactBandNewRow.holds Try.pinned (OpenSpec.ofChange Rows.fnExactBandNewSpec) :=
  OpenClaim.holds_of_wide 3 Try.f3 rfl rfl rfl rfl rfl rfl rfl ⟨rfl, rfl, rfl, rfl, rfl⟩ rfl rfl rfl rfl rfl (by kernel_rfl) Try.func3 (by kernel_rfl)
    (of_decide_eq_true (by kernel_rfl)) (by unfold Func.isWrapper; first | (rw [if_pos (by decide +kernel)]; kernel_rfl) | (rw [if_neg (by decide +kernel)]; exact ⟨rfl, rfl⟩))
    (fun os started H enc _ => lifted os started H enc)
theorem proved : Rows.FnExactBandNewSaid := over
end Go.Proofs.Ytbgmjcfnehnicaa.fnExactBandNew

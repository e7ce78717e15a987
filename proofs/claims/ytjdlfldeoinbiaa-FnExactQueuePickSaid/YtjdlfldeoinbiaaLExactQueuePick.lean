/-
  Whatever the queue, the law FnExactQueuePick returns true: the program's QueuePick returns what the reference's returns and leaves its argument as it was; no condition.
-/
import Derived.Test.YtjdlfldeoinbiaaQP4Base
import Derived.Test.YtjdlfldeoinbiaaQ7Base
import Derived.ProofKit
import Derived.OpenShut
import Derived.ShutString
import Derived.ChangeOld
import Derived.Below
import Derived.Deep.Slices
import Derived.Lib.SmallJoins
import Derived.Deep.RegionWith
namespace Go.Proofs.Ytjdlfldeoinbiaa.fnExactQueuePick
open Go.ChangeShapes Go.WideShapes Go.ChangeAt Go.RowKit
open Go.ChangeMaps (open_string shut_string)

set_option maxHeartbeats 1000000 in
theorem walk (fl cu ra : Int) (A : Option Addr) (n c : Nat) (on : Nat → Bool) (v x s : Nat → Int) (w : World) (hn : (n : Int) ≤ 9223372036854775807) (hA : Rs w w.heap.size A n 4 (ent on v x s)) :
    Calls Try.prog 6 #[.agg #[.int .i64 fl, .int .i64 cu, .int .i64 ra, .slice A n c]] w fun e w' => e = .returned (.bool true) ∧ Below w.heap.size w w' := by
  by_cases h1 : (1048576 : Int) - n < 0
  · have hs := szN_neg _ n h1
    go_enter Try.func6, Try.ntmps6
    go_wp2_with fail
    refine (szQueue_any fl cu ra 1048576 A n c (by omega) (by omega) hn _ w (by go_grown)).mono ?_
    rintro e w1 ⟨rfl, hb1⟩
    go_wp2_with fail
    go_ret
    exact ⟨rfl, hb1⟩
  have hs := szN_pos _ n h1
  have hA0 := Lib.hid hA
  clear hA
  go_enter Try.func6, Try.ntmps6
  go_wp2_with fail
  have kb := Bk.new w 24 #[.int .i64 fl, .int .i64 cu, .int .i64 ra, .slice A n c]
  refine (szQueue_any fl cu ra 1048576 A n c (by omega) (by omega) hn _ _ (Below.refl _ _)).mono ?_
  rintro e w1 ⟨rfl, hb1⟩
  have kb1 := Lib.hid (kb.below hb1 (by simp))
  have hz1 := hb1.size
  simp only [World.size_alloc] at hz1
  have hB1 : Below w.heap.size w w1 := ((Below.refl _ w).alloc (Nat.le_refl _) _).trans (hb1.mono (by simp))
  clear hb1 kb
  go_wp2_with (refine wpList_load_row rfl 24 _ rfl w.heap.size rfl 24 _ (0, 0) _ kb1.out Try.underlying24 rfl (by kernel_rfl) ?_)
  refine (toQueue_any fl cu ra A n c (by omega) on v x s _ w hB1 hA0.out).mono ?_
  rintro e w2 ⟨g1, rfl, hg1, hO1, hb2⟩
  have hB2 := hB1.trans (hb2.mono hB1.size)
  have hz2 := hb2.size
  have kb2 := Lib.hid (kb1.out.below hb2 (by omega))
  have hR1 := Lib.hid hO1.rs
  clear hb2 hO1
  go_wp2_with fail
  refine (sQueuePick_any fl cu ra _ n n (by omega) on v x s _ w2 (Below.refl _ _) hR1.out).mono ?_
  rintro e w3 ⟨rfl, hb3⟩
  have hB3 := hB2.trans (hb3.mono hB2.size)
  have hz3 := hb3.size
  have kb3 := Lib.hid (kb2.out.below hb3 (by omega))
  clear hb3 hR1 kb2
  go_wp2_with (refine wpList_load_row rfl 24 _ rfl w.heap.size rfl 24 _ (0, 0) _ kb3.out Try.underlying24 rfl (by kernel_rfl) ?_)
  refine (toQueue_any fl cu ra A n c (by omega) on v x s _ w hB3 hA0.out).mono ?_
  rintro e w4 ⟨g2, rfl, hg2, hO2, hb4⟩
  have hB4 := hB3.trans (hb4.mono hB3.size)
  have hz4 := hb4.size
  have kb4 := Lib.hid (kb3.out.below hb4 (by omega))
  have hR2 := Lib.hid hO2.rs
  clear hb4 hO2
  have kx := Bk.new w4 29 #[.int .i64 fl, .int .i64 cu, .int .i64 ra, .slice (some ⟨g2, 0, none⟩) n n]
  go_wp2_with fail
  refine (iQueuePick_any fl cu ra _ n n hn on v x s _ _ (Below.refl _ _) (hR2.out.at_ (by go_grown))).mono ?_
  rintro e w5 ⟨rfl, hb5⟩
  have kx5 := kx.below hb5 (by simp)
  have kb5 := (kb4.out.alloc _).below hb5 (by simp; omega)
  have hr5 := Lib.hid ((hR2.out.at_ (w := w4.alloc _) (by go_grown)).at_ hb5)
  have hB5 : Below w.heap.size w w5 := (hB4.alloc hB4.size _).trans (hb5.mono (by simp; omega))
  have hz5 := hb5.size
  simp only [World.size_alloc] at hz5
  obtain ⟨x0, x1, x2, x3⟩ := kx5.four
  obtain ⟨y0, y1, y2, y3⟩ := kb5.four
  have KX := Lib.hid kx5
  clear hb5 kx kx5 kb5 kb4 hR2 kb3
  go_wp2
  go_region_with (first
    | (go_at_call 9; refine (toQueue_any fl cu ra A n c (by omega) on v x s _ w ?_ hA0.out).mono ?_; exact hB5.drew; rintro e w6 ⟨g3, rfl, hg3, hO3, hb6⟩; have hb56 : Below w5.heap.size w5 w6 := (Below.refl _ w5).drew.trans hb6; have q1 := hr5.out.at_ hb56; have q3 := hO3.rs; obtain ⟨z0, z1, z2, z3⟩ := (KX.out.below hb56 (by omega)).four; have hB6 := hB5.trans (hb56.mono hB5.size); have Q1 := Lib.hid q1; have Q3 := Lib.hid q3; clear q1 q3 hO3 hb6)
    | (go_at_call 11; refine (eqQueue_t fl cu ra _ _ n _ _ (by omega) on v x s _ w6 ?_ Q1.out Q3.out).mono ?_; exact Below.refl _ _; rintro e w7 ⟨rfl, hb7⟩))
  all_goals
    go_wp2
    go_ret
    exact ⟨rfl, hB6.trans (hb7.mono hB6.size)⟩

theorem own : ownKnob Try.prog.godebug = none := by kernel_rfl
theorem laidOut : laidOutB Try.prog = true := by kernel_rfl
set_option maxRecDepth 100000 in
theorem lifted (os : Os) (started : os.Started) (H : Type) (enc : TypeId × Value → H) :
    ReturnsInHanded {} Try.checked os 6 .any (Rows.fnExactQueuePickSpec.pre6 enc Try.prog Try.f6 Rows.fnExactQueuePickRow.domain false) (Rows.fnExactQueuePickSpec.post enc Try.prog Try.f6 false true false false) := by
  refine returnsInHanded_of_change (C := Try.checked) own started (by kernel_rfl) Try.func6
    (ChangeSpec.witness6 (enc := enc) (C := Try.checked) false ⟨#[], #[.agg #[.int .i64 0, .int .i64 0, .int .i64 0, .slice none 0 0]], []⟩ 8 (by kernel_rfl) (by kernel_rfl) (by kernel_rfl) (by kernel_rfl)) ?_
  intro W base args ds gs before hval0 hW hcnd _
  have hval : ∀ (j : Nat) t v, Try.f6.params[j]? = some t → args[j]? = some v → Value.okWide Try.prog W .any base t v := hval0
  have hW' := hW
  obtain ⟨p, q, hA0, hV, rfl, hfz, hnd⟩ := hW
  have hA : DataW.TrodAll enc Try.prog W 0 (fun _ => true) true Try.f6.params.toList args.toList ds p := hA0
  rw [Try.params6] at hA hval
  obtain ⟨v0, vs0, d0, ds0, p0, q0, hargs, rfl, rfl, h0, r0⟩ := trodAll_cons hA
  obtain ⟨rfl, rfl, rfl⟩ := trodAll_nil r0
  obtain rfl : args = #[v0] := by cases args; simp_all
  obtain ⟨rfl, rfl⟩ := trodVars_none hV
  have k0 := h0
  have lt0 : ∀ x ∈ p0, x.block < W.heap.size := by obtain ⟨m, hm⟩ := k0; exact DataW.trod_lt m _ _ _ hm
  obtain ⟨flx0, cux0, rax0, Ax0, nx0, cx0, onx0, vx0, xx0, sx0, rfl, hnx0, hAx0⟩ := open_lawsQueue (hval 0 24 v0 rfl rfl) h0
  clear hA0 hval0
  refine (walk flx0 cux0 rax0 Ax0 nx0 cx0 onx0 vx0 xx0 sx0 W hnx0 hAx0).mono fun e W' ⟨he, bel⟩ => ?_
  subst he
  exact ⟨_, rfl, _, _, _, [], _, [], hW', trodAll_mk1 (shut_bool Try.underlying4 _), (trodAll_cons_mk (Below.trod laidOut (by kernel_rfl) (of_decide_eq_true (by kernel_rfl)) k0 bel lt0) trodAll_mk0), rfl, bel.frame _, fun h => by cases h⟩
theorem over : Rows.fnExactQueuePickRow.holds Try.pinned (OpenSpec.ofChange Rows.fnExactQueuePickSpec) :=
  OpenClaim.holds_of_wide 6 Try.f6 rfl rfl rfl rfl rfl rfl rfl ⟨rfl, rfl, rfl, rfl, rfl⟩ rfl rfl rfl rfl rfl (by kernel_rfl) Try.func6 (by kernel_rfl)
    (of_decide_eq_true (by kernel_rfl)) (by unfold Func.isWrapper; first | (rw [if_pos (by decide +kernel)]; kernel_rfl) | (rw [if_neg (by decide +kernel)]; exact ⟨rfl, rfl⟩))
    (fun os started H enc _ => lifted os started H enc)
theorem proved : Rows.FnExactQueuePickSaid := over
end Go.Proofs.Ytjdlfldeoinbiaa.fnExactQueuePick

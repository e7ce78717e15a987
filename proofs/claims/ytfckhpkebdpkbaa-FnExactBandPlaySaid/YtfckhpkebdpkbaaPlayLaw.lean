/-
  Whatever the band and the operations, the law FnExactBandPlay returns true on every schedule: the program's BandPlay, one goroutine an operation, each joined before the next is started, returns what the reference's returns, leaves its arguments as they were, and returns memory of its own; no condition.
-/
import Derived.Test.YtfckhpkebdpkbaaPlayD4
import Derived.Test.YtfckhpkebdpkbaaPlayL14
import Derived.ProofKit
import Derived.OpenShut
import Derived.ShutString
import Derived.ChangeOld
import Derived.Below
import Derived.Deep.Slices
import Derived.Lib.SmallJoins
import Derived.Conc.HoldsTime
namespace Go.Proofs.Ytfckhpkebdpkbaa.fnExactBandPlay
open Go Go.Conc Go.Proofs Go.Bp
open Go.ChangeShapes Go.WideShapes Go.ChangeAt Go.RowKit

theorem own : ownKnob Try.prog.godebug = none := by kernel_rfl
theorem laidOut : laidOutB Try.prog = true := by kernel_rfl
theorem mixed : Try.prog.follows .mixedOrders = true := by kernel_rfl
set_option maxRecDepth 100000 in
theorem lifted (os : Os) (started : os.Started) (H : Type) (enc : TypeId × Value → H) (F : Stop.Interp) :
    ReturnsInLeavingWide Rows.fnExactBandPlayRow.assume Try.checked os 3 .any (Rows.fnExactBandPlaySpec.pre6 enc Try.prog Try.f3 Rows.fnExactBandPlayRow.domain false) ((OpenSpec.ofChange Rows.fnExactBandPlaySpec).postWith enc Try.prog Try.f3 F (outsideKept [.timePasses]) false true false) := by
  refine returnsInLeavingWide_of_change_time (C := Try.checked) own started Try.func3
    (ChangeSpec.witness6c (enc := enc) (C := Try.checked) ⟨#[], #[.agg #[.int .i64 0, .int .i64 0, .int .i64 0, .slice none 0 0, .slice none 0 0], .slice none 0 0], []⟩ 8 (by kernel_rfl) (by kernel_rfl) (by kernel_rfl) (by kernel_rfl)) ?_
  intro W base args ds gs before hval0 hW _ _ _
  have hval : ∀ (j : Nat) t v, Try.f3.params[j]? = some t → args[j]? = some v → Value.okWide Try.prog W .any base t v := hval0
  have hW' := hW
  obtain ⟨p, q, hA0, hV, rfl, hfz, hnd⟩ := hW
  have hA : DataW.TrodAll enc Try.prog W 0 (fun _ => true) true Try.f3.params.toList args.toList ds p := hA0
  rw [Try.params3] at hA hval
  obtain ⟨v0, vs0, d0, ds0, p0, q0, hargs, rfl, rfl, h0, r0⟩ := trodAll_cons hA
  obtain ⟨v1, vs1, d1, ds1, p1, q1, rfl, rfl, rfl, h1, r1⟩ := trodAll_cons r0
  obtain ⟨rfl, rfl, rfl⟩ := trodAll_nil r1
  obtain rfl : args = #[v0, v1] := by cases args; simp_all
  obtain ⟨rfl, rfl⟩ := trodVars_none hV
  have k0 := h0
  have lt0 : ∀ x ∈ p0, x.block < W.heap.size := by obtain ⟨m, hm⟩ := k0; exact DataW.trod_lt m _ _ _ hm
  obtain ⟨bq, bp, bs, A, A', n, m, c, c', f, f', rfl, hn, hm, hA1, hA2⟩ := open_lawsBand (hval 0 25 v0 rfl rfl) h0
  have k1 := h1
  have lt1 : ∀ x ∈ p1, x.block < W.heap.size := by obtain ⟨m, hm⟩ := k1; exact DataW.trod_lt m _ _ _ hm
  obtain ⟨O, k, co, o1, o2, o3, rfl, hk, hO⟩ := open_lawsBandOps (hval 1 26 v1 rfl rfl) h1
  clear hA0 hval0
  obtain ⟨M, last, o, w', t', e1, e2, e3, v, e4, hp, g1, g2, g3, g4⟩ := law_ends (q := bq) (p := bp) (s := bs) (c := c) (c' := c') (co := co) mixed hn hm hk hA1 hA2 hO
  have hos : w'.os = W.os := hp.2.os
  refine ⟨M, last, o, w', t', e1, e2, e3, v, e4, ⟨?_, by rw [hos]; exact ⟨0, by simp⟩⟩, g1, g2, g3, g4⟩
  obtain ⟨rfl, hkp⟩ := hp
  have bel : Below W.heap.size W { w' with os := W.os, tape := W.tape } := ⟨rfl, rfl, hkp.output, hkp.size, fun j hj => hkp.block j hj (fun z => z)⟩
  have hpost : Rows.fnExactBandPlaySpec.post enc Try.prog Try.f3 false true false false W #[.agg #[.int .i64 bq, .int .i64 bp, .int .i64 bs, .slice A n c, .slice A' m c'], .slice O k co] (.bool true) { w' with os := W.os, tape := W.tape } :=
    ⟨_, _, _, [], _, [], hW', trodAll_mk1 (shut_bool Try.underlying4 _), (trodAll_cons_mk (Below.trod laidOut (by kernel_rfl) (of_decide_eq_true (by kernel_rfl)) k0 bel lt0) (trodAll_cons_mk (Below.trod laidOut (by kernel_rfl) (of_decide_eq_true (by kernel_rfl)) k1 bel lt1) trodAll_mk0)), rfl, bel.frame _, fun h => by cases h⟩
  obtain ⟨ds', gs', before', pr, pa, pv, x1, x2, x3, x4, x5, _⟩ := hpost
  exact ⟨ds', gs', before', pr, pa, pv, x1, x2.of_heap (by rfl), x3.of_heap (by rfl), x4.of_heap (by rfl), ⟨x5.1, x5.2.1, x5.2.2⟩, fun h => by cases h⟩
theorem over : Rows.fnExactBandPlayRow.holds Try.pinned (OpenSpec.ofChange Rows.fnExactBandPlaySpec) :=
  OpenClaim.holds_of_wide_leaving_time 3 Try.f3 rfl rfl rfl rfl rfl rfl rfl ⟨rfl, rfl, rfl, rfl, rfl⟩ rfl rfl rfl rfl rfl (by kernel_rfl) Try.func3 (by kernel_rfl)
    (of_decide_eq_true (by kernel_rfl)) (by unfold Func.isWrapper; first | (rw [if_pos (by decide +kernel)]; kernel_rfl) | (rw [if_neg (by decide +kernel)]; exact ⟨rfl, rfl⟩))
    (fun os started H enc _ F => lifted os started H enc F)
theorem proved : Rows.FnExactBandPlaySaid := over
end Go.Proofs.Ytfckhpkebdpkbaa.fnExactBandPlay

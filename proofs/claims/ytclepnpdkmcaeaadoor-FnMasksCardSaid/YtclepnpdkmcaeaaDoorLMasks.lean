/-
  Whatever the codes, the law FnMasks returns true: a set is read back from its text, what two sets have in common is in both, the first of a set is in it; the tables that its row lists are as the program's text lays them (the tied card).
-/
import Derived.Test.YtclepnpdkmcaeaaDoorM4Base
import Derived.Test.YtclepnpdkmcaeaaDoorMTables
import Derived.Test.YtclepnpdkmcaeaaDoorCards
import Derived.Test.YtclepnpdkmcaeaaDoorTie
import Derived.WalkKit
import Derived.ProofKit
import Derived.OpenShut
import Derived.Deep.DeepHandedRow
import Derived.ShutString
import Derived.ChangeOld
import Derived.Below
namespace Go.Proofs.YtclepnpdkmcaeaaDoor.fnMasks
open Go.ChangeShapes Go.WideShapes Go.ChangeAt Go.RowKit
open Go.ChangeMaps (open_string shut_string)
set_option maxRecDepth 100000 in
set_option maxHeartbeats 4000000 in
theorem walk (A : Option Addr) (n c : Nat) (z : Nat → Int) (A' : Option Addr) (n' c' : Nat) (z' : Nat → Int) (w : World) (hc : n ≤ c) (hc2 : (c : Int) ≤ 9223372036854775807) (hA : Rw w w.heap.size A n (fun i => .int .u8 (z i))) (hz : ∀ i, i < n → 0 ≤ z i ∧ z i ≤ 255)
    (hc' : n' ≤ c') (hc2' : (c' : Int) ≤ 9223372036854775807) (hA' : Rw w w.heap.size A' n' (fun i => .int .u8 (z' i))) (hz' : ∀ i, i < n' → 0 ≤ z' i ∧ z' i ≤ 255) :
    Calls Tryd.prog 5 #[.slice A n c, .slice A' n' c'] w fun e w' => e = .returned (.bool true) ∧ Below w.heap.size w w' := by
  by_cases h1 : (n : Int) > 1048576
  · go_enter Tryd.func5, Tryd.ntmps5
    go_wp2
    go_ret
    exact ⟨rfl, Below.refl _ _⟩
  by_cases h2 : (n' : Int) > 1048576
  · go_enter Tryd.func5, Tryd.ntmps5
    go_wp2
    go_ret
    exact ⟨rfl, Below.refl _ _⟩
  have HA := Lib.hid hA
  have HZ := Lib.hid hz
  have HA' := Lib.hid hA'
  have HZ' := Lib.hid hz'
  have HB0 : Hid (Below w.heap.size w w) := Below.refl _ _
  clear hA hz hA' hz'
  go_enter Tryd.func5, Tryd.ntmps5
  go_wp2_with fail
  refine (drawMaskAnd_any A n c (by omega) hc hc2 z w w (Below.refl _ _) HA.out HZ.out).mono ?_
  rintro e w1 ⟨a, b, rfl, a0, a1, b0, b1, hb1⟩
  obtain ⟨q1, q2⟩ := and_facts a b a0 a1 b0 b1
  obtain ⟨r1, r2, r3, r4⟩ := read_facts a a0 a1
  have X1 : Hid (∀ x : World, Calls Tryd.prog 11 #[.int .i64 (a), .int .i64 (b)] x fun e w' => e = .returned (.int .i64 (maskAnd a b)) ∧ x = w') := fun x => iMaskAnd_any a b x
  have X2 : Hid (∀ x : World, Calls Tryd.prog 11 #[.int .i64 (b), .int .i64 (a)] x fun e w' => e = .returned (.int .i64 (maskAnd a b)) ∧ x = w') := fun x => by rw [← q2]; exact iMaskAnd_any b a x
  have X3 : Hid (∀ x : World, Calls Tryd.prog 12 #[.int .i64 (a), .int .i64 (b)] x fun e w' => e = .returned (.int .i64 (maskAnd a b)) ∧ x = w') := fun x => sMaskAnd_any a b x
  have X4 : Hid (∀ x : World, Below w.heap.size w x → Calls Tryd.prog 13 #[.int .i64 (maskAnd a b)] x fun e w' => e = .returned (.int .i64 (maskCount (maskAnd a b))) ∧ Below w.heap.size w w') := fun x hx => iMaskCount_any _ x w hx
  have X5 : Hid (∀ x : World, Below w.heap.size w x → Calls Tryd.prog 13 #[.int .i64 (a)] x fun e w' => e = .returned (.int .i64 (maskCount a)) ∧ Below w.heap.size w w') := fun x hx => iMaskCount_any _ x w hx
  have X6 : Hid (∀ x : World, Below w.heap.size w x → Calls Tryd.prog 7 #[.int .i64 (a)] x fun e w' => e = .returned (.string (maskText a)) ∧ Below w.heap.size w w') := fun x hx => iMaskText_any a x w hx
  have X7 : Hid (∀ x : World, Below w.heap.size w x → Calls Tryd.prog 9 #[.string (maskText a)] x fun e w' => e = .returned (.tuple #[.int .i64 (maskRead (maskText a)), .bool (decide (0 < maskRead (maskText a)))]) ∧ Below w.heap.size w w') := fun x hx => iMaskRead_any _ x w hx
  have X8 : Hid (∀ x : World, Calls Tryd.prog 14 #[.int .i64 (a)] x fun e w' => e = .returned (.bool (inR a 0 15)) ∧ x = w') := fun x => sMaskOk_any a x
  have X9 : Hid (∀ x : World, Below w.heap.size w x → Calls Tryd.prog 15 #[.int .i64 (a)] x fun e w' => e = .returned (.int .i64 (maskFirst a)) ∧ Below w.heap.size w w') := fun x hx => iMaskFirst_any a x w hx
  have X10 : Hid (∀ x : World, Calls Tryd.prog 16 #[.int .i64 (a), .int .i64 (maskFirst a)] x fun e w' => e = .returned (.bool (maskHas a (maskFirst a))) ∧ x = w') := fun x => iMaskHas_any _ _ x
  have hq1 : decide (maskCount (maskAnd a b) > maskCount a) = false := by simp; omega
  generalize maskCount (maskAnd a b) = cm at *
  generalize maskCount a = ca at *
  generalize maskAnd a b = m at *
  generalize maskRead (maskText a) = R at *
  generalize maskText a = T at *
  generalize maskHas a (maskFirst a) = hh at *
  generalize maskFirst a = f at *
  clear q1 q2 HA HZ HB0
  by_cases hR : 0 < R
  · obtain rfl : R = a := r2 hR
    have hh1 := r4 hR
    have k1 : decide (0 < R) = true := by simpa using hR
    rw [k1] at r1 r3 X7
    have k2 : inR R 0 15 = true := by simpa using r1.symm
    rw [k2] at r3 X8
    have k3 : decide (0 ≤ f) = true := by simpa using r3
    subst hh1
    clear r1 r2 r3 r4
    go_wp2_with fail
    refine (X1.out _).mono ?_
    rintro e w9 ⟨rfl, rfl⟩
    go_wp2_with fail
    refine (X3.out _).mono ?_
    rintro e w9 ⟨rfl, rfl⟩
    go_wp2_with fail
    refine (X4.out _ hb1).mono ?_
    rintro e y1 ⟨rfl, hc1⟩
    go_wp2_with fail
    refine (X5.out _ hc1).mono ?_
    rintro e y2 ⟨rfl, hc2⟩
    go_wp2_with fail
    refine (X2.out _).mono ?_
    rintro e w9 ⟨rfl, rfl⟩
    go_wp2_with fail
    refine (X6.out _ hc2).mono ?_
    rintro e y3 ⟨rfl, hc3⟩
    go_wp2_with fail
    refine (X7.out _ hc3).mono ?_
    rintro e y4 ⟨rfl, hc4⟩
    go_wp2_with fail
    refine (X8.out _).mono ?_
    rintro e w9 ⟨rfl, rfl⟩
    go_wp2_with fail
    refine (X9.out _ hc4).mono ?_
    rintro e y5 ⟨rfl, hc5⟩
    go_wp2_with fail
    refine (X10.out _).mono ?_
    rintro e w9 ⟨rfl, rfl⟩
    go_wp2_with fail
    refine (drawMaskRead_any A' n' c' (by omega) hc' hc2' z' _ w hc5 HA'.out HZ'.out).mono ?_
    rintro e w10 ⟨t, rfl, hbt⟩
    have hb10 : Below w.heap.size w w10 := hc5.trans (hbt.mono hc5.size)
    clear hbt X1 X2 X3 X4 X5 X6 X7 X8 X9 X10
    have Y1 : Hid (∀ x : World, Below w.heap.size w x → Calls Tryd.prog 9 #[.string t] x fun e w' => e = .returned (.tuple #[.int .i64 (maskRead t), .bool (decide (0 < maskRead t))]) ∧ Below w.heap.size w w') := fun x hx => iMaskRead_any _ x w hx
    have Y2 : Hid (∀ x : World, Below w.heap.size w x → Calls Tryd.prog 8 #[.string t] x fun e w' => e = .returned (.tuple #[.int .i64 (maskRead t), .bool (decide (0 < maskRead t))]) ∧ Below w.heap.size w w') := fun x hx => sMaskRead_any _ x w hx
    have Y3 : Hid (∀ x : World, Below w.heap.size w x → Calls Tryd.prog 7 #[.int .i64 (maskRead t)] x fun e w' => e = .returned (.string (maskText (maskRead t))) ∧ Below w.heap.size w w') := fun x hx => iMaskText_any _ x w hx
    by_cases hR2 : 0 < maskRead t
    · have hT2 : maskText (maskRead t) = t := readUp_text t 15 1 hR2 (by omega)
      have j1 : decide (0 < maskRead t) = true := by simpa using hR2
      rw [j1] at Y1 Y2
      rw [hT2] at Y3
      clear j1 hT2 hR2
      generalize maskRead t = R2 at *
      have je : (t.toList == t.toList) = true := by simp
      go_wp2_with fail
      refine (Y1.out _ hb10).mono ?_
      rintro e v1 ⟨rfl, g1⟩
      go_wp2_with fail
      refine (Y2.out _ g1).mono ?_
      rintro e v2 ⟨rfl, g2⟩
      go_wp2_with fail
      refine (Y3.out _ g2).mono ?_
      rintro e v3 ⟨rfl, g3⟩
      go_wp2
      go_ret
      exact ⟨rfl, g3⟩
    · have j1 : decide (0 < maskRead t) = false := by simpa using hR2
      rw [j1] at Y1 Y2
      clear j1 hR2 Y3
      generalize maskRead t = R2 at *
      go_wp2_with fail
      refine (Y1.out _ hb10).mono ?_
      rintro e v1 ⟨rfl, g1⟩
      go_wp2_with fail
      refine (Y2.out _ g1).mono ?_
      rintro e v2 ⟨rfl, g2⟩
      go_wp2
      go_ret
      exact ⟨rfl, g2⟩
  · have k1 : decide (0 < R) = false := by simpa using hR
    rw [k1] at r1 X7
    have k3 : decide (0 ≤ f) = false := by rw [r3, ← r1]
    by_cases ha : 0 < a
    · have k2 : inR a 0 15 = false := by simpa [ha] using r1.symm
      have k4 : decide (0 < a) = true := by simpa using ha
      rw [k2] at X8
      clear r1 r2 r3 r4
      go_wp2_with fail
      refine (X1.out _).mono ?_
      rintro e w9 ⟨rfl, rfl⟩
      go_wp2_with fail
      refine (X3.out _).mono ?_
      rintro e w9 ⟨rfl, rfl⟩
      go_wp2_with fail
      refine (X4.out _ hb1).mono ?_
      rintro e y1 ⟨rfl, hc1⟩
      go_wp2_with fail
      refine (X5.out _ hc1).mono ?_
      rintro e y2 ⟨rfl, hc2⟩
      go_wp2_with fail
      refine (X2.out _).mono ?_
      rintro e w9 ⟨rfl, rfl⟩
      go_wp2_with fail
      refine (X6.out _ hc2).mono ?_
      rintro e y3 ⟨rfl, hc3⟩
      go_wp2_with fail
      refine (X7.out _ hc3).mono ?_
      rintro e y4 ⟨rfl, hc4⟩
      go_wp2_with fail
      refine (X8.out _).mono ?_
      rintro e w9 ⟨rfl, rfl⟩
      go_wp2_with fail
      refine (X9.out _ hc4).mono ?_
      rintro e y5 ⟨rfl, hc5⟩
      go_wp2_with fail
      refine (drawMaskRead_any A' n' c' (by omega) hc' hc2' z' _ w hc5 HA'.out HZ'.out).mono ?_
      rintro e w10 ⟨t, rfl, hbt⟩
      have hb10 : Below w.heap.size w w10 := hc5.trans (hbt.mono hc5.size)
      clear hbt X1 X2 X3 X4 X5 X6 X7 X8 X9 X10
      have Y1 : Hid (∀ x : World, Below w.heap.size w x → Calls Tryd.prog 9 #[.string t] x fun e w' => e = .returned (.tuple #[.int .i64 (maskRead t), .bool (decide (0 < maskRead t))]) ∧ Below w.heap.size w w') := fun x hx => iMaskRead_any _ x w hx
      have Y2 : Hid (∀ x : World, Below w.heap.size w x → Calls Tryd.prog 8 #[.string t] x fun e w' => e = .returned (.tuple #[.int .i64 (maskRead t), .bool (decide (0 < maskRead t))]) ∧ Below w.heap.size w w') := fun x hx => sMaskRead_any _ x w hx
      have Y3 : Hid (∀ x : World, Below w.heap.size w x → Calls Tryd.prog 7 #[.int .i64 (maskRead t)] x fun e w' => e = .returned (.string (maskText (maskRead t))) ∧ Below w.heap.size w w') := fun x hx => iMaskText_any _ x w hx
      by_cases hR2 : 0 < maskRead t
      · have hT2 : maskText (maskRead t) = t := readUp_text t 15 1 hR2 (by omega)
        have j1 : decide (0 < maskRead t) = true := by simpa using hR2
        rw [j1] at Y1 Y2
        rw [hT2] at Y3
        clear j1 hT2 hR2
        generalize maskRead t = R2 at *
        have je : (t.toList == t.toList) = true := by simp
        go_wp2_with fail
        refine (Y1.out _ hb10).mono ?_
        rintro e v1 ⟨rfl, g1⟩
        go_wp2_with fail
        refine (Y2.out _ g1).mono ?_
        rintro e v2 ⟨rfl, g2⟩
        go_wp2_with fail
        refine (Y3.out _ g2).mono ?_
        rintro e v3 ⟨rfl, g3⟩
        go_wp2
        go_ret
        exact ⟨rfl, g3⟩
      · have j1 : decide (0 < maskRead t) = false := by simpa using hR2
        rw [j1] at Y1 Y2
        clear j1 hR2 Y3
        generalize maskRead t = R2 at *
        go_wp2_with fail
        refine (Y1.out _ hb10).mono ?_
        rintro e v1 ⟨rfl, g1⟩
        go_wp2_with fail
        refine (Y2.out _ g1).mono ?_
        rintro e v2 ⟨rfl, g2⟩
        go_wp2
        go_ret
        exact ⟨rfl, g2⟩
    · have k4 : decide (0 < a) = false := by simpa using ha
      clear r1 r2 r3 r4
      go_wp2_with fail
      refine (X1.out _).mono ?_
      rintro e w9 ⟨rfl, rfl⟩
      go_wp2_with fail
      refine (X3.out _).mono ?_
      rintro e w9 ⟨rfl, rfl⟩
      go_wp2_with fail
      refine (X4.out _ hb1).mono ?_
      rintro e y1 ⟨rfl, hc1⟩
      go_wp2_with fail
      refine (X5.out _ hc1).mono ?_
      rintro e y2 ⟨rfl, hc2⟩
      go_wp2_with fail
      refine (X2.out _).mono ?_
      rintro e w9 ⟨rfl, rfl⟩
      go_wp2_with fail
      refine (X6.out _ hc2).mono ?_
      rintro e y3 ⟨rfl, hc3⟩
      go_wp2_with fail
      refine (X7.out _ hc3).mono ?_
      rintro e y4 ⟨rfl, hc4⟩
      go_wp2_with fail
      refine (X9.out _ hc4).mono ?_
      rintro e y5 ⟨rfl, hc5⟩
      go_wp2_with fail
      refine (drawMaskRead_any A' n' c' (by omega) hc' hc2' z' _ w hc5 HA'.out HZ'.out).mono ?_
      rintro e w10 ⟨t, rfl, hbt⟩
      have hb10 : Below w.heap.size w w10 := hc5.trans (hbt.mono hc5.size)
      clear hbt X1 X2 X3 X4 X5 X6 X7 X8 X9 X10
      have Y1 : Hid (∀ x : World, Below w.heap.size w x → Calls Tryd.prog 9 #[.string t] x fun e w' => e = .returned (.tuple #[.int .i64 (maskRead t), .bool (decide (0 < maskRead t))]) ∧ Below w.heap.size w w') := fun x hx => iMaskRead_any _ x w hx
      have Y2 : Hid (∀ x : World, Below w.heap.size w x → Calls Tryd.prog 8 #[.string t] x fun e w' => e = .returned (.tuple #[.int .i64 (maskRead t), .bool (decide (0 < maskRead t))]) ∧ Below w.heap.size w w') := fun x hx => sMaskRead_any _ x w hx
      have Y3 : Hid (∀ x : World, Below w.heap.size w x → Calls Tryd.prog 7 #[.int .i64 (maskRead t)] x fun e w' => e = .returned (.string (maskText (maskRead t))) ∧ Below w.heap.size w w') := fun x hx => iMaskText_any _ x w hx
      by_cases hR2 : 0 < maskRead t
      · have hT2 : maskText (maskRead t) = t := readUp_text t 15 1 hR2 (by omega)
        have j1 : decide (0 < maskRead t) = true := by simpa using hR2
        rw [j1] at Y1 Y2
        rw [hT2] at Y3
        clear j1 hT2 hR2
        generalize maskRead t = R2 at *
        have je : (t.toList == t.toList) = true := by simp
        go_wp2_with fail
        refine (Y1.out _ hb10).mono ?_
        rintro e v1 ⟨rfl, g1⟩
        go_wp2_with fail
        refine (Y2.out _ g1).mono ?_
        rintro e v2 ⟨rfl, g2⟩
        go_wp2_with fail
        refine (Y3.out _ g2).mono ?_
        rintro e v3 ⟨rfl, g3⟩
        go_wp2
        go_ret
        exact ⟨rfl, g3⟩
      · have j1 : decide (0 < maskRead t) = false := by simpa using hR2
        rw [j1] at Y1 Y2
        clear j1 hR2 Y3
        generalize maskRead t = R2 at *
        go_wp2_with fail
        refine (Y1.out _ hb10).mono ?_
        rintro e v1 ⟨rfl, g1⟩
        go_wp2_with fail
        refine (Y2.out _ g1).mono ?_
        rintro e v2 ⟨rfl, g2⟩
        go_wp2
        go_ret
        exact ⟨rfl, g2⟩
theorem own : ownKnob Tryd.prog.godebug = none := by kernel_rfl
theorem laidOut : laidOutB Tryd.prog = true := by kernel_rfl
set_option maxRecDepth 100000 in
theorem contract (H : Type) (enc : TypeId × Value → H) (W : World) (base : Nat) (args : Array Value) (ds gs : List (DataW H)) (before : List MemPlace)
    (hval : ∀ (j : Nat) t v, Tryd.f5.params[j]? = some t → args[j]? = some v → Value.okWide Tryd.prog W .any base t v)
    (hW : DataW.Whole enc Tryd.prog Tryd.f5.params.toList Rows.fnMasksSpec.vars false W args.toList ds gs before) :
    Calls Tryd.prog 5 args W fun e W' => ∃ v, e = .returned v ∧ Rows.fnMasksSpec.post enc Tryd.prog Tryd.f5 false true false false W args v W' := by
  have hW' := hW
  obtain ⟨p, q, hA0, hV, rfl, hfz, hnd⟩ := hW
  have hA : DataW.TrodAll enc Tryd.prog W 0 (fun _ => true) true Tryd.f5.params.toList args.toList ds p := hA0
  rw [Tryd.params5] at hA hval
  obtain ⟨v0, vs0, d0, ds0, p0, q0, hargs, rfl, rfl, h0, r0⟩ := trodAll_cons hA
  obtain ⟨v1, vs1, d1, ds1, p1, q1, rfl, rfl, rfl, h1, r1⟩ := trodAll_cons r0
  obtain ⟨rfl, rfl, rfl⟩ := trodAll_nil r1
  obtain rfl : args = #[v0, v1] := by cases args; simp_all
  obtain ⟨rfl, rfl⟩ := trodVars_none hV
  have k0 := h0
  have lt0 : ∀ x ∈ p0, x.block < W.heap.size := by obtain ⟨m, hm⟩ := k0; exact DataW.trod_lt m _ _ _ hm
  obtain ⟨Ax0, nx0, cx0, zx0, rfl, hcx0, hc2x0, hAx0, hzx0⟩ := open_lawsBytes (hval 0 27 v0 rfl rfl) h0
  have k1 := h1
  have lt1 : ∀ x ∈ p1, x.block < W.heap.size := by obtain ⟨m, hm⟩ := k1; exact DataW.trod_lt m _ _ _ hm
  obtain ⟨Ax1, nx1, cx1, zx1, rfl, hcx1, hc2x1, hAx1, hzx1⟩ := open_lawsBytes (hval 1 27 v1 rfl rfl) h1
  clear hA0
  refine (walk Ax0 nx0 cx0 zx0 Ax1 nx1 cx1 zx1 W hcx0 hc2x0 hAx0 hzx0 hcx1 hc2x1 hAx1 hzx1).mono fun e W' ⟨he, bel⟩ => ?_
  subst he
  exact ⟨_, rfl, _, _, _, [], _, [], hW', trodAll_mk1 (shut_bool Tryd.underlying4 _), (trodAll_cons_mk (Below.trod laidOut (by kernel_rfl) (of_decide_eq_true (by kernel_rfl)) k0 bel lt0) (trodAll_cons_mk (Below.trod laidOut (by kernel_rfl) (of_decide_eq_true (by kernel_rfl)) k1 bel lt1) trodAll_mk0)), rfl, bel.frame _, fun h => by cases h⟩
noncomputable def laidWorld (os : Os) : World :=
  { World.holding Tryd.prog os ⟨#[], #[], []⟩ with heap := ((World.holding Tryd.prog os ⟨#[], #[], []⟩).heap.modify 0 (fun | .cells _ t frozen => .cells pow10C t frozen | o => o)).modify 2 (fun | .cells _ t frozen => .cells tab32C t frozen | o => o) |>.modify 3 (fun | .cells _ t frozen => .cells tab64C t frozen | o => o) }
theorem laid_met (os : Os) : laidMet Tryd.prog Rows.fnMasksRow.laid ((laidWorld os).forCall (fun _ _ => 0) ⟨#[], #[.slice none 0 0, .slice none 0 0], []⟩).memory :=
  laidMet_of_run' 8 (by kernel_rfl) (by kernel_rfl)
theorem reads (os : Os) {H : Type} (enc : TypeId × Value → H) : ∃ places, DataW.whole enc Tryd.prog ((laidWorld os).forCall (fun _ _ => 0) ⟨#[], #[.slice none 0 0, .slice none 0 0], []⟩).memory Tryd.f5.params.toList Rows.fnMasksSpec.vars false (#[.slice none 0 0, .slice none 0 0] : Array Value).toList 8 = some ([.nil, .nil], [], places) :=
  ⟨[], by kernel_rfl⟩
set_option maxRecDepth 100000 in
theorem lifted (os : Os) (started : os.Started) (H : Type) (enc : TypeId × Value → H) (F : Stop.Interp) :
    ReturnsInHanded {} Tryd.checked os 5 .any ((OpenSpec.ofChange Rows.fnMasksSpec).preRow enc Tryd.prog Tryd.f5 Rows.fnMasksRow.domain false Rows.fnMasksRow.laid) (((OpenSpec.ofChange Rows.fnMasksSpec).at F).post enc Tryd.prog Tryd.f5 false true false false) := by
  obtain ⟨places, hx⟩ := reads os enc
  refine returnsInHanded_of_row (C := Tryd.checked) (s := OpenSpec.ofChange Rows.fnMasksSpec) own started (by kernel_rfl) Tryd.func5
    (witness_row_at (enc := enc) (C := Tryd.checked) false (laidWorld os) #[.slice none 0 0, .slice none 0 0] rfl (by kernel_rfl) (by kernel_rfl) (by kernel_rfl)
      (OpenSpec.preRow_of_cond 8 hx (by kernel_rfl) (fun k hk => by cases hk) (by kernel_rfl) (laid_met os))) ?_
  intro W base args ds gs before hval hW _ _ _ _ _ _
  exact contract H enc W base args ds gs before hval hW
theorem said : Rows.FnMasksSaid :=
  OpenClaim.holds_of_cond 5 Tryd.f5 rfl rfl rfl rfl rfl rfl rfl ⟨rfl, rfl, rfl, rfl, rfl⟩ rfl rfl rfl rfl rfl (by kernel_rfl) Tryd.func5 (by kernel_rfl)
    (of_decide_eq_true (by kernel_rfl)) (by unfold Func.isWrapper; first | (rw [if_pos (by decide +kernel)]; kernel_rfl) | (rw [if_neg (by decide +kernel)]; exact ⟨rfl, rfl⟩))
    (fun os started H enc _ F => by rw [OpenClaim.pre_eq_preRow]; exact lifted os started H enc F)
theorem plain (f : FuncId) (fn : Func) (hf : Tryd.pinned.checked.prog.funcNamed "loop.example/stint/laws.FnMasks" = some f) (hfn : Tryd.pinned.checked.prog.funcs[f]? = some fn) :
    false = Tryd.pinned.checked.prog.looks [] ∧ ∀ (j : Nat) t, fn.params[j]? = some t → Tryd.pinned.checked.prog.wantsStandIn t = false := by
  obtain rfl : f = 5 := Option.some.inj ((show Tryd.prog.funcNamed "loop.example/stint/laws.FnMasks" = some 5 by kernel_rfl).symm.trans hf) |>.symm
  obtain rfl : fn = Tryd.f5 := (Option.some.inj (Tryd.func5.symm.trans hfn)).symm
  refine ⟨by kernel_rfl, fun j t ht => ?_⟩
  rw [Tryd.params5] at ht
  obtain rfl : t = 27 := by simpa using Array.mem_of_getElem? ht
  exact (show Tryd.prog.wantsStandIn 27 = false by kernel_rfl)
theorem proved : Rows.FnMasksCardSaid :=
  Claim7.holds_tied_plain_at .later [] _ _ _ _ said (fun _ h => by cases h) (by kernel_rfl) (fun _ h => by cases h) fnMasks_row_tie rfl ⟨rfl, rfl⟩ (by kernel_rfl) rfl plain (by kernel_rfl)
end Go.Proofs.YtclepnpdkmcaeaaDoor.fnMasks

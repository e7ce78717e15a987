/-
  Whatever the code, the law FnBandFree returns true: whoever could still spend gets something; no condition.
-/
import Derived.Test.YtbgmjcfnehnicaaT7Base
import Derived.Test.YtbgmjcfnehnicaaD2Base
import Derived.Test.YtbgmjcfnehnicaaB5Base
import Derived.ProofKit
import Derived.OpenShut
import Derived.ShutString
import Derived.ChangeOld
import Derived.Below
import Derived.Deep.Slices
import Derived.Lib.SmallJoins
import Derived.Deep.RegionWith
import Derived.Deep.DeepCutAuto
namespace Go.Proofs.Ytbgmjcfnehnicaa.fnBandFree
open Go.ChangeShapes Go.WideShapes Go.ChangeAt Go.RowKit
open Go.ChangeMaps (open_string shut_string)

/-- The law of taking, plainly: what the code of BandDo is, what the mark is, and what is free afterwards. -/
theorem free_bad {q p s : Int} {n m : Nat} {f : Nat → Int} {f' : Nat → Bool} {cpu : Int} (h : bandOk q p s n m f f' = false) : bandFree q p s n m f f' cpu = 0 := by
  unfold bandFree
  rw [h]
  rfl
theorem free_out {q p s : Int} {n m : Nat} {f : Nat → Int} {f' : Nat → Bool} {cpu : Int} (h : inR cpu 0 ((n : Int) - 1) = false) : bandFree q p s n m f f' cpu = 0 := by
  unfold bandFree
  rw [h, Bool.and_false]
  rfl
theorem free_in {q p s : Int} {n m : Nat} {f : Nat → Int} {f' : Nat → Bool} {cpu : Int} (h : bandOk q p s n m f f' = true) (hc : inR cpu 0 ((n : Int) - 1) = true) : bandFree q p s n m f f' cpu = p + f cpu.toNat := by
  unfold bandFree
  rw [h, hc]
  rfl
theorem take_law {q : Int} {n : Nat} {b : BSt} {cpu : Int} (h : bOk q n b = true) (hc : inR cpu 0 ((n : Int) - 1) = true) :
    ((bandStep q n 1 cpu 0 b).2 == 1) = false ∧ ((bandStep q n 1 cpu 0 b).2 == 2) = (b.p + b.f cpu.toNat == 0) ∧ (bandStep q n 1 cpu 0 b).1.d cpu.toNat = (b.p + b.f cpu.toNat == 0) ∧
      bandFree q (bandStep q n 1 cpu 0 b).1.p (bandStep q n 1 cpu 0 b).1.s n n (bandStep q n 1 cpu 0 b).1.f (bandStep q n 1 cpu 0 b).1.d cpu = b.p + b.f cpu.toNat := by
  have h1 : bOk q n (bandStep q n 1 cpu 0 b).1 = true := bandStep_ok h
  rw [free_in h1 hc]
  unfold bOk at h
  obtain ⟨a1, a2, a3, a4, _, a5, a6, a7, a8, a9, a10⟩ := bandOk_facts _ _ _ _ _ _ _ h
  obtain ⟨g1, g2⟩ := inR_iff.1 hc
  obtain ⟨l1, l2, l3⟩ := a9 cpu.toNat (by omega)
  by_cases t1 : 0 < b.f cpu.toNat
  · rw [step_take1 hc t1]
    have hd : b.d cpu.toNat = false := by
      cases e : b.d cpu.toNat
      · rfl
      · have := (l3 e).1
        omega
    have hz : (b.p + b.f cpu.toNat == 0) = false := by simp; omega
    rw [hz, hd]
    exact ⟨rfl, rfl, rfl, rfl⟩
  by_cases t2 : b.p = 0
  · rw [step_take2 hc t1 t2]
    have hz : (b.p + b.f cpu.toNat == 0) = true := by simp; omega
    rw [hz]
    exact ⟨rfl, rfl, by simp [setAt], rfl⟩
  · rw [step_take3 hc t1 t2]
    have hd : b.d cpu.toNat = false := by
      cases e : b.d cpu.toNat
      · rfl
      · exact absurd (l3 e).2 t2
    have hz : (b.p + b.f cpu.toNat == 0) = false := by simp; omega
    rw [hz, hd]
    refine ⟨rfl, rfl, rfl, ?_⟩
    simp only [setAt, if_pos]
    omega
/-- What BandDo leaves, opened. -/
theorem openDo {ok : Bool} {q : Int} {n : Nat} {r : BSt × Int} {w : World} {e : Ending} {w' : World} (h : DoPost ok q n r w e w') :
    ∃ (Q P S : Int) (N cl cd : Nat) (Al Ad : Option Addr), e = .returned (.tuple #[.agg #[.int .i64 Q, .int .i64 P, .int .i64 S, .slice Al N cl, .slice Ad N cd], .int .i64 (doC ok r)]) ∧ Below w.heap.size w w' ∧
      (ok = true → 0 < n → Q = q ∧ P = r.1.p ∧ S = r.1.s ∧ N = n ∧ ∃ gl gd, Al = some ⟨gl, 0, none⟩ ∧ Ad = some ⟨gd, 0, none⟩ ∧ OwnV w' gl n (fun i => .int .i64 (r.1.f i)) ∧ OwnV w' gd n (fun i => .bool (r.1.d i))) := by
  obtain ⟨Al, cl, Ad, cd, rfl, o1, o2, o3, hb⟩ := h
  refine ⟨_, _, _, _, cl, cd, Al, Ad, rfl, hb, fun h hn => ?_⟩
  subst h
  obtain ⟨gl, rfl, _, s2⟩ := o1 (show 0 < n from hn)
  obtain ⟨gd, rfl, _, s4⟩ := o2 (show 0 < n from hn)
  exact ⟨rfl, rfl, rfl, rfl, gl, gd, rfl, rfl, s2, s4⟩
/-- The code of taking tells whether the processor and the band are good. -/
theorem code_law {q p s : Int} {n m : Nat} {f : Nat → Int} {f' : Nat → Bool} {cpu : Int} :
    (doC (bandOk q p s n m f f') (bandStep q n 1 cpu 0 ⟨p, s, f, f'⟩) = 1 → bandFree q p s n m f f' cpu = 0) ∧
    (doC (bandOk q p s n m f f') (bandStep q n 1 cpu 0 ⟨p, s, f, f'⟩) ≠ 1 → m = n ∧ bandOk q p s n m f f' = true ∧ inR cpu 0 ((n : Int) - 1) = true) := by
  cases hok : bandOk q p s n m f f'
  · exact ⟨fun _ => free_bad hok, fun h => absurd rfl h⟩
  · have hm : m = n := (bandOk_facts _ _ _ _ _ _ _ hok).2.2.2.2.1
    subst hm
    show ((bandStep q m 1 cpu 0 ⟨p, s, f, f'⟩).2 = 1 → _) ∧ ((bandStep q m 1 cpu 0 ⟨p, s, f, f'⟩).2 ≠ 1 → _)
    cases hc : inR cpu 0 ((m : Int) - 1)
    · rw [step_out (by decide) hc]
      exact ⟨fun _ => free_out hc, fun h => absurd rfl h⟩
    · have h1 := (take_law (b := ⟨p, s, f, f'⟩) (show bOk q m ⟨p, s, f, f'⟩ = true from hok) hc).1
      exact ⟨fun h => (by rw [h] at h1; cases h1), fun _ => ⟨rfl, rfl, rfl⟩⟩
set_option maxRecDepth 100000 in
set_option maxHeartbeats 4000000 in
theorem walk (A : Option Addr) (n c : Nat) (z : Nat → Int) (w : World) (hc : n ≤ c) (hc2 : (c : Int) ≤ 9223372036854775807) (hA : Rw w w.heap.size A n (fun i => .int .u8 (z i))) (hz : ∀ i, i < n → 0 ≤ z i ∧ z i ≤ 255) :
    Calls Try.prog 7 #[.slice A n c] w fun e w' => e = .returned (.bool true) ∧ Below w.heap.size w w' := by
  by_cases h1 : (n : Int) > 1048576
  · go_enter Try.func7, Try.ntmps7
    go_wp2
    go_ret
    exact ⟨rfl, Below.refl _ _⟩
  have HA := Lib.hid hA
  have HZ := Lib.hid hz
  clear hA hz
  go_enter Try.func7, Try.ntmps7
  go_wp2_with fail
  refine (drawBandFree_any A n c (by omega) hc hc2 z w w (Below.refl _ _) HA.out HZ.out).mono ?_
  rintro e w1 ⟨q, P, s, cpu, n1, m1, c1, c1', gl, ol, gd, od, f, f', rfl, u0, u1, hn1, hm1, hl, hd, hb1⟩
  have HB1 := Lib.hid hb1
  have hz1 := hb1.size
  have HL1 := Lib.hid hl.rw_
  have HD1 := Lib.hid hd.rw_
  have kb := Bk.new w1 25 #[.int .i64 q, .int .i64 P, .int .i64 s, .slice (some ⟨gl, ol, none⟩) n1 c1, .slice (some ⟨gd, od, none⟩) m1 c1']
  have KB := Lib.hid kb
  clear HA HZ hb1 hl hd hc hc2 h1 kb
  go_wp2_with (refine wpList_load_row rfl 25 _ rfl w1.heap.size rfl 25 _ (0, 0) _ KB.out Try.underlying25 rfl (by kernel_rfl) ?_)
  have hx1 : Below w1.heap.size w1 (w1.alloc (.cells #[.int .i64 q, .int .i64 P, .int .i64 s, .slice (some ⟨gl, ol, none⟩) n1 c1, .slice (some ⟨gd, od, none⟩) m1 c1'] 25)) := (Below.refl _ _).alloc (Nat.le_refl _) _
  obtain ⟨F, hF⟩ : ∃ F, bandFree q P s n1 m1 f f' cpu = F := ⟨_, rfl⟩
  obtain ⟨C, hC⟩ : ∃ C, doC (bandOk q P s n1 m1 f f') (bandStep q n1 1 cpu 0 ⟨P, s, f, f'⟩) = C := ⟨_, rfl⟩
  refine (iBandFree_any q P s _ _ n1 m1 c1 c1' (by omega) (by omega) f f' cpu _ _ (Below.refl _ _) (HL1.out.at_ hx1) (HD1.out.at_ hx1)).mono ?_
  rintro e w2 ⟨rfl, hb2⟩
  rw [hF]
  have hb12 : Below w1.heap.size w1 w2 := hx1.trans (hb2.mono (by simp))
  have HB2 := Lib.hid (HB1.out.trans (hb12.mono hz1))
  have K2 := Lib.hid (KB.out.below hb2 (by simp))
  have HL2 := Lib.hid (HL1.out.at_ hb12)
  have HD2 := Lib.hid (HD1.out.at_ hb12)
  have hz2 := hb12.size
  clear hb2 hb12 hx1 HB1 KB HL1 HD1
  go_wp2_with (refine wpList_load_row rfl 25 _ rfl w1.heap.size rfl 25 _ (0, 0) _ K2.out Try.underlying25 rfl (by kernel_rfl) ?_)
  refine (sBandFree_any q P s _ _ n1 m1 c1 c1' (by omega) (by omega) f f' cpu _ _ (Below.refl _ _) HL2.out HD2.out).mono ?_
  rintro e w3 ⟨rfl, hb3⟩
  rw [hF]
  have HB3 := Lib.hid (HB2.out.trans (hb3.mono (by omega)))
  have K3 := Lib.hid (K2.out.below hb3 K2.out.lt)
  have HL3 := Lib.hid (HL2.out.at_ hb3)
  have HD3 := Lib.hid (HD2.out.at_ hb3)
  have hz3 := hb3.size
  clear hb3 HB2 K2 HL2 HD2
  go_wp2_with (refine wpList_load_row rfl 25 _ rfl w1.heap.size rfl 25 _ (0, 0) _ K3.out Try.underlying25 rfl (by kernel_rfl) ?_)
  refine (iBandDo_any q P s _ _ n1 m1 c1 c1' (by omega) (by omega) f f' 1 cpu 0 _ _ (Below.refl _ _) HL3.out HD3.out).mono ?_
  intro e w4 hp4
  obtain ⟨Q4, P4, S4, N4, cl4, cd4, Al, Ad, rfl, hb4, hg4⟩ := openDo hp4
  rw [hC]
  have HB4 := Lib.hid (HB3.out.trans (hb4.mono (by omega)))
  have K4 := Lib.hid ((K3.out.below hb4 K3.out.lt).alloc (.cells #[.int .i64 Q4, .int .i64 P4, .int .i64 S4, .slice Al N4 cl4, .slice Ad N4 cd4] 25))
  have hb4a : Below w3.heap.size w3 (w4.alloc (.cells #[.int .i64 Q4, .int .i64 P4, .int .i64 S4, .slice Al N4 cl4, .slice Ad N4 cd4] 25)) := hb4.alloc hb4.size _
  have HL4 := Lib.hid (HL3.out.at_ hb4a)
  have HD4 := Lib.hid (HD3.out.at_ hb4a)
  have HG4 := Lib.hid hg4
  have KX := Lib.hid (Bk.new w4 25 #[.int .i64 Q4, .int .i64 P4, .int .i64 S4, .slice Al N4 cl4, .slice Ad N4 cd4])
  have hz4 := hb4.size
  clear hp4 hb4 hb4a hg4 HB3 K3 HL3 HD3
  go_wp2_with (refine wpList_load_row rfl 25 _ rfl w1.heap.size rfl 25 _ (0, 0) _ K4.out Try.underlying25 rfl (by kernel_rfl) ?_)
  refine (sBandDo_any q P s _ _ n1 m1 c1 c1' (by omega) (by omega) f f' 1 cpu 0 _ _ (Below.refl _ _) HL4.out HD4.out).mono ?_
  intro e w5 hp5
  obtain ⟨Q5, P5, S5, N5, cl5, cd5, Al5, Ad5, rfl, hb5, _⟩ := openDo hp5
  rw [hC]
  have hz5 := hb5.size
  simp only [World.size_alloc] at hz5
  have hb45 : Below w4.heap.size w4 (w5.alloc (.cells #[.int .i64 Q5, .int .i64 P5, .int .i64 S5, .slice Al5 N5 cl5, .slice Ad5 N5 cd5] 25)) := (((Below.refl _ w4).alloc (Nat.le_refl _) _).trans (hb5.mono (by simp))).alloc (by omega) _
  have HB5 := Lib.hid (HB4.out.trans (hb45.mono (by omega)))
  have KX5 := Lib.hid ((KX.out.below hb5 (by simp)).alloc (.cells #[.int .i64 Q5, .int .i64 P5, .int .i64 S5, .slice Al5 N5 cl5, .slice Ad5 N5 cd5] 25))
  have HB45 := Lib.hid hb45
  clear hp5 hb5 hb45 K4 HL4 HD4 KX HB4
  have hlaw := code_law (q := q) (p := P) (s := s) (n := n1) (m := m1) (f := f) (f' := f') (cpu := cpu)
  rw [hC, hF] at hlaw
  by_cases hC1 : C = 1
  · obtain rfl : F = 0 := hlaw.1 hC1
    subst hC1
    clear hlaw hF hC
    go_wp2
    go_ret
    exact ⟨rfl, HB5.out⟩
  · obtain ⟨rfl, hok, hin⟩ := hlaw.2 hC1
    have hfacts := bandOk_facts _ _ _ _ _ _ _ hok
    obtain ⟨_, _, a3, a4, _⟩ := hfacts
    obtain ⟨g1, g2⟩ := inR_iff.1 hin
    obtain ⟨t1, t2, t3, t4⟩ := take_law (b := ⟨P, s, f, f'⟩) (show bOk q m1 ⟨P, s, f, f'⟩ = true from hok) hin
    have hF2 := hF
    rw [free_in hok hin] at hF2
    have hC2 : (bandStep q m1 1 cpu 0 ⟨P, s, f, f'⟩).2 = C := by rw [← hC, hok]; rfl
    have hg := HG4.out hok (by omega)
    have hst : ∃ X : BSt, (bandStep q m1 1 cpu 0 ⟨P, s, f, f'⟩).1 = X := ⟨_, rfl⟩
    obtain ⟨X, hX⟩ := hst
    rw [hX] at t3 t4 hg
    obtain ⟨eQ, eP, eS, eN, gl4, gd4, rfl, rfl, ol4, od4⟩ := hg
    subst eP eS eN
    subst eQ
    rw [hC2] at t2
    simp only [hF2] at t2 t3 t4
    have HL5 := Lib.hid (ol4.same (HB45.out.block gl4 ol4.1) HB45.out.size)
    have HD5 := Lib.hid (od4.same (HB45.out.block gd4 od4.1) HB45.out.size)
    have hc0 : 0 ≤ cpu := g1
    have hcN : cpu < (N4 : Int) := by omega
    have hF0 : 0 ≤ F → 0 ≤ F := fun h => h
    have HFR : Hid (Calls Try.prog 19 #[.agg #[.int .i64 Q4, .int .i64 X.p, .int .i64 X.s, .slice (some ⟨gl4, 0, none⟩) N4 cl4, .slice (some ⟨gd4, 0, none⟩) N4 cd4], .int .i64 cpu] (w5.alloc (.cells #[.int .i64 Q5, .int .i64 P5, .int .i64 S5, .slice Al5 N5 cl5, .slice Ad5 N5 cd5] 25)) fun e w' => e = .returned (.int .i64 F) ∧ Below (w5.alloc (.cells #[.int .i64 Q5, .int .i64 P5, .int .i64 S5, .slice Al5 N5 cl5, .slice Ad5 N5 cd5] 25)).heap.size (w5.alloc (.cells #[.int .i64 Q5, .int .i64 P5, .int .i64 S5, .slice Al5 N5 cl5, .slice Ad5 N5 cd5] 25)) w') := by
      have h := iBandFree_any Q4 X.p X.s _ _ N4 N4 cl4 cd4 (by omega) (by omega) X.f X.d cpu (w5.alloc (.cells #[.int .i64 Q5, .int .i64 P5, .int .i64 S5, .slice Al5 N5 cl5, .slice Ad5 N5 cd5] 25)) (w5.alloc (.cells #[.int .i64 Q5, .int .i64 P5, .int .i64 S5, .slice Al5 N5 cl5, .slice Ad5 N5 cd5] 25)) (Below.refl _ _) HL5.out.rwl HD5.out.rwl
      rw [t4] at h
      exact h
    obtain ⟨x0, x1, x2, x3, x4⟩ := KX5.out.five
    have d0 : (w5.alloc (.cells #[.int .i64 Q5, .int .i64 P5, .int .i64 S5, .slice Al5 N5 cl5, .slice Ad5 N5 cd5] 25)).cell? ⟨gd4, cpu.toNat, none⟩ = some (.bool (X.d cpu.toNat)) := HD5.out.2.1 cpu.toNat (by omega)
    rw [t3] at d0
    have hzy := HB5.out.size
    clear HL5 HD5 KX5 HB45 HG4 hF hC hlaw hX hC2 t1 t3 t4 hF2 hF0 ol4 od4 hok hin
    by_cases hF0 : F = 0
    · subst hF0
      have hc2 : C = 2 := by simpa using t2
      subst hc2
      have d0' : (w5.alloc (.cells #[.int .i64 Q5, .int .i64 P5, .int .i64 S5, .slice Al5 N5 cl5, .slice Ad5 N5 cd5] 25)).cell? ⟨gd4, cpu.toNat, none⟩ = some (.bool true) := d0
      clear d0 t2
      go_wp2_with (first | (go_at_call 19; refine HFR.out.mono ?_; rintro e w9 ⟨rfl, hb9⟩))
      go_ret
      exact ⟨rfl, HB5.out.trans (hb9.mono hzy)⟩
    · have e1 : (F == 0) = false := by simpa using hF0
      rw [e1] at d0 t2
      have e2 : (C == 1) = false := by simpa using hC1
      go_wp2_with (go_at_call 19; refine HFR.out.mono ?_; rintro e w9 ⟨rfl, hb9⟩)
      go_ret
      exact ⟨rfl, HB5.out.trans (hb9.mono hzy)⟩
theorem own : ownKnob Try.prog.godebug = none := by kernel_rfl
theorem laidOut : laidOutB Try.prog = true := by kernel_rfl
set_option maxRecDepth 100000 in
theorem lifted (os : Os) (started : os.Started) (H : Type) (enc : TypeId × Value → H) :
    ReturnsInHanded {} Try.checked os 7 .any (Rows.fnBandFreeSpec.pre6 enc Try.prog Try.f7 Rows.fnBandFreeRow.domain false) (Rows.fnBandFreeSpec.post enc Try.prog Try.f7 false true false false) := by
  refine returnsInHanded_of_change (C := Try.checked) own started (by kernel_rfl) Try.func7
    (ChangeSpec.witness6 (enc := enc) (C := Try.checked) false ⟨#[], #[.slice none 0 0], []⟩ 8 (by kernel_rfl) (by kernel_rfl) (by kernel_rfl) (by kernel_rfl)) ?_
  intro W base args ds gs before hval0 hW hcnd _
  have hval : ∀ (j : Nat) t v, Try.f7.params[j]? = some t → args[j]? = some v → Value.okWide Try.prog W .any base t v := hval0
  have hW' := hW
  obtain ⟨p, q, hA0, hV, rfl, hfz, hnd⟩ := hW
  have hA : DataW.TrodAll enc Try.prog W 0 (fun _ => true) true Try.f7.params.toList args.toList ds p := hA0
  rw [Try.params7] at hA hval
  obtain ⟨v0, vs0, d0, ds0, p0, q0, hargs, rfl, rfl, h0, r0⟩ := trodAll_cons hA
  obtain ⟨rfl, rfl, rfl⟩ := trodAll_nil r0
  obtain rfl : args = #[v0] := by cases args; simp_all
  obtain ⟨rfl, rfl⟩ := trodVars_none hV
  have k0 := h0
  have lt0 : ∀ x ∈ p0, x.block < W.heap.size := by obtain ⟨m, hm⟩ := k0; exact DataW.trod_lt m _ _ _ hm
  obtain ⟨Ax0, nx0, cx0, zx0, rfl, hcx0, hc2x0, hAx0, hzx0⟩ := open_lawsBytes (hval 0 37 v0 rfl rfl) h0
  clear hA0 hval0
  refine (walk Ax0 nx0 cx0 zx0 W hcx0 hc2x0 hAx0 hzx0).mono fun e W' ⟨he, bel⟩ => ?_
  subst he
  exact ⟨_, rfl, _, _, _, [], _, [], hW', trodAll_mk1 (shut_bool Try.underlying4 _), (trodAll_cons_mk (Below.trod laidOut (by kernel_rfl) (of_decide_eq_true (by kernel_rfl)) k0 bel lt0) trodAll_mk0), rfl, bel.frame _, fun h => by cases h⟩
theorem over : Rows.fnBandFreeRow.holds Try.pinned (OpenSpec.ofChange Rows.fnBandFreeSpec) :=
  OpenClaim.holds_of_wide 7 Try.f7 rfl rfl rfl rfl rfl rfl rfl ⟨rfl, rfl, rfl, rfl, rfl⟩ rfl rfl rfl rfl rfl (by kernel_rfl) Try.func7 (by kernel_rfl)
    (of_decide_eq_true (by kernel_rfl)) (by unfold Func.isWrapper; first | (rw [if_pos (by decide +kernel)]; kernel_rfl) | (rw [if_neg (by decide +kernel)]; exact ⟨rfl, rfl⟩))
    (fun os started H enc _ => lifted os started H enc)
theorem proved : Rows.FnBandFreeSaid := over
end Go.Proofs.Ytbgmjcfnehnicaa.fnBandFree

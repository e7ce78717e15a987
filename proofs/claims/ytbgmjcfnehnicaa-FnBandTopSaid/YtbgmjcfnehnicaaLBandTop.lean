/-
  Whatever the code, the law FnBandTop returns true: a pool never gives more than the quota; no condition.
-/
import Derived.Test.YtbgmjcfnehnicaaT5Base
import Derived.Test.YtbgmjcfnehnicaaD2Base
import Derived.ProofKit
import Derived.OpenShut
import Derived.ShutString
import Derived.ChangeOld
import Derived.Below
import Derived.Deep.Slices
import Derived.Lib.SmallJoins
import Derived.Deep.RegionWith
import Derived.Deep.DeepCutAuto
namespace Go.Proofs.Ytbgmjcfnehnicaa.fnBandTop
open Go.ChangeShapes Go.WideShapes Go.ChangeAt Go.RowKit
open Go.ChangeMaps (open_string shut_string)

theorem okN {q : Int} {n : Nat} {b : BSt} (h : bOk q n b = true) {ok : Bool} {x : Int} (e : bandOk q b.p b.s n n b.f b.d = ok) : ok = true := by rw [← e]; exact h
/-- BandDo on a good band. -/
theorem doGood {q : Int} {n : Nat} {b : BSt} (h : bOk q n b = true) {kind cpu k : Int} {w : World} {e : Ending} {w' : World}
    (hp : DoPost (bandOk q b.p b.s n n b.f b.d) q n (bandStep q n kind cpu k ⟨b.p, b.s, b.f, b.d⟩) w e w') :
    DP (bandStep q n kind cpu k b).2 q (bandStep q n kind cpu k b).1.p (bandStep q n kind cpu k b).1.s n (fun i => .int .i64 ((bandStep q n kind cpu k b).1.f i)) (fun i => .bool ((bandStep q n kind cpu k b).1.d i)) w e w' := by
  have h' : bandOk q b.p b.s n n b.f b.d = true := h
  rw [h'] at hp
  obtain ⟨Al, cl, Ad, cd, he, hl, hd, hap, hb⟩ := hp
  exact ⟨Al, cl, Ad, cd, he, ⟨hl, hd, hap⟩, hb⟩
set_option maxRecDepth 100000 in
set_option maxHeartbeats 20000000 in
theorem walk (A : Option Addr) (n c : Nat) (z : Nat → Int) (w : World) (hc : n ≤ c) (hc2 : (c : Int) ≤ 9223372036854775807) (hA : Rw w w.heap.size A n (fun i => .int .u8 (z i))) (hz : ∀ i, i < n → 0 ≤ z i ∧ z i ≤ 255) :
    Calls Try.prog 6 #[.slice A n c] w fun e w' => e = .returned (.bool true) ∧ Below w.heap.size w w' := by
  by_cases h1 : (n : Int) > 1048576
  · go_enter Try.func6, Try.ntmps6
    go_wp2
    go_ret
    exact ⟨rfl, Below.refl _ _⟩
  have HA := Lib.hid hA
  have HZ := Lib.hid hz
  clear hA hz
  go_enter Try.func6, Try.ntmps6
  go_wp2_with fail
  refine (goodBand_any A n c (by omega) hc hc2 z w w (Below.refl _ _) HA.out HZ.out).mono ?_
  rintro e wg ⟨q, n', gl, cl, gd, cd, m, co, Ao, el, rfl, q0, q1, n0, n1, hm, o1, o2, o3, o4, o5, hops, hin, hbg⟩
  have HB0 := Lib.hid hbg
  have HO := Lib.hid hops
  have HI0 := Lib.hid hin
  have HL0 := Lib.hid o1
  have HD0 := Lib.hid o2
  have e1 := o1.1
  have e2 := o2.1
  have hzg := hbg.size
  have HN := Lib.hid (Bk.new wg 25 #[.int .i64 q, .int .i64 q, .int .i64 0, .slice (some ⟨gl, 0, none⟩) n' cl, .slice (some ⟨gd, 0, none⟩) n' cd])
  clear HA HZ hbg hops hin o1 o2 hc hc2 h1
  go_wp2_with fail
  go_loopw [5, 6] (fun t i wr => ∃ (k : Nat) (b : BSt) (gl gd cl cd : Nat), k ≤ m ∧ t = .int .i64 b.s ∧ i = .int .i64 k ∧ Hid (bOk q n' b = true) ∧
    Hid (Bk wr wg.heap.size 25 #[.int .i64 q, .int .i64 b.p, .int .i64 b.s, .slice (some ⟨gl, 0, none⟩) n' cl, .slice (some ⟨gd, 0, none⟩) n' cd]) ∧
    Hid (OwnV wr gl n' (fun i => .int .i64 (b.f i))) ∧ Hid (OwnV wr gd n' (fun i => .bool (b.d i))) ∧ gl ≠ wg.heap.size ∧ gd ≠ wg.heap.size ∧ Hid (Below wg.heap.size wg wr)) (fun _ i _ => m - (intOf i).toNat)
  case atStart =>
    have hbb : Below wg.heap.size wg (wg.alloc (.cells #[.int .i64 q, .int .i64 q, .int .i64 0, .slice (some ⟨gl, 0, none⟩) n' cl, .slice (some ⟨gd, 0, none⟩) n' cd] 25)) := (Below.refl _ wg).alloc (Nat.le_refl _) _
    have hok : bOk q n' ⟨q, 0, fun _ => 0, fun _ => false⟩ = true := by
      unfold bOk
      refine bandOk_mk q0 q1 (by omega) (by omega) (by show 0 ≤ q; omega) (Int.le_refl _) (fun i _ => ⟨Int.le_refl _, fun h => by cases h⟩) ?_
      show q + 0 + sumTo (fun _ => 0) n' = q
      rw [sumTo_zero]
      omega
    exact ⟨0, ⟨q, 0, fun _ => 0, fun _ => false⟩, gl, gd, cl, cd, Nat.zero_le _, rfl, rfl, Lib.hid hok, HN, Lib.hid (HL0.out.kept (p := fun _ => False) (Kept.of hbb) (fun h => h)), Lib.hid (HD0.out.kept (p := fun _ => False) (Kept.of hbb) (fun h => h)), by omega, by omega, Lib.hid hbb⟩
  case round =>
    obtain ⟨k, b, gl, gd, cl, cd, hkm, rfl, rfl, HOK, HK, HL, HD, e3, e4, HBr⟩ := hrel
    clear HL0 HD0 HN o3 o4 o5
    by_cases hlt : k < m
    case neg =>
      obtain rfl : k = m := by omega
      have hfin := Lib.hid (HB0.out.trans (HBr.out.mono hzg))
      go_wp2
      go_ret
      exact ⟨rfl, hfin.out⟩
    obtain ⟨kind, cpu, kk, hel, v0, v1, v2, v3, v4, v5⟩ := HI0.out.2 k hlt
    obtain ⟨ga, oa, rfl, hga, hcells⟩ := HO.out (by omega)
    have hrow : ∀ (x : World), Below wg.heap.size wg x → x.cell? ⟨ga, oa + k * 3, none⟩ = some (.int .i64 kind) ∧ x.cell? ⟨ga, oa + k * 3 + 1, none⟩ = some (.int .i64 cpu) ∧ x.cell? ⟨ga, oa + k * 3 + 2, none⟩ = some (.int .i64 kk) := fun x hx => by
      have hr := hcells k hlt
      rw [hel] at hr
      exact ⟨(hx.cell (p := ⟨ga, oa + k * 3, none⟩) hga).trans (hr 0 _ rfl), (hx.cell (p := ⟨ga, oa + k * 3 + 1, none⟩) hga).trans (hr 1 _ rfl), (hx.cell (p := ⟨ga, oa + k * 3 + 2, none⟩) hga).trans (hr 2 _ rfl)⟩
    have HROW := Lib.hid hrow
    clear hrow hcells hel
    obtain ⟨C, P, S, F, D, HI, HS, HOK', HSP⟩ : ∃ (C P S : Int) (F : Nat → Int) (D : Nat → Bool),
        Hid (∀ (x : World) (B B' : Option Addr) (d d' : Nat), Rw x x.heap.size B n' (fun i => .int .i64 (b.f i)) → Rw x x.heap.size B' n' (fun i => .bool (b.d i)) → Calls Try.prog 21 #[.agg #[.int .i64 q, .int .i64 b.p, .int .i64 b.s, .slice B n' d, .slice B' n' d'], .agg #[.int .i64 kind, .int .i64 cpu, .int .i64 kk]] x (DP C q P S n' (fun i => .int .i64 (F i)) (fun i => .bool (D i)) x)) ∧
        Hid (∀ (x : World) (B B' : Option Addr) (d d' : Nat), Rw x x.heap.size B n' (fun i => .int .i64 (b.f i)) → Rw x x.heap.size B' n' (fun i => .bool (b.d i)) → Calls Try.prog 22 #[.agg #[.int .i64 q, .int .i64 b.p, .int .i64 b.s, .slice B n' d, .slice B' n' d'], .agg #[.int .i64 kind, .int .i64 cpu, .int .i64 kk]] x (DP C q P S n' (fun i => .int .i64 (F i)) (fun i => .bool (D i)) x)) ∧
        Hid (bOk q n' ⟨P, S, F, D⟩ = true) ∧ Hid (S = if C = 0 ∧ kind = 2 then b.s + kk else if C = 0 ∧ kind = 4 then 0 else b.s) := by
      refine ⟨(bandStep q n' kind cpu kk b).2, (bandStep q n' kind cpu kk b).1.p, (bandStep q n' kind cpu kk b).1.s, (bandStep q n' kind cpu kk b).1.f, (bandStep q n' kind cpu kk b).1.d, Lib.hid fun x B B' d d' hB hB' => ?_, Lib.hid fun x B B' d d' hB hB' => ?_, Lib.hid (bandStep_ok HOK.out), Lib.hid bandStep_spent⟩
      · exact (iBandDo_any q b.p b.s B B' n' n' d d' (by omega) (by omega) b.f b.d kind cpu kk x x (Below.refl _ _) hB hB').mono fun e w' hp => doGood HOK.out hp
      · exact (sBandDo_any q b.p b.s B B' n' n' d d' (by omega) (by omega) b.f b.d kind cpu kk x x (Below.refl _ _) hB hB').mono fun e w' hp => doGood HOK.out hp
    have HRL := Lib.hid (show Rw wr wr.heap.size (some ⟨gl, 0, none⟩) n' (fun i => .int .i64 (b.f i)) from fun _ => ⟨gl, 0, rfl, HL.out.1, fun i hi => by rw [Nat.zero_add]; exact HL.out.2.1 i hi⟩)
    have HRD := Lib.hid (show Rw wr wr.heap.size (some ⟨gd, 0, none⟩) n' (fun i => .bool (b.d i)) from fun _ => ⟨gd, 0, rfl, HD.out.1, fun i hi => by rw [Nat.zero_add]; exact HD.out.2.1 i hi⟩)
    have hzr := HBr.out.size
    have hlk := HK.out.lt
    have hs0 : b.s = b.s := rfl
    go_upto_region 8 with fail
    refine region_fr (by kernel_rfl) [28, 29, 30, 31, 32, 33, 27, 34, 35, 7, 8] (fun a0 => a0.tmps.size = 132 ∧ a0.tmps[3]? = some (.pointer (some ⟨wg.heap.size, 0, none⟩)) ∧ a0.tmps[4]? = some (.slice (some ⟨ga, oa, none⟩) m co) ∧ a0.tmps[6]? = some (.int .i64 k)) (fun l xs w' => (∃ B B' Al Ad d d' cl' cd' h, RegI C q P S q b.p b.s n' n' n' (fun i => .int .i64 (F i)) (fun i => .bool (D i)) (fun i => .int .i64 (b.f i)) (fun i => .bool (b.d i)) undef (.agg #[.int .i64 kind, .int .i64 cpu, .int .i64 kk]) wr (reL l) w' undef (xs 28) undef (xs 32) (xs 33) (xs 27) (xs 34) (xs 35) (xs 7) (xs 8) B B' Al Ad d d' cl' cd' h) ∧ (seen l 1 → xs 29 = .slice (some ⟨ga, oa, none⟩) m co) ∧ (seen l 2 → xs 30 = .int .i64 k) ∧ (seen l 3 → xs 31 = .pointer (some ⟨ga, oa + k * 3, none⟩))) ⟨by rfl, by rfl, by rfl, by rfl⟩ ?_ ?_ (by kernel_rfl) ?_
    · exact fun xs => ⟨⟨none, none, none, none, 0, 0, 0, 0, 0, by rw [show reL (Array.replicate _ false) = _ from reL_new _]; exact RegI.start _⟩, fun a => absurd a (seen_none _ _), fun a => absurd a (seen_none _ _), fun a => absurd a (seen_none _ _)⟩
    · rintro a0 bb xs l wc ⟨e0, f3, f4, f6⟩ fr ⟨⟨B, B', Al, Ad, d, d', cl', cd', h, r⟩, m1, m2, m3⟩ i hi
      have hlt' := ready_lt hi
      have hnl := (mem_ready.1 hi).1
      have hcs : i = 0 ∨ i = 1 ∨ i = 2 ∨ i = 3 ∨ i = 4 ∨ i = 5 ∨ i = 6 ∨ i = 7 ∨ i = 8 ∨ i = 9 ∨ i = 10 ∨ i = 11 := by have : i < 12 := hlt'; omega
      clear hlt'
      rcases hcs with rfl | rfl | rfl | rfl | rfl | rfl | rfl | rfl | rfl | rfl | rfl | rfl
      · refine wpOp_step rfl (fun K hK => ?_)
        obtain ⟨y0, y1, y2, y3, y4⟩ := (HK.out.below r.bel HK.out.lt).five
        have t3 := fr.ex (s := 3) (by decide) f3
        go_simp
        refine hK _ _ ⟨_, fr.put (s := 28) (by decide) _, ⟨_, _, _, _, _, _, _, _, _, by rw [reL_0 hnl]; exact r.i1 (HRL.out.at_ r.bel) (HRD.out.at_ r.bel)⟩, fun a => by first | exact m1 ((seen_set a).resolve_left (by decide)) | (simp only [updX]; exact m1 ((seen_set a).resolve_left (by decide))), fun a => by first | exact m2 ((seen_set a).resolve_left (by decide)) | (simp only [updX]; exact m2 ((seen_set a).resolve_left (by decide))), fun a => by first | exact m3 ((seen_set a).resolve_left (by decide)) | (simp only [updX]; exact m3 ((seen_set a).resolve_left (by decide)))⟩
      · refine wpOp_step rfl (fun K hK => ?_)
        have t4 := fr.ex (s := 4) (by decide) f4
        go_simp
        refine hK _ _ ⟨_, fr.put (s := 29) (by decide) _, ⟨_, _, _, _, _, _, _, _, _, by rw [reL_1 hnl]; exact r⟩, fun _ => by simp [updX], fun a => by first | exact m2 ((seen_set a).resolve_left (by decide)) | (simp only [updX]; exact m2 ((seen_set a).resolve_left (by decide))), fun a => by first | exact m3 ((seen_set a).resolve_left (by decide)) | (simp only [updX]; exact m3 ((seen_set a).resolve_left (by decide)))⟩
      · refine wpOp_step rfl (fun K hK => ?_)
        have t6 := fr.ex (s := 6) (by decide) f6
        go_simp
        refine hK _ _ ⟨_, fr.put (s := 30) (by decide) _, ⟨_, _, _, _, _, _, _, _, _, by rw [reL_2 hnl]; exact r⟩, fun a => by first | exact m1 ((seen_set a).resolve_left (by decide)) | (simp only [updX]; exact m1 ((seen_set a).resolve_left (by decide))), fun _ => by simp [updX], fun a => by first | exact m3 ((seen_set a).resolve_left (by decide)) | (simp only [updX]; exact m3 ((seen_set a).resolve_left (by decide)))⟩
      · refine wpOp_step rfl (fun K hK => ?_)
        have h1 := ready_seen (k := 1) hi (by kernel_rfl)
        have h2 := ready_seen (k := 2) hi (by kernel_rfl)
        have t29 : bb.tmps[29]? = some (.slice (some ⟨ga, oa, none⟩) m co) := by rw [fr.in_ (s := 29) (by decide) (by omega)]; exact congrArg some (m1 h1)
        have t30 : bb.tmps[30]? = some (.int .i64 k) := by rw [fr.in_ (s := 30) (by decide) (by omega)]; exact congrArg some (m2 h2)
        go_simp
        refine hK _ _ ⟨_, fr.put (s := 31) (by decide) _, ⟨_, _, _, _, _, _, _, _, _, by rw [reL_3 hnl]; exact r⟩, fun a => by first | exact m1 ((seen_set a).resolve_left (by decide)) | (simp only [updX]; exact m1 ((seen_set a).resolve_left (by decide))), fun a => by first | exact m2 ((seen_set a).resolve_left (by decide)) | (simp only [updX]; exact m2 ((seen_set a).resolve_left (by decide))), fun _ => by simp [updX]⟩
      · refine wpOp_step rfl (fun K hK => ?_)
        have h3 := ready_seen (k := 3) hi (by kernel_rfl)
        have t31 : bb.tmps[31]? = some (.pointer (some ⟨ga, oa + k * 3, none⟩)) := by rw [fr.in_ (s := 31) (by decide) (by omega)]; exact congrArg some (m3 h3)
        obtain ⟨z0, z1, z2⟩ := HROW.out wc ((HBr.out).trans (r.bel.mono (by omega)))
        go_simp
        refine hK _ _ ⟨_, fr.put (s := 32) (by decide) _, ⟨_, _, _, _, _, _, _, _, _, by rw [reL_4 hnl]; exact r.i3⟩, fun a => by first | exact m1 ((seen_set a).resolve_left (by decide)) | (simp only [updX]; exact m1 ((seen_set a).resolve_left (by decide))), fun a => by first | exact m2 ((seen_set a).resolve_left (by decide)) | (simp only [updX]; exact m2 ((seen_set a).resolve_left (by decide))), fun a => by first | exact m3 ((seen_set a).resolve_left (by decide)) | (simp only [updX]; exact m3 ((seen_set a).resolve_left (by decide)))⟩
      · refine wpOp_step rfl (fun K hK => ?_)
        have h0 := reL_s0 (ready_seen (k := 0) hi (by kernel_rfl))
        have h4 := reL_s4 (ready_seen (k := 4) hi (by kernel_rfl))
        obtain ⟨hv, hB⟩ := r.p1 h0
        obtain ⟨hB1, hB2⟩ := hB (not_seen (reL_n5 hnl))
        have t28 : bb.tmps[28]? = some (.agg #[.int .i64 q, .int .i64 b.p, .int .i64 b.s, .slice B n' d, .slice B' n' d']) := by rw [fr.in_ (s := 28) (by decide) (by omega)]; exact congrArg some hv
        have t32 : bb.tmps[32]? = some (.agg #[.int .i64 kind, .int .i64 cpu, .int .i64 kk]) := by rw [fr.in_ (s := 32) (by decide) (by omega)]; exact congrArg some (r.p3 h4)
        go_simp
        refine (HI.out _ _ _ _ _ hB1 hB2).mono ?_
        rintro e wD ⟨El, e1, Ed, e2, rfl, hr, hbD⟩
        refine hK _ _ ⟨_, fr.put (s := 33) (by decide) _, ⟨_, _, _, _, _, _, _, _, _, by rw [reL_5 hnl]; exact (r.go hbD).i4 (reL_n5 hnl) (more2 hr r.bel.size) (fun h8 hN k hk => by have := (r.p8 h8).2.2.1; have := Rows2.ge hr hN k hk; omega)⟩, fun a => by first | exact m1 ((seen_set a).resolve_left (by decide)) | (simp only [updX]; exact m1 ((seen_set a).resolve_left (by decide))), fun a => by first | exact m2 ((seen_set a).resolve_left (by decide)) | (simp only [updX]; exact m2 ((seen_set a).resolve_left (by decide))), fun a => by first | exact m3 ((seen_set a).resolve_left (by decide)) | (simp only [updX]; exact m3 ((seen_set a).resolve_left (by decide)))⟩
      · refine wpOp_step rfl (fun K hK => ?_)
        have h4 := reL_s5 (ready_seen (k := 5) hi (by kernel_rfl))
        have t33 : bb.tmps[33]? = some (xs 33) := fr.in_ (s := 33) (by decide) (by omega)
        go_simp
        refine hK _ _ ⟨_, fr.put (s := 27) (by decide) _, ⟨_, _, _, _, _, _, _, _, _, by rw [reL_6 hnl]; exact r.i5 h4⟩, fun a => by first | exact m1 ((seen_set a).resolve_left (by decide)) | (simp only [updX]; exact m1 ((seen_set a).resolve_left (by decide))), fun a => by first | exact m2 ((seen_set a).resolve_left (by decide)) | (simp only [updX]; exact m2 ((seen_set a).resolve_left (by decide))), fun a => by first | exact m3 ((seen_set a).resolve_left (by decide)) | (simp only [updX]; exact m3 ((seen_set a).resolve_left (by decide)))⟩
      · refine wpOp_step rfl (fun K hK => ?_)
        have h5 := reL_s6 (ready_seen (k := 6) hi (by kernel_rfl))
        obtain ⟨h4, hv⟩ := r.p5 h5
        have t27 : bb.tmps[27]? = some (.tuple #[.agg #[.int .i64 q, .int .i64 P, .int .i64 S, .slice Al n' cl', .slice Ad n' cd'], .int .i64 C]) := by rw [fr.in_ (s := 27) (by decide) (by omega)]; exact congrArg some (hv.trans (r.p4 h4).1)
        go_simp
        refine hK _ _ ⟨_, fr.put (s := 34) (by decide) _, ⟨_, _, _, _, _, _, _, _, _, by rw [reL_7 hnl]; exact r.i6 h4⟩, fun a => by first | exact m1 ((seen_set a).resolve_left (by decide)) | (simp only [updX]; exact m1 ((seen_set a).resolve_left (by decide))), fun a => by first | exact m2 ((seen_set a).resolve_left (by decide)) | (simp only [updX]; exact m2 ((seen_set a).resolve_left (by decide))), fun a => by first | exact m3 ((seen_set a).resolve_left (by decide)) | (simp only [updX]; exact m3 ((seen_set a).resolve_left (by decide)))⟩
      · refine wpOp_step rfl (fun K hK => ?_)
        have h5 := reL_s6 (ready_seen (k := 6) hi (by kernel_rfl))
        obtain ⟨h4, hv⟩ := r.p5 h5
        have t27 : bb.tmps[27]? = some (.tuple #[.agg #[.int .i64 q, .int .i64 P, .int .i64 S, .slice Al n' cl', .slice Ad n' cd'], .int .i64 C]) := by rw [fr.in_ (s := 27) (by decide) (by omega)]; exact congrArg some (hv.trans (r.p4 h4).1)
        go_simp
        refine hK _ _ ⟨_, fr.put (s := 35) (by decide) _, ⟨_, _, _, _, _, _, _, _, _, by rw [reL_8 hnl]; exact r.i7⟩, fun a => by first | exact m1 ((seen_set a).resolve_left (by decide)) | (simp only [updX]; exact m1 ((seen_set a).resolve_left (by decide))), fun a => by first | exact m2 ((seen_set a).resolve_left (by decide)) | (simp only [updX]; exact m2 ((seen_set a).resolve_left (by decide))), fun a => by first | exact m3 ((seen_set a).resolve_left (by decide)) | (simp only [updX]; exact m3 ((seen_set a).resolve_left (by decide)))⟩
      · refine wpOp_step rfl (fun K hK => ?_)
        go_simp
        refine hK _ _ ⟨_, fr.put (s := 7) (by decide) _, ⟨_, _, _, _, _, _, _, _, _, by rw [reL_9 hnl]; exact r.i8 (reL_n9 hnl)⟩, fun a => by first | exact m1 ((seen_set a).resolve_left (by decide)) | (simp only [updX]; exact m1 ((seen_set a).resolve_left (by decide))), fun a => by first | exact m2 ((seen_set a).resolve_left (by decide)) | (simp only [updX]; exact m2 ((seen_set a).resolve_left (by decide))), fun a => by first | exact m3 ((seen_set a).resolve_left (by decide)) | (simp only [updX]; exact m3 ((seen_set a).resolve_left (by decide)))⟩
      · refine wpOp_step rfl (fun K hK => ?_)
        have h8 := reL_s9 (ready_seen (k := 9) hi (by kernel_rfl))
        have h6 := reL_s7 (ready_seen (k := 7) hi (by kernel_rfl))
        obtain ⟨h4, hv⟩ := r.p6 h6
        obtain ⟨hp, _, _, hk0⟩ := r.p8 h8
        obtain ⟨v0, v1, v2, v3, v4⟩ := (hk0 (not_seen (reL_n10 hnl))).five
        have vf := (hk0 (not_seen (reL_n10 hnl))).frees
        have t7 : bb.tmps[7]? = some (.pointer (some ⟨h, 0, none⟩)) := by rw [fr.in_ (s := 7) (by decide) (by omega)]; exact congrArg some hp
        have t34 : bb.tmps[34]? = some (.agg #[.int .i64 q, .int .i64 P, .int .i64 S, .slice Al n' cl', .slice Ad n' cd']) := by rw [fr.in_ (s := 34) (by decide) (by omega)]; exact congrArg some hv
        go_simp
        refine hK _ _ ⟨xs, fr, ⟨_, _, _, _, _, _, _, _, _, by rw [reL_10 hnl]; exact r.i9 (reL_n10 hnl) h4 h8⟩, fun a => by first | exact m1 ((seen_set a).resolve_left (by decide)) | (simp only [updX]; exact m1 ((seen_set a).resolve_left (by decide))), fun a => by first | exact m2 ((seen_set a).resolve_left (by decide)) | (simp only [updX]; exact m2 ((seen_set a).resolve_left (by decide))), fun a => by first | exact m3 ((seen_set a).resolve_left (by decide)) | (simp only [updX]; exact m3 ((seen_set a).resolve_left (by decide)))⟩
      · refine wpOp_step rfl (fun K hK => ?_)
        have h7 := reL_s8 (ready_seen (k := 8) hi (by kernel_rfl))
        have t35 : bb.tmps[35]? = some (.int .i64 C) := by rw [fr.in_ (s := 35) (by decide) (by omega)]; exact congrArg some (r.p7 h7)
        go_simp
        refine hK _ _ ⟨_, fr.put (s := 8) (by decide) _, ⟨_, _, _, _, _, _, _, _, _, by rw [reL_11 hnl]; exact r.i10⟩, fun a => by first | exact m1 ((seen_set a).resolve_left (by decide)) | (simp only [updX]; exact m1 ((seen_set a).resolve_left (by decide))), fun a => by first | exact m2 ((seen_set a).resolve_left (by decide)) | (simp only [updX]; exact m2 ((seen_set a).resolve_left (by decide))), fun a => by first | exact m3 ((seen_set a).resolve_left (by decide)) | (simp only [updX]; exact m3 ((seen_set a).resolve_left (by decide)))⟩
    rintro xs l wc ⟨⟨B, B', Al, Ad, d, d', cl', cd', h, r⟩, _, _, _⟩ hall
    obtain ⟨_, hR⟩ := r.p4 (reL_s5 (hall 5 (by decide)))
    obtain ⟨hx6, hge, _, _⟩ := r.p8 (reL_s9 (hall 9 (by decide)))
    obtain ⟨_, _, hK⟩ := r.p9 (reL_s10 (hall 10 (by decide)))
    have hx7 := r.p10 (reL_s11 (hall 11 (by decide)))
    have hsep := r.p48 (reL_s5 (hall 5 (by decide))) (reL_s9 (hall 9 (by decide)))
    have hbel := r.bel
    simp only [List.foldl_cons, List.foldl_nil, List.setIfInBounds_toArray, List.set_cons_succ, List.set_cons_zero, hx6, hx7]
    obtain ⟨gl8, rfl, hl8, ol8⟩ := hR.1 (by omega)
    obtain ⟨gd8, rfl, hd8, od8⟩ := hR.2.1 (by omega)
    have sl8 : gl8 ≠ h := hsep (by omega) _ (.inl ⟨0, rfl⟩)
    have sd8 : gd8 ≠ h := hsep (by omega) _ (.inr ⟨0, rfl⟩)
    obtain ⟨hx8, ehx⟩ : ∃ x, x = h := ⟨_, rfl⟩
    subst ehx
    obtain ⟨wq8, ewc⟩ : ∃ x, x = wc := ⟨_, rfl⟩
    subst ewc
    have HX8 := Lib.hid hK
    have HL8 := Lib.hid ol8
    have HD8 := Lib.hid od8
    have HT8 := Lib.hid (HK.out.bel hbel)
    have HB8 := Lib.hid (HBr.out.trans (hbel.mono hzr))
    have HRL8 := Lib.hid (HRL.out.at_ hbel)
    have HRD8 := Lib.hid (HRD.out.at_ hbel)
    have hz8 := hbel.size
    have hzr8 : wg.heap.size ≤ wq8.heap.size := by omega
    clear r hR hK hsep hbel ol8 od8 hall HK HL HD HRL HRD HBr hs0
    go_upto_region 9 with fail
    refine region_fr (by kernel_rfl) [37, 38, 39, 40, 41, 42, 36, 43, 44, 9, 10] (fun a0 => a0.tmps.size = 132 ∧ a0.tmps[3]? = some (.pointer (some ⟨wg.heap.size, 0, none⟩)) ∧ a0.tmps[4]? = some (.slice (some ⟨ga, oa, none⟩) m co) ∧ a0.tmps[6]? = some (.int .i64 k)) (fun l xs w' => (∃ B B' Al Ad d d' cl' cd' h, RegI C q P S q b.p b.s n' n' n' (fun i => .int .i64 (F i)) (fun i => .bool (D i)) (fun i => .int .i64 (b.f i)) (fun i => .bool (b.d i)) undef (.agg #[.int .i64 kind, .int .i64 cpu, .int .i64 kk]) wq8 (reL l) w' undef (xs 37) undef (xs 41) (xs 42) (xs 36) (xs 43) (xs 44) (xs 9) (xs 10) B B' Al Ad d d' cl' cd' h) ∧ (seen l 1 → xs 38 = .slice (some ⟨ga, oa, none⟩) m co) ∧ (seen l 2 → xs 39 = .int .i64 k) ∧ (seen l 3 → xs 40 = .pointer (some ⟨ga, oa + k * 3, none⟩))) ⟨by rfl, by rfl, by rfl, by rfl⟩ ?_ ?_ (by kernel_rfl) ?_
    · exact fun xs => ⟨⟨none, none, none, none, 0, 0, 0, 0, 0, by rw [show reL (Array.replicate _ false) = _ from reL_new _]; exact RegI.start _⟩, fun a => absurd a (seen_none _ _), fun a => absurd a (seen_none _ _), fun a => absurd a (seen_none _ _)⟩
    · rintro a0 bb xs l wc ⟨e0, f3, f4, f6⟩ fr ⟨⟨B, B', Al, Ad, d, d', cl', cd', h, r⟩, m1, m2, m3⟩ i hi
      have hlt' := ready_lt hi
      have hnl := (mem_ready.1 hi).1
      have hcs : i = 0 ∨ i = 1 ∨ i = 2 ∨ i = 3 ∨ i = 4 ∨ i = 5 ∨ i = 6 ∨ i = 7 ∨ i = 8 ∨ i = 9 ∨ i = 10 ∨ i = 11 := by have : i < 12 := hlt'; omega
      clear hlt'
      rcases hcs with rfl | rfl | rfl | rfl | rfl | rfl | rfl | rfl | rfl | rfl | rfl | rfl
      · refine wpOp_step rfl (fun K hK => ?_)
        obtain ⟨y0, y1, y2, y3, y4⟩ := (HT8.out.below r.bel HT8.out.lt).five
        have t3 := fr.ex (s := 3) (by decide) f3
        go_simp
        refine hK _ _ ⟨_, fr.put (s := 37) (by decide) _, ⟨_, _, _, _, _, _, _, _, _, by rw [reL_0 hnl]; exact r.i1 (HRL8.out.at_ r.bel) (HRD8.out.at_ r.bel)⟩, fun a => by first | exact m1 ((seen_set a).resolve_left (by decide)) | (simp only [updX]; exact m1 ((seen_set a).resolve_left (by decide))), fun a => by first | exact m2 ((seen_set a).resolve_left (by decide)) | (simp only [updX]; exact m2 ((seen_set a).resolve_left (by decide))), fun a => by first | exact m3 ((seen_set a).resolve_left (by decide)) | (simp only [updX]; exact m3 ((seen_set a).resolve_left (by decide)))⟩
      · refine wpOp_step rfl (fun K hK => ?_)
        have t4 := fr.ex (s := 4) (by decide) f4
        go_simp
        refine hK _ _ ⟨_, fr.put (s := 38) (by decide) _, ⟨_, _, _, _, _, _, _, _, _, by rw [reL_1 hnl]; exact r⟩, fun _ => by simp [updX], fun a => by first | exact m2 ((seen_set a).resolve_left (by decide)) | (simp only [updX]; exact m2 ((seen_set a).resolve_left (by decide))), fun a => by first | exact m3 ((seen_set a).resolve_left (by decide)) | (simp only [updX]; exact m3 ((seen_set a).resolve_left (by decide)))⟩
      · refine wpOp_step rfl (fun K hK => ?_)
        have t6 := fr.ex (s := 6) (by decide) f6
        go_simp
        refine hK _ _ ⟨_, fr.put (s := 39) (by decide) _, ⟨_, _, _, _, _, _, _, _, _, by rw [reL_2 hnl]; exact r⟩, fun a => by first | exact m1 ((seen_set a).resolve_left (by decide)) | (simp only [updX]; exact m1 ((seen_set a).resolve_left (by decide))), fun _ => by simp [updX], fun a => by first | exact m3 ((seen_set a).resolve_left (by decide)) | (simp only [updX]; exact m3 ((seen_set a).resolve_left (by decide)))⟩
      · refine wpOp_step rfl (fun K hK => ?_)
        have h1 := ready_seen (k := 1) hi (by kernel_rfl)
        have h2 := ready_seen (k := 2) hi (by kernel_rfl)
        have t38 : bb.tmps[38]? = some (.slice (some ⟨ga, oa, none⟩) m co) := by rw [fr.in_ (s := 38) (by decide) (by omega)]; exact congrArg some (m1 h1)
        have t39 : bb.tmps[39]? = some (.int .i64 k) := by rw [fr.in_ (s := 39) (by decide) (by omega)]; exact congrArg some (m2 h2)
        go_simp
        refine hK _ _ ⟨_, fr.put (s := 40) (by decide) _, ⟨_, _, _, _, _, _, _, _, _, by rw [reL_3 hnl]; exact r⟩, fun a => by first | exact m1 ((seen_set a).resolve_left (by decide)) | (simp only [updX]; exact m1 ((seen_set a).resolve_left (by decide))), fun a => by first | exact m2 ((seen_set a).resolve_left (by decide)) | (simp only [updX]; exact m2 ((seen_set a).resolve_left (by decide))), fun _ => by simp [updX]⟩
      · refine wpOp_step rfl (fun K hK => ?_)
        have h3 := ready_seen (k := 3) hi (by kernel_rfl)
        have t40 : bb.tmps[40]? = some (.pointer (some ⟨ga, oa + k * 3, none⟩)) := by rw [fr.in_ (s := 40) (by decide) (by omega)]; exact congrArg some (m3 h3)
        obtain ⟨z0, z1, z2⟩ := HROW.out wc ((HB8.out).trans (r.bel.mono (by omega)))
        go_simp
        refine hK _ _ ⟨_, fr.put (s := 41) (by decide) _, ⟨_, _, _, _, _, _, _, _, _, by rw [reL_4 hnl]; exact r.i3⟩, fun a => by first | exact m1 ((seen_set a).resolve_left (by decide)) | (simp only [updX]; exact m1 ((seen_set a).resolve_left (by decide))), fun a => by first | exact m2 ((seen_set a).resolve_left (by decide)) | (simp only [updX]; exact m2 ((seen_set a).resolve_left (by decide))), fun a => by first | exact m3 ((seen_set a).resolve_left (by decide)) | (simp only [updX]; exact m3 ((seen_set a).resolve_left (by decide)))⟩
      · refine wpOp_step rfl (fun K hK => ?_)
        have h0 := reL_s0 (ready_seen (k := 0) hi (by kernel_rfl))
        have h4 := reL_s4 (ready_seen (k := 4) hi (by kernel_rfl))
        obtain ⟨hv, hB⟩ := r.p1 h0
        obtain ⟨hB1, hB2⟩ := hB (not_seen (reL_n5 hnl))
        have t37 : bb.tmps[37]? = some (.agg #[.int .i64 q, .int .i64 b.p, .int .i64 b.s, .slice B n' d, .slice B' n' d']) := by rw [fr.in_ (s := 37) (by decide) (by omega)]; exact congrArg some hv
        have t41 : bb.tmps[41]? = some (.agg #[.int .i64 kind, .int .i64 cpu, .int .i64 kk]) := by rw [fr.in_ (s := 41) (by decide) (by omega)]; exact congrArg some (r.p3 h4)
        go_simp
        refine (HS.out _ _ _ _ _ hB1 hB2).mono ?_
        rintro e wD ⟨El, e1, Ed, e2, rfl, hr, hbD⟩
        refine hK _ _ ⟨_, fr.put (s := 42) (by decide) _, ⟨_, _, _, _, _, _, _, _, _, by rw [reL_5 hnl]; exact (r.go hbD).i4 (reL_n5 hnl) (more2 hr r.bel.size) (fun h8 hN k hk => by have := (r.p8 h8).2.2.1; have := Rows2.ge hr hN k hk; omega)⟩, fun a => by first | exact m1 ((seen_set a).resolve_left (by decide)) | (simp only [updX]; exact m1 ((seen_set a).resolve_left (by decide))), fun a => by first | exact m2 ((seen_set a).resolve_left (by decide)) | (simp only [updX]; exact m2 ((seen_set a).resolve_left (by decide))), fun a => by first | exact m3 ((seen_set a).resolve_left (by decide)) | (simp only [updX]; exact m3 ((seen_set a).resolve_left (by decide)))⟩
      · refine wpOp_step rfl (fun K hK => ?_)
        have h4 := reL_s5 (ready_seen (k := 5) hi (by kernel_rfl))
        have t42 : bb.tmps[42]? = some (xs 42) := fr.in_ (s := 42) (by decide) (by omega)
        go_simp
        refine hK _ _ ⟨_, fr.put (s := 36) (by decide) _, ⟨_, _, _, _, _, _, _, _, _, by rw [reL_6 hnl]; exact r.i5 h4⟩, fun a => by first | exact m1 ((seen_set a).resolve_left (by decide)) | (simp only [updX]; exact m1 ((seen_set a).resolve_left (by decide))), fun a => by first | exact m2 ((seen_set a).resolve_left (by decide)) | (simp only [updX]; exact m2 ((seen_set a).resolve_left (by decide))), fun a => by first | exact m3 ((seen_set a).resolve_left (by decide)) | (simp only [updX]; exact m3 ((seen_set a).resolve_left (by decide)))⟩
      · refine wpOp_step rfl (fun K hK => ?_)
        have h5 := reL_s6 (ready_seen (k := 6) hi (by kernel_rfl))
        obtain ⟨h4, hv⟩ := r.p5 h5
        have t36 : bb.tmps[36]? = some (.tuple #[.agg #[.int .i64 q, .int .i64 P, .int .i64 S, .slice Al n' cl', .slice Ad n' cd'], .int .i64 C]) := by rw [fr.in_ (s := 36) (by decide) (by omega)]; exact congrArg some (hv.trans (r.p4 h4).1)
        go_simp
        refine hK _ _ ⟨_, fr.put (s := 43) (by decide) _, ⟨_, _, _, _, _, _, _, _, _, by rw [reL_7 hnl]; exact r.i6 h4⟩, fun a => by first | exact m1 ((seen_set a).resolve_left (by decide)) | (simp only [updX]; exact m1 ((seen_set a).resolve_left (by decide))), fun a => by first | exact m2 ((seen_set a).resolve_left (by decide)) | (simp only [updX]; exact m2 ((seen_set a).resolve_left (by decide))), fun a => by first | exact m3 ((seen_set a).resolve_left (by decide)) | (simp only [updX]; exact m3 ((seen_set a).resolve_left (by decide)))⟩
      · refine wpOp_step rfl (fun K hK => ?_)
        have h5 := reL_s6 (ready_seen (k := 6) hi (by kernel_rfl))
        obtain ⟨h4, hv⟩ := r.p5 h5
        have t36 : bb.tmps[36]? = some (.tuple #[.agg #[.int .i64 q, .int .i64 P, .int .i64 S, .slice Al n' cl', .slice Ad n' cd'], .int .i64 C]) := by rw [fr.in_ (s := 36) (by decide) (by omega)]; exact congrArg some (hv.trans (r.p4 h4).1)
        go_simp
        refine hK _ _ ⟨_, fr.put (s := 44) (by decide) _, ⟨_, _, _, _, _, _, _, _, _, by rw [reL_8 hnl]; exact r.i7⟩, fun a => by first | exact m1 ((seen_set a).resolve_left (by decide)) | (simp only [updX]; exact m1 ((seen_set a).resolve_left (by decide))), fun a => by first | exact m2 ((seen_set a).resolve_left (by decide)) | (simp only [updX]; exact m2 ((seen_set a).resolve_left (by decide))), fun a => by first | exact m3 ((seen_set a).resolve_left (by decide)) | (simp only [updX]; exact m3 ((seen_set a).resolve_left (by decide)))⟩
      · refine wpOp_step rfl (fun K hK => ?_)
        go_simp
        refine hK _ _ ⟨_, fr.put (s := 9) (by decide) _, ⟨_, _, _, _, _, _, _, _, _, by rw [reL_9 hnl]; exact r.i8 (reL_n9 hnl)⟩, fun a => by first | exact m1 ((seen_set a).resolve_left (by decide)) | (simp only [updX]; exact m1 ((seen_set a).resolve_left (by decide))), fun a => by first | exact m2 ((seen_set a).resolve_left (by decide)) | (simp only [updX]; exact m2 ((seen_set a).resolve_left (by decide))), fun a => by first | exact m3 ((seen_set a).resolve_left (by decide)) | (simp only [updX]; exact m3 ((seen_set a).resolve_left (by decide)))⟩
      · refine wpOp_step rfl (fun K hK => ?_)
        have h8 := reL_s9 (ready_seen (k := 9) hi (by kernel_rfl))
        have h6 := reL_s7 (ready_seen (k := 7) hi (by kernel_rfl))
        obtain ⟨h4, hv⟩ := r.p6 h6
        obtain ⟨hp, _, _, hk0⟩ := r.p8 h8
        obtain ⟨v0, v1, v2, v3, v4⟩ := (hk0 (not_seen (reL_n10 hnl))).five
        have vf := (hk0 (not_seen (reL_n10 hnl))).frees
        have t9 : bb.tmps[9]? = some (.pointer (some ⟨h, 0, none⟩)) := by rw [fr.in_ (s := 9) (by decide) (by omega)]; exact congrArg some hp
        have t43 : bb.tmps[43]? = some (.agg #[.int .i64 q, .int .i64 P, .int .i64 S, .slice Al n' cl', .slice Ad n' cd']) := by rw [fr.in_ (s := 43) (by decide) (by omega)]; exact congrArg some hv
        go_simp
        refine hK _ _ ⟨xs, fr, ⟨_, _, _, _, _, _, _, _, _, by rw [reL_10 hnl]; exact r.i9 (reL_n10 hnl) h4 h8⟩, fun a => by first | exact m1 ((seen_set a).resolve_left (by decide)) | (simp only [updX]; exact m1 ((seen_set a).resolve_left (by decide))), fun a => by first | exact m2 ((seen_set a).resolve_left (by decide)) | (simp only [updX]; exact m2 ((seen_set a).resolve_left (by decide))), fun a => by first | exact m3 ((seen_set a).resolve_left (by decide)) | (simp only [updX]; exact m3 ((seen_set a).resolve_left (by decide)))⟩
      · refine wpOp_step rfl (fun K hK => ?_)
        have h7 := reL_s8 (ready_seen (k := 8) hi (by kernel_rfl))
        have t44 : bb.tmps[44]? = some (.int .i64 C) := by rw [fr.in_ (s := 44) (by decide) (by omega)]; exact congrArg some (r.p7 h7)
        go_simp
        refine hK _ _ ⟨_, fr.put (s := 10) (by decide) _, ⟨_, _, _, _, _, _, _, _, _, by rw [reL_11 hnl]; exact r.i10⟩, fun a => by first | exact m1 ((seen_set a).resolve_left (by decide)) | (simp only [updX]; exact m1 ((seen_set a).resolve_left (by decide))), fun a => by first | exact m2 ((seen_set a).resolve_left (by decide)) | (simp only [updX]; exact m2 ((seen_set a).resolve_left (by decide))), fun a => by first | exact m3 ((seen_set a).resolve_left (by decide)) | (simp only [updX]; exact m3 ((seen_set a).resolve_left (by decide)))⟩
    rintro xs l wc ⟨⟨B, B', Al, Ad, d, d', cl', cd', h, r⟩, _, _, _⟩ hall
    obtain ⟨_, hR⟩ := r.p4 (reL_s5 (hall 5 (by decide)))
    obtain ⟨hx6, hge, _, _⟩ := r.p8 (reL_s9 (hall 9 (by decide)))
    obtain ⟨_, _, hK⟩ := r.p9 (reL_s10 (hall 10 (by decide)))
    have hx7 := r.p10 (reL_s11 (hall 11 (by decide)))
    have hsep := r.p48 (reL_s5 (hall 5 (by decide))) (reL_s9 (hall 9 (by decide)))
    have hbel := r.bel
    simp only [List.foldl_cons, List.foldl_nil, List.setIfInBounds_toArray, List.set_cons_succ, List.set_cons_zero, hx6, hx7]
    obtain ⟨gl9, rfl, hl9, ol9⟩ := hR.1 (by omega)
    obtain ⟨gd9, rfl, hd9, od9⟩ := hR.2.1 (by omega)
    have sl9 : gl9 ≠ h := hsep (by omega) _ (.inl ⟨0, rfl⟩)
    have sd9 : gd9 ≠ h := hsep (by omega) _ (.inr ⟨0, rfl⟩)
    obtain ⟨hx9, ehx⟩ : ∃ x, x = h := ⟨_, rfl⟩
    subst ehx
    obtain ⟨wq9, ewc⟩ : ∃ x, x = wc := ⟨_, rfl⟩
    subst ewc
    have HX := Lib.hid (HX8.out.bel hbel)
    have HXL := Lib.hid (HL8.out.bel hbel)
    have HXD := Lib.hid (HD8.out.bel hbel)
    have HY := Lib.hid hK
    have HYL := Lib.hid ol9
    have HYD := Lib.hid od9
    have HT := Lib.hid (HT8.out.bel hbel)
    have HB9 := Lib.hid (HB8.out.trans (hbel.mono hzr8))
    clear r hR hK hsep hbel ol9 od9 hall HX8 HL8 HD8 HT8 HB8 HRL8 HRD8 HI HS
    obtain ⟨x0, x1, x2, x3, x4⟩ := HX.out.five
    obtain ⟨y0, y1, y2, y3, y4⟩ := HY.out.five
    go_wp2_with fail
    refine (stBand_t q P S _ _ _ _ n' _ _ _ _ (by omega) (by omega) F D wq9 wq9 (Below.refl _ _) HXL.out.rwl HXD.out.rwl HYL.out.rwl HYD.out.rwl).mono ?_
    rintro e wS ⟨rfl, hbS⟩
    clear x0 x1 x2 x3 x4 y0 y1 y2 y3 y4
    have HX2 := Lib.hid (HX.out.bel hbS)
    have HXL2 := Lib.hid (HXL.out.bel hbS)
    have HXD2 := Lib.hid (HXD.out.bel hbS)
    have HY2 := Lib.hid (HY.out.bel hbS)
    have HYL2 := Lib.hid (HYL.out.bel hbS)
    have HYD2 := Lib.hid (HYD.out.bel hbS)
    have HT2 := Lib.hid (HT.out.bel hbS)
    have hz9 := HB9.out.size
    have HB2 := Lib.hid (HB9.out.trans (hbS.mono hz9))
    have hzS := hbS.size
    clear hbS HX HXL HXD HY HYL HYD HT HB9
    obtain ⟨x0, x1, x2, x3, x4⟩ := HX2.out.five
    go_wp2_with fail
    refine (iBandOk_any q P S _ _ n' n' _ _ (by omega) (by omega) F D wS wS (Below.refl _ _) HXL2.out.rwl HXD2.out.rwl).mono ?_
    rintro e wT ⟨rfl, hbT⟩
    clear x0 x1 x2 x3 x4
    have hok : bandOk q P S n' n' F D = true := HOK'.out
    rw [hok]
    clear hok
    have HX := Lib.hid (HX2.out.bel hbT)
    have HXL := Lib.hid (HXL2.out.bel hbT)
    have HXD := Lib.hid (HXD2.out.bel hbT)
    have HY := Lib.hid (HY2.out.bel hbT)
    have HYL := Lib.hid (HYL2.out.bel hbT)
    have HYD := Lib.hid (HYD2.out.bel hbT)
    have HT := Lib.hid (HT2.out.bel hbT)
    have HB := Lib.hid (HB2.out.trans (hbT.mono (by omega)))
    have hzT := hbT.size
    clear hbT HX2 HXL2 HXD2 HY2 HYL2 HYD2 HT2 HB2
    obtain ⟨x0, x1, x2, x3, x4⟩ := HX.out.five
    obtain ⟨t0, t1, t2, t3, t4⟩ := HT.out.five
    have tf := HT.out.frees
    obtain ⟨r0, r1, r2⟩ := HROW.out wT HB.out
    obtain ⟨_, _, _, _, _, p0, p1, s0, s1, hf, hsum⟩ := bandOk_facts _ _ _ _ _ _ _ HOK'.out
    obtain ⟨_, _, _, _, _, _, _, bs0, bs1, _, _⟩ := bandOk_facts _ _ _ _ _ _ _ HOK.out
    have HF := Lib.hid hf
    have HSUM := Lib.hid hsum
    have HSB : Hid (∀ j, j ≤ n' → 0 ≤ sumTo F j ∧ sumTo F j ≤ 40000) := fun j hj => by
      obtain ⟨c0, c1⟩ := sumTo_b F q j (fun i hi => ⟨(HF.out i (by omega)).1, (HF.out i (by omega)).2.1⟩)
      have : (j : Int) * q ≤ 4 * 10000 := Int.mul_le_mul (by omega) q1 (by omega) (by omega)
      omega
    have hcase : (C = 0 ∧ kind = 2 ∧ S = b.s + kk) ∨ (C = 0 ∧ kind = 4 ∧ S = 0) ∨ (C = 0 ∧ kind ≠ 2 ∧ kind ≠ 4 ∧ S = b.s) ∨ (C ≠ 0 ∧ S = b.s) := by
      have h := HSP.out
      by_cases a1 : C = 0
      · by_cases a2 : kind = 2
        · exact .inl ⟨a1, a2, by rw [h, if_pos ⟨a1, a2⟩]⟩
        · by_cases a3 : kind = 4
          · exact .inr (.inl ⟨a1, a3, by rw [h, if_neg (fun x => a2 x.2), if_pos ⟨a1, a3⟩]⟩)
          · exact .inr (.inr (.inl ⟨a1, a2, a3, by rw [h, if_neg (fun x => a2 x.2), if_neg (fun x => a3 x.2)]⟩))
      · exact .inr (.inr (.inr ⟨a1, by rw [h, if_neg (fun x => a1 x.1), if_neg (fun x => a1 x.1)]⟩))
    clear hf hsum HSP
    have hqS : decide (q < S) = false := by simp; omega
    rcases hcase with ⟨rfl, rfl, hS0⟩ | ⟨rfl, rfl, hS0⟩ | ⟨rfl, k2, k4, hS0⟩ | ⟨cn, hS0⟩
    · skip
      have hS := Lib.hid hS0
      have nS : (S != b.s + kk) = false := by rw [← hS0]; simp
      have qS : decide (q < b.s + kk) = false := by rw [← hS0]; exact hqS
      clear hS0 hqS
      go_wp2_with fail
      go_loop [11, 12] (fun t i => ∃ j : Nat, j ≤ n' ∧ i = .int .i64 j ∧ t = .int .i64 (P + S + sumTo F j)) (fun _ i => n' - (intOf i).toNat)
      case atStart => exact ⟨0, Nat.zero_le _, rfl, by simp [sumTo]⟩
      case round =>
        obtain ⟨j, hj, rfl, rfl⟩ := hrel
        obtain ⟨c0, c1⟩ := HSB.out j hj
        by_cases hlj : j < n'
        · obtain ⟨i0, i1, i2⟩ := HF.out j hlj
          have l0 : wT.cell? ⟨gl8, j, none⟩ = some (.int .i64 (F j)) := HXL.out.2.1 j hlj
          have d0 : wT.cell? ⟨gd8, j, none⟩ = some (.bool (D j)) := HXD.out.2.1 j hlj
          have HSJ : Hid (sumTo F (j + 1) = sumTo F j + F j) := rfl
          cases hd : D j
          · rw [hd] at d0
            clear i2
            go_wp2
            go_round
            case rel => exact ⟨j + 1, by omega, by go_num, by rw [HSJ.out]; go_num⟩
            case measure => simp [intOf]; omega
          · rw [hd] at d0
            obtain ⟨i3, i4⟩ := i2 hd
            have i5 : decide (0 < P) = false := by simp; omega
            clear i2 i3 i4
            go_wp2
            go_round
            case rel => exact ⟨j + 1, by omega, by go_num, by rw [HSJ.out]; go_num⟩
            case measure => simp [intOf]; omega
        · obtain rfl : j = n' := by omega
          have hq : (P + S + sumTo F j != q) = false := by rw [HSUM.out]; simp
          have kf := ((((HT.out.put 0 (.int .i64 q)).put 1 (.int .i64 P)).put 2 (.int .i64 S)).put 3 (.slice (some ⟨gl9, 0, none⟩) j cl')).put 4 (.slice (some ⟨gd9, 0, none⟩) j cd')
          have KF := Lib.hid (show Bk _ wg.heap.size 25 #[.int .i64 q, .int .i64 P, .int .i64 S, .slice (some ⟨gl9, 0, none⟩) j cl', .slice (some ⟨gd9, 0, none⟩) j cd'] from kf)
          have ee : ∀ o, (fun b => b = wg.heap.size) (⟨wg.heap.size, o, none⟩ : Addr).block := fun _ => rfl
          have hkk := (((((Kept.refl (fun b => b = wg.heap.size) wT).setCell (q := ⟨wg.heap.size, 0, none⟩) (ee 0) (.int .i64 q)).setCell (q := ⟨wg.heap.size, 1, none⟩) (ee 1) (.int .i64 P)).setCell (q := ⟨wg.heap.size, 2, none⟩) (ee 2) (.int .i64 S)).setCell (q := ⟨wg.heap.size, 3, none⟩) (ee 3) (.slice (some ⟨gl9, 0, none⟩) j cl')).setCell (q := ⟨wg.heap.size, 4, none⟩) (ee 4) (.slice (some ⟨gd9, 0, none⟩) j cd')
          have HKK := Lib.hid hkk
          clear kf hkk
          go_wp2_with (refine wpList_load_row rfl 25 _ rfl hx9 rfl 25 _ (0, 0) _ HY.out Try.underlying25 rfl (by kernel_rfl) ?_)
          go_roundw
          case rel => exact ⟨k + 1, ⟨P, S, F, D⟩, gl9, gd9, cl', cd', by omega, by rw [hS.out], by go_num, HOK', KF, Lib.hid (HYL.out.kept HKK.out (by show ¬ gl9 = wg.heap.size; omega)), Lib.hid (HYD.out.kept HKK.out (by show ¬ gd9 = wg.heap.size; omega)), by omega, by omega, Lib.hid (HB.out.trans (HKK.out.below HB.out.size (fun b e => by omega)))⟩
          case measure => simp [intOf]; omega
    · skip
      have hS := Lib.hid hS0
      have nS : (S != 0) = false := by rw [← hS0]; simp
      have qS : decide (q < 0) = false := by rw [← hS0]; exact hqS
      clear hS0 hqS
      go_wp2_with fail
      go_loop [11, 12] (fun t i => ∃ j : Nat, j ≤ n' ∧ i = .int .i64 j ∧ t = .int .i64 (P + S + sumTo F j)) (fun _ i => n' - (intOf i).toNat)
      case atStart => exact ⟨0, Nat.zero_le _, rfl, by simp [sumTo]⟩
      case round =>
        obtain ⟨j, hj, rfl, rfl⟩ := hrel
        obtain ⟨c0, c1⟩ := HSB.out j hj
        by_cases hlj : j < n'
        · obtain ⟨i0, i1, i2⟩ := HF.out j hlj
          have l0 : wT.cell? ⟨gl8, j, none⟩ = some (.int .i64 (F j)) := HXL.out.2.1 j hlj
          have d0 : wT.cell? ⟨gd8, j, none⟩ = some (.bool (D j)) := HXD.out.2.1 j hlj
          have HSJ : Hid (sumTo F (j + 1) = sumTo F j + F j) := rfl
          cases hd : D j
          · rw [hd] at d0
            clear i2
            go_wp2
            go_round
            case rel => exact ⟨j + 1, by omega, by go_num, by rw [HSJ.out]; go_num⟩
            case measure => simp [intOf]; omega
          · rw [hd] at d0
            obtain ⟨i3, i4⟩ := i2 hd
            have i5 : decide (0 < P) = false := by simp; omega
            clear i2 i3 i4
            go_wp2
            go_round
            case rel => exact ⟨j + 1, by omega, by go_num, by rw [HSJ.out]; go_num⟩
            case measure => simp [intOf]; omega
        · obtain rfl : j = n' := by omega
          have hq : (P + S + sumTo F j != q) = false := by rw [HSUM.out]; simp
          have kf := ((((HT.out.put 0 (.int .i64 q)).put 1 (.int .i64 P)).put 2 (.int .i64 S)).put 3 (.slice (some ⟨gl9, 0, none⟩) j cl')).put 4 (.slice (some ⟨gd9, 0, none⟩) j cd')
          have KF := Lib.hid (show Bk _ wg.heap.size 25 #[.int .i64 q, .int .i64 P, .int .i64 S, .slice (some ⟨gl9, 0, none⟩) j cl', .slice (some ⟨gd9, 0, none⟩) j cd'] from kf)
          have ee : ∀ o, (fun b => b = wg.heap.size) (⟨wg.heap.size, o, none⟩ : Addr).block := fun _ => rfl
          have hkk := (((((Kept.refl (fun b => b = wg.heap.size) wT).setCell (q := ⟨wg.heap.size, 0, none⟩) (ee 0) (.int .i64 q)).setCell (q := ⟨wg.heap.size, 1, none⟩) (ee 1) (.int .i64 P)).setCell (q := ⟨wg.heap.size, 2, none⟩) (ee 2) (.int .i64 S)).setCell (q := ⟨wg.heap.size, 3, none⟩) (ee 3) (.slice (some ⟨gl9, 0, none⟩) j cl')).setCell (q := ⟨wg.heap.size, 4, none⟩) (ee 4) (.slice (some ⟨gd9, 0, none⟩) j cd')
          have HKK := Lib.hid hkk
          clear kf hkk
          go_wp2_with (refine wpList_load_row rfl 25 _ rfl hx9 rfl 25 _ (0, 0) _ HY.out Try.underlying25 rfl (by kernel_rfl) ?_)
          go_roundw
          case rel => exact ⟨k + 1, ⟨P, S, F, D⟩, gl9, gd9, cl', cd', by omega, by rw [hS.out], by go_num, HOK', KF, Lib.hid (HYL.out.kept HKK.out (by show ¬ gl9 = wg.heap.size; omega)), Lib.hid (HYD.out.kept HKK.out (by show ¬ gd9 = wg.heap.size; omega)), by omega, by omega, Lib.hid (HB.out.trans (HKK.out.below HB.out.size (fun b e => by omega)))⟩
          case measure => simp [intOf]; omega
    · have k2' : (kind == 2) = false := by simpa using k2
      have k4' : (kind == 4) = false := by simpa using k4
      clear k2 k4
      have hS := Lib.hid hS0
      have nS : (S != b.s) = false := by rw [← hS0]; simp
      have qS : decide (q < b.s) = false := by rw [← hS0]; exact hqS
      clear hS0 hqS
      go_wp2_with fail
      go_loop [11, 12] (fun t i => ∃ j : Nat, j ≤ n' ∧ i = .int .i64 j ∧ t = .int .i64 (P + S + sumTo F j)) (fun _ i => n' - (intOf i).toNat)
      case atStart => exact ⟨0, Nat.zero_le _, rfl, by simp [sumTo]⟩
      case round =>
        obtain ⟨j, hj, rfl, rfl⟩ := hrel
        obtain ⟨c0, c1⟩ := HSB.out j hj
        by_cases hlj : j < n'
        · obtain ⟨i0, i1, i2⟩ := HF.out j hlj
          have l0 : wT.cell? ⟨gl8, j, none⟩ = some (.int .i64 (F j)) := HXL.out.2.1 j hlj
          have d0 : wT.cell? ⟨gd8, j, none⟩ = some (.bool (D j)) := HXD.out.2.1 j hlj
          have HSJ : Hid (sumTo F (j + 1) = sumTo F j + F j) := rfl
          cases hd : D j
          · rw [hd] at d0
            clear i2
            go_wp2
            go_round
            case rel => exact ⟨j + 1, by omega, by go_num, by rw [HSJ.out]; go_num⟩
            case measure => simp [intOf]; omega
          · rw [hd] at d0
            obtain ⟨i3, i4⟩ := i2 hd
            have i5 : decide (0 < P) = false := by simp; omega
            clear i2 i3 i4
            go_wp2
            go_round
            case rel => exact ⟨j + 1, by omega, by go_num, by rw [HSJ.out]; go_num⟩
            case measure => simp [intOf]; omega
        · obtain rfl : j = n' := by omega
          have hq : (P + S + sumTo F j != q) = false := by rw [HSUM.out]; simp
          have kf := ((((HT.out.put 0 (.int .i64 q)).put 1 (.int .i64 P)).put 2 (.int .i64 S)).put 3 (.slice (some ⟨gl9, 0, none⟩) j cl')).put 4 (.slice (some ⟨gd9, 0, none⟩) j cd')
          have KF := Lib.hid (show Bk _ wg.heap.size 25 #[.int .i64 q, .int .i64 P, .int .i64 S, .slice (some ⟨gl9, 0, none⟩) j cl', .slice (some ⟨gd9, 0, none⟩) j cd'] from kf)
          have ee : ∀ o, (fun b => b = wg.heap.size) (⟨wg.heap.size, o, none⟩ : Addr).block := fun _ => rfl
          have hkk := (((((Kept.refl (fun b => b = wg.heap.size) wT).setCell (q := ⟨wg.heap.size, 0, none⟩) (ee 0) (.int .i64 q)).setCell (q := ⟨wg.heap.size, 1, none⟩) (ee 1) (.int .i64 P)).setCell (q := ⟨wg.heap.size, 2, none⟩) (ee 2) (.int .i64 S)).setCell (q := ⟨wg.heap.size, 3, none⟩) (ee 3) (.slice (some ⟨gl9, 0, none⟩) j cl')).setCell (q := ⟨wg.heap.size, 4, none⟩) (ee 4) (.slice (some ⟨gd9, 0, none⟩) j cd')
          have HKK := Lib.hid hkk
          clear kf hkk
          go_wp2_with (refine wpList_load_row rfl 25 _ rfl hx9 rfl 25 _ (0, 0) _ HY.out Try.underlying25 rfl (by kernel_rfl) ?_)
          go_roundw
          case rel => exact ⟨k + 1, ⟨P, S, F, D⟩, gl9, gd9, cl', cd', by omega, by rw [hS.out], by go_num, HOK', KF, Lib.hid (HYL.out.kept HKK.out (by show ¬ gl9 = wg.heap.size; omega)), Lib.hid (HYD.out.kept HKK.out (by show ¬ gd9 = wg.heap.size; omega)), by omega, by omega, Lib.hid (HB.out.trans (HKK.out.below HB.out.size (fun b e => by omega)))⟩
          case measure => simp [intOf]; omega
    · have cn' : (C == 0) = false := by simpa using cn
      clear cn
      have hS := Lib.hid hS0
      have nS : (S != b.s) = false := by rw [← hS0]; simp
      have qS : decide (q < b.s) = false := by rw [← hS0]; exact hqS
      clear hS0 hqS
      go_wp2_with fail
      go_loop [11, 12] (fun t i => ∃ j : Nat, j ≤ n' ∧ i = .int .i64 j ∧ t = .int .i64 (P + S + sumTo F j)) (fun _ i => n' - (intOf i).toNat)
      case atStart => exact ⟨0, Nat.zero_le _, rfl, by simp [sumTo]⟩
      case round =>
        obtain ⟨j, hj, rfl, rfl⟩ := hrel
        obtain ⟨c0, c1⟩ := HSB.out j hj
        by_cases hlj : j < n'
        · obtain ⟨i0, i1, i2⟩ := HF.out j hlj
          have l0 : wT.cell? ⟨gl8, j, none⟩ = some (.int .i64 (F j)) := HXL.out.2.1 j hlj
          have d0 : wT.cell? ⟨gd8, j, none⟩ = some (.bool (D j)) := HXD.out.2.1 j hlj
          have HSJ : Hid (sumTo F (j + 1) = sumTo F j + F j) := rfl
          cases hd : D j
          · rw [hd] at d0
            clear i2
            go_wp2
            go_round
            case rel => exact ⟨j + 1, by omega, by go_num, by rw [HSJ.out]; go_num⟩
            case measure => simp [intOf]; omega
          · rw [hd] at d0
            obtain ⟨i3, i4⟩ := i2 hd
            have i5 : decide (0 < P) = false := by simp; omega
            clear i2 i3 i4
            go_wp2
            go_round
            case rel => exact ⟨j + 1, by omega, by go_num, by rw [HSJ.out]; go_num⟩
            case measure => simp [intOf]; omega
        · obtain rfl : j = n' := by omega
          have hq : (P + S + sumTo F j != q) = false := by rw [HSUM.out]; simp
          have kf := ((((HT.out.put 0 (.int .i64 q)).put 1 (.int .i64 P)).put 2 (.int .i64 S)).put 3 (.slice (some ⟨gl9, 0, none⟩) j cl')).put 4 (.slice (some ⟨gd9, 0, none⟩) j cd')
          have KF := Lib.hid (show Bk _ wg.heap.size 25 #[.int .i64 q, .int .i64 P, .int .i64 S, .slice (some ⟨gl9, 0, none⟩) j cl', .slice (some ⟨gd9, 0, none⟩) j cd'] from kf)
          have ee : ∀ o, (fun b => b = wg.heap.size) (⟨wg.heap.size, o, none⟩ : Addr).block := fun _ => rfl
          have hkk := (((((Kept.refl (fun b => b = wg.heap.size) wT).setCell (q := ⟨wg.heap.size, 0, none⟩) (ee 0) (.int .i64 q)).setCell (q := ⟨wg.heap.size, 1, none⟩) (ee 1) (.int .i64 P)).setCell (q := ⟨wg.heap.size, 2, none⟩) (ee 2) (.int .i64 S)).setCell (q := ⟨wg.heap.size, 3, none⟩) (ee 3) (.slice (some ⟨gl9, 0, none⟩) j cl')).setCell (q := ⟨wg.heap.size, 4, none⟩) (ee 4) (.slice (some ⟨gd9, 0, none⟩) j cd')
          have HKK := Lib.hid hkk
          clear kf hkk
          go_wp2_with (refine wpList_load_row rfl 25 _ rfl hx9 rfl 25 _ (0, 0) _ HY.out Try.underlying25 rfl (by kernel_rfl) ?_)
          go_roundw
          case rel => exact ⟨k + 1, ⟨P, S, F, D⟩, gl9, gd9, cl', cd', by omega, by rw [hS.out], by go_num, HOK', KF, Lib.hid (HYL.out.kept HKK.out (by show ¬ gl9 = wg.heap.size; omega)), Lib.hid (HYD.out.kept HKK.out (by show ¬ gd9 = wg.heap.size; omega)), by omega, by omega, Lib.hid (HB.out.trans (HKK.out.below HB.out.size (fun b e => by omega)))⟩
          case measure => simp [intOf]; omega
theorem own : ownKnob Try.prog.godebug = none := by kernel_rfl
theorem laidOut : laidOutB Try.prog = true := by kernel_rfl
set_option maxRecDepth 100000 in
theorem lifted (os : Os) (started : os.Started) (H : Type) (enc : TypeId × Value → H) :
    ReturnsInHanded {} Try.checked os 6 .any (Rows.fnBandTopSpec.pre6 enc Try.prog Try.f6 Rows.fnBandTopRow.domain false) (Rows.fnBandTopSpec.post enc Try.prog Try.f6 false true false false) := by
  refine returnsInHanded_of_change (C := Try.checked) own started (by kernel_rfl) Try.func6
    (ChangeSpec.witness6 (enc := enc) (C := Try.checked) false ⟨#[], #[.slice none 0 0], []⟩ 8 (by kernel_rfl) (by kernel_rfl) (by kernel_rfl) (by kernel_rfl)) ?_
  intro W base args ds gs before hval0 hW hcnd _
  have hval : ∀ (j : Nat) t v, Try.f6.params[j]? = some t → args[j]? = some v → Value.okWide Try.prog W .any base t v := hval0
  have hW' := hW
  obtain ⟨p, q, hA0, hV, rfl, hfz, hnd⟩ := hW
  have hA : DataW.TrodAll enc Try.prog W 0 (fun _ => true) true Try.f6.params.toList args.toList ds p := hA0
  rw [Try.params6] at hA hval
  obtain ⟨v0, vs0, d0, ds0, p0, q0, hargs, rfl, rfl, h0, r0⟩ := trodAll_cons hA
  obtain ⟨rfl, rfl, rfl⟩ := trodAll_nil r0
  obtain rfl : args = #[v0] := by cases args; simp_all
  obtain ⟨rfl, rfl⟩ := trodVars_none hV
  have k0 := h0
  have lt0 : ∀ x ∈ p0, x.block < W.heap.size := by obtain ⟨m, hm⟩ := k0; exact DataW.trod_lt m _ _ _ hm
  obtain ⟨Ax0, nx0, cx0, zx0, rfl, hcx0, hc2x0, hAx0, hzx0⟩ := open_lawsBytes (hval 0 37 v0 rfl rfl) h0
  clear hA0 hval0
  refine (walk Ax0 nx0 cx0 zx0 W hcx0 hc2x0 hAx0 hzx0).mono fun e W' ⟨he, bel⟩ => ?_
  subst he
  exact ⟨_, rfl, _, _, _, [], _, [], hW', trodAll_mk1 (shut_bool Try.underlying4 _), (trodAll_cons_mk (Below.trod laidOut (by kernel_rfl) (of_decide_eq_true (by kernel_rfl)) k0 bel lt0) trodAll_mk0), rfl, bel.frame _, fun h => by cases h⟩
theorem over : Rows.fnBandTopRow.holds Try.pinned (OpenSpec.ofChange Rows.fnBandTopSpec) :=
  OpenClaim.holds_of_wide 6 Try.f6 rfl rfl rfl rfl rfl rfl rfl ⟨rfl, rfl, rfl, rfl, rfl⟩ rfl rfl rfl rfl rfl (by kernel_rfl) Try.func6 (by kernel_rfl)
    (of_decide_eq_true (by kernel_rfl)) (by unfold Func.isWrapper; first | (rw [if_pos (by decide +kernel)]; kernel_rfl) | (rw [if_neg (by decide +kernel)]; exact ⟨rfl, rfl⟩))
    (fun os started H enc _ => lifted os started H enc)
theorem proved : Rows.FnBandTopSaid := over
end Go.Proofs.Ytbgmjcfnehnicaa.fnBandTop

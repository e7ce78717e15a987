/- Worlds: the reference: small functions (printed by mkv.py). -/
import Derived.Test.YtndbmeedimhohaaGreatFCI
namespace Go.Proofs.YtndbmeedimhohaaGreat
open Go.RowKit
set_option maxHeartbeats 4000000 in
set_option maxRecDepth 100000 in
theorem sUps_any (V : WV) (a : WA) (hn : V.cn ≤ 4) (w : World) (m : MR w V a) :
    Calls Tryz.prog 41 #[.agg #[.int .i64 V.now, .slice (some ⟨a.ca, a.oc, none⟩) V.cn a.cc, .slice (some ⟨a.ta, a.ot, none⟩) V.tn a.tc, .slice (some ⟨a.ga, a.og, none⟩) V.gn a.gc]] w fun e w' => e = .returned (.int .i64 (ups V)) ∧ Below w.heap.size w w' := by
  have hbx : Below w.heap.size w (w.alloc (.cells #[.int .i64 V.now, .slice (some ⟨a.ca, a.oc, none⟩) V.cn a.cc, .slice (some ⟨a.ta, a.ot, none⟩) V.tn a.tc, .slice (some ⟨a.ga, a.og, none⟩) V.gn a.gc] 33)) := (Below.refl _ w).alloc (Nat.le_refl _) _
  have HM : Hid (MR (w.alloc (.cells #[.int .i64 V.now, .slice (some ⟨a.ca, a.oc, none⟩) V.cn a.cc, .slice (some ⟨a.ta, a.ot, none⟩) V.tn a.tc, .slice (some ⟨a.ga, a.og, none⟩) V.gn a.gc] 33)) V a) := m.below hbx
  clear m
  go_enter Tryz.func41, Tryz.ntmps41
  go_wp2
  go_loop [3, 4] (fun s i => ∃ k : Nat, k ≤ V.cn ∧ i = .int .i64 k ∧ s = .int .i64 (upsTo V k)) (fun _ i => V.cn - (intOf i).toNat)
  case atStart => exact ⟨0, Nat.zero_le _, rfl, rfl⟩
  case round =>
    obtain ⟨k, hk, rfl, rfl⟩ := hrel
    by_cases hlt : k < V.cn
    · have c0 := HM.out.c k hlt 0 _ rfl
      rw [Nat.add_zero] at c0
      have hub := upsTo_b V k
      cases hu : (V.cv k).up
      · have HS : Hid (upsTo V (k + 1) = upsTo V k) := by show _ = _; simp [upsTo, hu]
        rw [hu] at c0
        go_wp2
        go_round
        case rel => exact ⟨k + 1, by omega, by go_num, by rw [HS.out]⟩
        case measure => simp [intOf]; omega
      · have HS : Hid (upsTo V (k + 1) = upsTo V k + 2 ^ k) := by show _ = _; simp [upsTo, hu]
        rw [hu] at c0
        have HP : Hid (wrap64 (2 ^ k) = 2 ^ k ∧ wrap64 (upsTo V k + 2 ^ k) = upsTo V k + 2 ^ k) := ⟨wrapPow k (by omega), by
          have : (2 : Int) ^ k ≤ 8 := by rcases (by omega : k = 0 ∨ k = 1 ∨ k = 2 ∨ k = 3) with e | e | e | e <;> subst e <;> decide
          rw [wrap64]; omega⟩
        go_wp2
        go_round
        case rel => exact ⟨k + 1, by omega, by go_num, by simp [HS.out, HP.out.1, HP.out.2]⟩
        case measure => simp [intOf]; omega
    · obtain rfl : k = V.cn := by omega
      go_wp2
      go_ret
      exact ⟨rfl, hbx⟩
set_option maxHeartbeats 4000000 in
set_option maxRecDepth 100000 in
theorem sDry_any (V : WV) (a : WA) (g c : Nat) (hg : g < V.gn) (_h8 : V.gn ≤ 1048576) (hc : 0 < (V.gv g).qu → c < (V.gv g).dn) (h9 : (V.gv g).dn ≤ 1048576) (w : World) (m : MR w V a) :
    Calls Tryz.prog 52 #[.agg #[.int .i64 V.now, .slice (some ⟨a.ca, a.oc, none⟩) V.cn a.cc, .slice (some ⟨a.ta, a.ot, none⟩) V.tn a.tc, .slice (some ⟨a.ga, a.og, none⟩) V.gn a.gc], .int .i64 g, .int .i64 c] w fun e w' => e = .returned (.bool (dryB V g c)) ∧ Below w.heap.size w w' := by
  have hbx : Below w.heap.size w (w.alloc (.cells #[.int .i64 V.now, .slice (some ⟨a.ca, a.oc, none⟩) V.cn a.cc, .slice (some ⟨a.ta, a.ot, none⟩) V.tn a.tc, .slice (some ⟨a.ga, a.og, none⟩) V.gn a.gc] 33)) := (Below.refl _ w).alloc (Nat.le_refl _) _
  have HM : Hid (MR (w.alloc (.cells #[.int .i64 V.now, .slice (some ⟨a.ca, a.oc, none⟩) V.cn a.cc, .slice (some ⟨a.ta, a.ot, none⟩) V.tn a.tc, .slice (some ⟨a.ga, a.og, none⟩) V.gn a.gc] 33)) V a) := m.below hbx
  have c8 := HM.out.g g hg 8 _ rfl
  have c9 := HM.out.g g hg 9 _ rfl
  have c10 := HM.out.g g hg 10 _ rfl
  have c11 := HM.out.g g hg 11 _ rfl
  have c12 := HM.out.g g hg 12 _ rfl
  by_cases hq : 0 < (V.gv g).qu
  · have hcd := hc hq
    obtain ⟨s1, s2, s3⟩ := HM.out.y g hg (by omega)
    have hcc := s3 c hcd
    have s2' := hbx.size
    rw [s1] at c12
    have hgl := HM.out.gl
    have y2 : ∀ o, ((w.alloc (.cells #[.int .i64 V.now, .slice (some ⟨a.ca, a.oc, none⟩) V.cn a.cc, .slice (some ⟨a.ta, a.ot, none⟩) V.tn a.tc, .slice (some ⟨a.ga, a.og, none⟩) V.gn a.gc] 33)).alloc o).cell? ⟨a.db g, a.dO g + c, none⟩ = some (.bool ((V.gv g).df c)) := fun o => (((Below.refl _ (w.alloc (.cells #[.int .i64 V.now, .slice (some ⟨a.ca, a.oc, none⟩) V.cn a.cc, .slice (some ⟨a.ta, a.ot, none⟩) V.tn a.tc, .slice (some ⟨a.ga, a.og, none⟩) V.gn a.gc] 33))).alloc (Nat.le_refl _) o).cell (p := ⟨a.db g, a.dO g + c, none⟩) s2).trans hcc
    clear m s3 s1 hc hgl s2'
    go_enter Tryz.func52, Tryz.ntmps52
    go_wp2
    go_ret
    exact ⟨ret_boolB (by simp [dryB, hq]), by go_grown⟩
  · have HN := Lib.hid (show dryB V g c = false by simp [dryB, hq])
    clear m hc
    go_enter Tryz.func52, Tryz.ntmps52
    go_wp2
    go_ret
    exact ⟨ret_boolB HN.out.symm, by go_grown⟩
set_option maxHeartbeats 4000000 in
set_option maxRecDepth 100000 in
theorem sQueued_any (V : WV) (a : WA) (g c : Nat) (hg : g < V.gn) (_h8 : V.gn ≤ 1048576) (hc : c < (V.gv g).sn) (h9 : (V.gv g).sn ≤ 1048576) (w : World) (m : MR w V a) :
    Calls Tryz.prog 57 #[.agg #[.int .i64 V.now, .slice (some ⟨a.ca, a.oc, none⟩) V.cn a.cc, .slice (some ⟨a.ta, a.ot, none⟩) V.tn a.tc, .slice (some ⟨a.ga, a.og, none⟩) V.gn a.gc], .int .i64 g, .int .i64 c] w fun e w' => e = .returned (.bool ((V.gv g).s1 c)) ∧ Below w.heap.size w w' := by
  have hbx : Below w.heap.size w (w.alloc (.cells #[.int .i64 V.now, .slice (some ⟨a.ca, a.oc, none⟩) V.cn a.cc, .slice (some ⟨a.ta, a.ot, none⟩) V.tn a.tc, .slice (some ⟨a.ga, a.og, none⟩) V.gn a.gc] 33)) := (Below.refl _ w).alloc (Nat.le_refl _) _
  have HM : Hid (MR (w.alloc (.cells #[.int .i64 V.now, .slice (some ⟨a.ca, a.oc, none⟩) V.cn a.cc, .slice (some ⟨a.ta, a.ot, none⟩) V.tn a.tc, .slice (some ⟨a.ga, a.og, none⟩) V.gn a.gc] 33)) V a) := m.below hbx
  have c13 := HM.out.g g hg 13 _ rfl
  obtain ⟨s1, s2, s3⟩ := HM.out.s g hg (by omega)
  have d1 := s3 c hc 1 _ rfl
  rw [s1] at c13
  clear m s3 s1
  go_enter Tryz.func57, Tryz.ntmps57
  go_wp2
  go_ret
  exact ⟨rfl, hbx⟩
set_option maxHeartbeats 4000000 in
set_option maxRecDepth 100000 in
theorem sStand_any (v f x : Int) (w : World) :
    Calls Tryz.prog 79 #[.int .i64 v, .int .i64 f, .int .i64 x] w fun e w' => e = .returned (.bool (standS v f x)) ∧ w = w' := by
  by_cases h : f ≤ v
  · go_enter Tryz.func79, Tryz.ntmps79
    go_wp2_with (go_at_call 105; refine (sLagMost_any _ _).mono ?_; rintro e w1 ⟨rfl, rfl⟩)
    go_ret
    exact ⟨ret_boolB (by unfold standS; rw [decide_eq_true h, Bool.true_and, show IntKind.i64.wrap (v - f) = wrap64 (v - f) by rw [IntKind.wrap_i64, wrap64]]), rfl⟩
  · go_enter Tryz.func79, Tryz.ntmps79
    go_wp2
    go_ret
    exact ⟨ret_boolB (by unfold standS; rw [decide_eq_false (by omega : ¬ f ≤ v)]; rfl), rfl⟩
set_option maxHeartbeats 4000000 in
set_option maxRecDepth 100000 in
theorem sHalf_any (v : Int) (w : World) :
    Calls Tryz.prog 37 #[.int .i64 v] w fun e w' => e = .returned (.bool (half v)) ∧ w = w' := by
  go_enter Tryz.func37, Tryz.ntmps37
  go_wp2
  go_ret
  exact ⟨rfl, rfl⟩
end Go.Proofs.YtndbmeedimhohaaGreat
namespace Go.Proofs.YtndbmeedimhohaaGreat
open Go.RowKit
set_option maxHeartbeats 4000000 in
set_option maxRecDepth 100000 in
theorem sNoBand_any (g : GV) (u : GH) (w : World) :
    Calls Tryz.prog 72 #[.agg #[.int .i64 g.qu, .int .i64 g.po, .int .i64 g.sp, .slice u.la g.ln u.lc, .slice u.da g.dn u.dc]] w fun e w' => e = .returned (.bool (nobandB g)) ∧ Below w.heap.size w w' := by
  cases h1 : (g.qu == 0)
  · go_enter Tryz.func72, Tryz.ntmps72
    go_wp2
    go_ret
    exact ⟨ret_boolB (by simp [nobandB, h1]), by go_grown⟩
  cases h2 : (g.po == 0)
  · go_enter Tryz.func72, Tryz.ntmps72
    go_wp2
    go_ret
    exact ⟨ret_boolB (by simp [nobandB, h1, h2]), by go_grown⟩
  cases h3 : (g.sp == 0)
  · go_enter Tryz.func72, Tryz.ntmps72
    go_wp2
    go_ret
    exact ⟨ret_boolB (by simp [nobandB, h1, h2, h3]), by go_grown⟩
  cases h4 : ((g.ln : Int) == 0)
  · go_enter Tryz.func72, Tryz.ntmps72
    go_wp2
    go_ret
    exact ⟨ret_boolB (by simp [nobandB, h1, h2, h3, h4]), by go_grown⟩
  cases h5 : ((g.dn : Int) == 0)
  · go_enter Tryz.func72, Tryz.ntmps72
    go_wp2
    go_ret
    exact ⟨ret_boolB (by simp [nobandB, h1, h2, h3, h4, h5]), by go_grown⟩
  go_enter Tryz.func72, Tryz.ntmps72
  go_wp2
  go_ret
  exact ⟨ret_boolB (by simp [nobandB, h1, h2, h3, h4, h5]), by go_grown⟩
set_option maxHeartbeats 4000000 in
set_option maxRecDepth 100000 in
theorem sTask_any (V : WV) (a : WA) (t : Int) (htn : V.tn ≤ 1048576) (w : World) (m : MR w V a) :
    Calls Tryz.prog 24 #[.agg #[.int .i64 V.now, .slice (some ⟨a.ca, a.oc, none⟩) V.cn a.cc, .slice (some ⟨a.ta, a.ot, none⟩) V.tn a.tc, .slice (some ⟨a.ga, a.og, none⟩) V.gn a.gc], .int .i64 t] w fun e w' => e = .returned (.bool (thereB V t)) ∧ Below w.heap.size w w' := by
  have hbx : Below w.heap.size w (w.alloc (.cells #[.int .i64 V.now, .slice (some ⟨a.ca, a.oc, none⟩) V.cn a.cc, .slice (some ⟨a.ta, a.ot, none⟩) V.tn a.tc, .slice (some ⟨a.ga, a.og, none⟩) V.gn a.gc] 33)) := (Below.refl _ w).alloc (Nat.le_refl _) _
  have HM : Hid (MR (w.alloc (.cells #[.int .i64 V.now, .slice (some ⟨a.ca, a.oc, none⟩) V.cn a.cc, .slice (some ⟨a.ta, a.ot, none⟩) V.tn a.tc, .slice (some ⟨a.ga, a.og, none⟩) V.gn a.gc] 33)) V a) := m.below hbx
  cases h1 : inR t 0 ((V.tn : Int) - 1)
  · clear m
    go_enter Tryz.func24, Tryz.ntmps24
    go_wp2_with (go_at_call 39; refine (l1In_any _ _ _ _).mono ?_; rintro e w' ⟨rfl, rfl⟩)
    go_ret
    exact ⟨ret_boolB (by simp [thereB, h1]), hbx⟩
  obtain ⟨g1, g2⟩ := inR_iff.1 h1
  obtain ⟨n, rfl⟩ := Int.eq_ofNat_of_zero_le g1
  have c0 := HM.out.t n (by omega) 0 _ rfl
  simp only [Nat.add_zero] at c0
  clear m
  cases h2 : ((V.tv n).st != 0)
  all_goals
    go_enter Tryz.func24, Tryz.ntmps24
    go_wp2_with (go_at_call 39; refine (l1In_any _ _ _ _).mono ?_; rintro e w' ⟨rfl, rfl⟩)
    go_ret
    exact ⟨ret_boolB (by simp [thereB, h1, h2]), hbx⟩
set_option maxHeartbeats 4000000 in
set_option maxRecDepth 100000 in
theorem sPins_any (V : WV) (T : Tree V) (a : WA) (G : Nat) (hG : G < 8) (hGu : (V.gv G).us = true) (w : World) (m : MR w V a) :
    Calls Tryz.prog 67 #[.agg #[.int .i64 V.now, .slice (some ⟨a.ca, a.oc, none⟩) V.cn a.cc, .slice (some ⟨a.ta, a.ot, none⟩) V.tn a.tc, .slice (some ⟨a.ga, a.og, none⟩) V.gn a.gc], .int .i64 G] w fun e w' => e = .returned (.int .i64 (pinM V G)) ∧ Below w.heap.size w w' := by
  have hbx : Below w.heap.size w (w.alloc (.cells #[.int .i64 V.now, .slice (some ⟨a.ca, a.oc, none⟩) V.cn a.cc, .slice (some ⟨a.ta, a.ot, none⟩) V.tn a.tc, .slice (some ⟨a.ga, a.og, none⟩) V.gn a.gc] 33)) := (Below.refl _ w).alloc (Nat.le_refl _) _
  have HM : Hid (MR (w.alloc (.cells #[.int .i64 V.now, .slice (some ⟨a.ca, a.oc, none⟩) V.cn a.cc, .slice (some ⟨a.ta, a.ot, none⟩) V.tn a.tc, .slice (some ⟨a.ga, a.og, none⟩) V.gn a.gc] 33)) V a) := m.below hbx
  have HN8 := Lib.hid T.n8
  have HT := Lib.hid T
  have hgi : (G : Int) < (V.gn : Nat) := by have := HN8.out; omega
  have c4 := HM.out.g G (by omega) 4 _ rfl
  have HS : Hid ((G = 0 → (V.gv G).cp = pinM V G) ∧ (G ≠ 0 → maskAnd (V.gv G).cp (pinM V (pN V G)) = pinM V G)) := ⟨fun h => by subst h; exact HT.out.pin0.symm, fun h => (HT.out.pin h hG hGu).symm⟩
  clear m T
  go_enter Tryz.func67, Tryz.ntmps67
  go_wp2
  clear c4 hgi
  go_loop [1, 5] (fun i s => ∃ (g : Nat) (sv : Int), g < 8 ∧ (V.gv g).us = true ∧ i = .int .i64 g ∧ s = .int .i64 sv ∧ Hid ((g = 0 → sv = pinM V G) ∧ (g ≠ 0 → maskAnd sv (pinM V (pN V g)) = pinM V G))) (fun i _ => dN V (intOf i).toNat)
  case atStart => exact ⟨G, _, hG, hGu, rfl, rfl, HS⟩
  case round =>
    obtain ⟨g, sv, hg8, hgu, rfl, rfl, HI⟩ := hrel
    by_cases h0 : g = 0
    · subst h0
      have HN := Lib.hid (HI.out.1 rfl)
      clear HI
      go_wp2
      go_ret
      exact ⟨by rw [HN.out]; rfl, hbx⟩
    · have h0' : ((g : Int) != 0) = true := by simp [h0]
      obtain ⟨p1, p2, p3, p4⟩ := HT.out.pa g h0 hg8 hgu
      have c1 := HM.out.g g (by have := HN8.out; omega) 1 _ rfl
      rw [p1] at c1
      have c4 := HM.out.g (pN V g) (by have := HN8.out; omega) 4 _ rfl
      have hi1 : (g : Int) < (V.gn : Nat) := by have := HN8.out; omega
      have hi2 : (pN V g : Int) < (V.gn : Nat) := by have := HN8.out; omega
      have HJ : Hid ((pN V g = 0 → maskAnd sv (V.gv (pN V g)).cp = pinM V G) ∧ (pN V g ≠ 0 → maskAnd (maskAnd sv (V.gv (pN V g)).cp) (pinM V (pN V (pN V g))) = pinM V G)) := by
        have h2 := HI.out.2 h0
        refine ⟨fun hp => ?_, fun hp => ?_⟩
        · rw [hp, HT.out.pin0] at h2; rw [hp]; exact h2
        · rw [HT.out.pin hp p2 p3, ← maskAnd_assoc] at h2; exact h2
      clear HI p1
      go_wp2_with (go_at_call 66; refine (sMaskAnd_any _ _ _).mono ?_; rintro e w9 ⟨rfl, rfl⟩)
      go_round
      case rel => exact ⟨pN V g, _, p2, p3, by go_num, rfl, HJ⟩
      case measure => simp [intOf]; omega
set_option maxHeartbeats 4000000 in
set_option maxRecDepth 100000 in
theorem sWhere_any (V : WV) (T : Tree V) (a : WA) (G : Nat) (x : Int) (hG : G < 8) (hGu : (V.gv G).us = true) (hn : V.cn ≤ 4) (w : World) (m : MR w V a) :
    Calls Tryz.prog 35 #[.agg #[.int .i64 V.now, .slice (some ⟨a.ca, a.oc, none⟩) V.cn a.cc, .slice (some ⟨a.ta, a.ot, none⟩) V.tn a.tc, .slice (some ⟨a.ga, a.og, none⟩) V.gn a.gc], .int .i64 G, .int .i64 x] w fun e w' => e = .returned (.int .i64 (whereM V G x)) ∧ Below w.heap.size w w' := by
  have hbx : Below w.heap.size w (w.alloc (.cells #[.int .i64 V.now, .slice (some ⟨a.ca, a.oc, none⟩) V.cn a.cc, .slice (some ⟨a.ta, a.ot, none⟩) V.tn a.tc, .slice (some ⟨a.ga, a.og, none⟩) V.gn a.gc] 33)) := (Below.refl _ w).alloc (Nat.le_refl _) _
  have HM : Hid (MR (w.alloc (.cells #[.int .i64 V.now, .slice (some ⟨a.ca, a.oc, none⟩) V.cn a.cc, .slice (some ⟨a.ta, a.ot, none⟩) V.tn a.tc, .slice (some ⟨a.ga, a.og, none⟩) V.gn a.gc] 33)) V a) := m.below hbx
  have HUP : Hid (∀ y, Below w.heap.size w y → Calls Tryz.prog 41 #[.agg #[.int .i64 V.now, .slice (some ⟨a.ca, a.oc, none⟩) V.cn a.cc, .slice (some ⟨a.ta, a.ot, none⟩) V.tn a.tc, .slice (some ⟨a.ga, a.og, none⟩) V.gn a.gc]] y fun e w' => e = .returned (.int .i64 (ups V)) ∧ Below y.heap.size y w') := fun y hy => sUps_any V a hn y (m.below hy)
  have HPN : Hid (∀ y, Below w.heap.size w y → Calls Tryz.prog 67 #[.agg #[.int .i64 V.now, .slice (some ⟨a.ca, a.oc, none⟩) V.cn a.cc, .slice (some ⟨a.ta, a.ot, none⟩) V.tn a.tc, .slice (some ⟨a.ga, a.og, none⟩) V.gn a.gc], .int .i64 G] y fun e w' => e = .returned (.int .i64 (pinM V G)) ∧ Below y.heap.size y w') := fun y hy => sPins_any V T a G hG hGu y (m.below hy)
  have HK : Hid (Bk (w.alloc (.cells #[.int .i64 V.now, .slice (some ⟨a.ca, a.oc, none⟩) V.cn a.cc, .slice (some ⟨a.ta, a.ot, none⟩) V.tn a.tc, .slice (some ⟨a.ga, a.og, none⟩) V.gn a.gc] 33)) w.heap.size 33 #[.int .i64 V.now, .slice (some ⟨a.ca, a.oc, none⟩) V.cn a.cc, .slice (some ⟨a.ta, a.ot, none⟩) V.tn a.tc, .slice (some ⟨a.ga, a.og, none⟩) V.gn a.gc]) := Bk.new w _ _
  have HE : Hid (whereM V G x = if maskAnd x (maskAnd (pinM V G) (ups V)) ≠ 0 then maskAnd x (maskAnd (pinM V G) (ups V)) else if maskAnd (pinM V G) (ups V) ≠ 0 then maskAnd (pinM V G) (ups V) else ups V) := rfl
  obtain ⟨R, hR⟩ : ∃ R, R = whereM V G x := ⟨_, rfl⟩
  rw [← hR] at HE ⊢
  obtain ⟨U, hU⟩ : ∃ U, U = ups V := ⟨_, rfl⟩
  obtain ⟨N, hN⟩ : ∃ N, N = pinM V G := ⟨_, rfl⟩
  rw [← hU] at HUP HE
  rw [← hN] at HPN HE
  clear hR T m hU hN
  by_cases h1 : maskAnd x (maskAnd N U) = 0
  · have h1' : (maskAnd x (maskAnd N U) != 0) = false := by simp [h1]
    by_cases h2 : maskAnd N U = 0
    · have h2' : (maskAnd N U != 0) = false := by simp [h2]
      have HN : Hid (R = U) := by rw [HE.out, if_neg (by simp [h1]), if_neg (by simp [h2])]; rfl
      clear h1 h2
      go_enter Tryz.func35, Tryz.ntmps35
      go_wp2_with (first | (go_at_call 41; refine (HUP.out _ hbx).mono ?_; rintro e w1 ⟨rfl, hb1⟩; obtain ⟨j0, j1, j2, j3⟩ := (HK.out.below hb1 HK.out.lt).four) | (go_at_call 67; refine (HPN.out _ (hbx.trans (hb1.mono hbx.size))).mono ?_; rintro e w2 ⟨rfl, hb2⟩) | (go_at_call 66; refine (sMaskAnd_any _ _ _).mono ?_; rintro e w9 ⟨rfl, rfl⟩))
      go_ret
      exact ⟨by rw [HN.out]; rfl, hbx.trans ((hb1.trans (hb2.mono hb1.size)).mono hbx.size)⟩
    · have h2' : (maskAnd N U != 0) = true := by simp [h2]
      have HN : Hid (R = maskAnd N U) := by rw [HE.out, if_neg (by simp [h1]), if_pos (by simp [h2])]; rfl
      clear h1 h2
      go_enter Tryz.func35, Tryz.ntmps35
      go_wp2_with (first | (go_at_call 41; refine (HUP.out _ hbx).mono ?_; rintro e w1 ⟨rfl, hb1⟩; obtain ⟨j0, j1, j2, j3⟩ := (HK.out.below hb1 HK.out.lt).four) | (go_at_call 67; refine (HPN.out _ (hbx.trans (hb1.mono hbx.size))).mono ?_; rintro e w2 ⟨rfl, hb2⟩) | (go_at_call 66; refine (sMaskAnd_any _ _ _).mono ?_; rintro e w9 ⟨rfl, rfl⟩))
      go_ret
      exact ⟨by rw [HN.out]; rfl, hbx.trans ((hb1.trans (hb2.mono hb1.size)).mono hbx.size)⟩
  · have h1' : (maskAnd x (maskAnd N U) != 0) = true := by simp [h1]
    have HN : Hid (R = maskAnd x (maskAnd N U)) := by rw [HE.out, if_pos (by simp [h1])]; rfl
    clear h1
    go_enter Tryz.func35, Tryz.ntmps35
    go_wp2_with (first | (go_at_call 41; refine (HUP.out _ hbx).mono ?_; rintro e w1 ⟨rfl, hb1⟩; obtain ⟨j0, j1, j2, j3⟩ := (HK.out.below hb1 HK.out.lt).four) | (go_at_call 67; refine (HPN.out _ (hbx.trans (hb1.mono hbx.size))).mono ?_; rintro e w2 ⟨rfl, hb2⟩) | (go_at_call 66; refine (sMaskAnd_any _ _ _).mono ?_; rintro e w9 ⟨rfl, rfl⟩))
    go_ret
    exact ⟨by rw [HN.out]; rfl, hbx.trans ((hb1.trans (hb2.mono hb1.size)).mono hbx.size)⟩
set_option maxHeartbeats 4000000 in
set_option maxRecDepth 100000 in
theorem sActive_any (V : WV) (a : WA) (g c : Nat) (h8 : V.gn ≤ 1048576) (htn : V.tn ≤ 1048576) (hgn : 0 < V.gn) (hs : ∀ k, k < V.gn → (V.gv k).us = true → c < (V.gv k).sn ∧ (V.gv k).sn ≤ 1048576) (w : World) (m : MR w V a) :
    Calls Tryz.prog 80 #[.agg #[.int .i64 V.now, .slice (some ⟨a.ca, a.oc, none⟩) V.cn a.cc, .slice (some ⟨a.ta, a.ot, none⟩) V.tn a.tc, .slice (some ⟨a.ga, a.og, none⟩) V.gn a.gc], .int .i64 g, .int .i64 c] w fun e w' => e = .returned (.bool (actB V g c)) ∧ Below w.heap.size w w' := by
  have hbx : Below w.heap.size w (w.alloc (.cells #[.int .i64 V.now, .slice (some ⟨a.ca, a.oc, none⟩) V.cn a.cc, .slice (some ⟨a.ta, a.ot, none⟩) V.tn a.tc, .slice (some ⟨a.ga, a.og, none⟩) V.gn a.gc] 33)) := (Below.refl _ w).alloc (Nat.le_refl _) _
  have HM : Hid (MR (w.alloc (.cells #[.int .i64 V.now, .slice (some ⟨a.ca, a.oc, none⟩) V.cn a.cc, .slice (some ⟨a.ta, a.ot, none⟩) V.tn a.tc, .slice (some ⟨a.ga, a.og, none⟩) V.gn a.gc] 33)) V a) := m.below hbx
  have hkl : w.heap.size < ((w.alloc (.cells #[.int .i64 V.now, .slice (some ⟨a.ca, a.oc, none⟩) V.cn a.cc, .slice (some ⟨a.ta, a.ot, none⟩) V.tn a.tc, .slice (some ⟨a.ga, a.og, none⟩) V.gn a.gc] 33))).heap.size := by simp
  have HK : Hid (Bk (w.alloc (.cells #[.int .i64 V.now, .slice (some ⟨a.ca, a.oc, none⟩) V.cn a.cc, .slice (some ⟨a.ta, a.ot, none⟩) V.tn a.tc, .slice (some ⟨a.ga, a.og, none⟩) V.gn a.gc] 33)) w.heap.size 33 #[.int .i64 V.now, .slice (some ⟨a.ca, a.oc, none⟩) V.cn a.cc, .slice (some ⟨a.ta, a.ot, none⟩) V.tn a.tc, .slice (some ⟨a.ga, a.og, none⟩) V.gn a.gc]) := Bk.new w _ _
  have HSS := Lib.hid hs
  have HM0 := Lib.hid m
  clear hs m
  go_enter Tryz.func80, Tryz.ntmps80
  go_wp2
  go_loop [7] (fun i => ∃ k : Nat, k ≤ V.tn ∧ i = .int .i64 k ∧ Hid (anyTo (fun t => queB V t g c) k = false)) (fun i => V.tn - (intOf i).toNat)
  case atStart => exact ⟨0, Nat.zero_le _, rfl, rfl⟩
  case round =>
    obtain ⟨k, hk, rfl, HA⟩ := hrel
    by_cases hlt : k < V.tn
    · have c0 := HM.out.t k hlt 0 _ rfl
      have c1 := HM.out.t k hlt 1 _ rfl
      have c2 := HM.out.t k hlt 2 _ rfl
      rw [Nat.add_zero] at c0
      have HQ : Hid (queB V k g c = (((V.tv k).st == 1) && ((V.tv k).gr == (g : Int)) && ((V.tv k).cp == (c : Int)))) := rfl
      have HA2 : Hid (queB V k g c = false → anyTo (fun t => queB V t g c) (k + 1) = false) := fun h => anyTo_next _ k HA.out h
      have HN : Hid (queB V k g c = true → true = actB V g c) := fun h => by rw [show actB V g c = (anyTo (fun t => queB V t g c) V.tn || anyTo (fun k => holdB V k g c) V.gn) from rfl, anyTo_true (fun t => queB V t g c) k V.tn hlt h]; rfl
      clear HA
      cases h1 : ((V.tv k).st == 1)
      · go_wp2
        go_round
        case rel => exact ⟨k + 1, by omega, by go_num, HA2.out (by rw [HQ.out, h1]; rfl)⟩
        case measure => simp [intOf]; omega
      cases h2 : ((V.tv k).gr == (g : Int))
      · go_wp2
        go_round
        case rel => exact ⟨k + 1, by omega, by go_num, HA2.out (by rw [HQ.out, h1, h2]; rfl)⟩
        case measure => simp [intOf]; omega
      cases h3 : ((V.tv k).cp == (c : Int))
      · go_wp2
        go_round
        case rel => exact ⟨k + 1, by omega, by go_num, HA2.out (by rw [HQ.out, h1, h2, h3]; rfl)⟩
        case measure => simp [intOf]; omega
      · go_wp2
        go_ret
        exact ⟨ret_boolB (HN.out (by rw [HQ.out, h1, h2, h3]; rfl)), hbx⟩
    · obtain rfl : k = V.tn := by omega
      go_wp2
      go_loopw [8] (fun i wr => ∃ k : Nat, 1 ≤ k ∧ k ≤ V.gn ∧ i = .int .i64 k ∧ Hid (anyTo (fun t => holdB V t g c) k = false) ∧ Hid (Below (w.alloc (.cells #[.int .i64 V.now, .slice (some ⟨a.ca, a.oc, none⟩) V.cn a.cc, .slice (some ⟨a.ta, a.ot, none⟩) V.tn a.tc, .slice (some ⟨a.ga, a.og, none⟩) V.gn a.gc] 33)).heap.size (w.alloc (.cells #[.int .i64 V.now, .slice (some ⟨a.ca, a.oc, none⟩) V.cn a.cc, .slice (some ⟨a.ta, a.ot, none⟩) V.tn a.tc, .slice (some ⟨a.ga, a.og, none⟩) V.gn a.gc] 33)) wr)) (fun i _ => V.gn - (intOf i).toNat)
      case atStart => exact ⟨1, Nat.le_refl _, hgn, rfl, by show anyTo _ 1 = false; simp [anyTo, holdB], Below.refl _ _⟩
      case round =>
        obtain ⟨k, hk1, hk, rfl, HC, HB⟩ := hrel
        have hz := HB.out.size
        obtain ⟨j0, j1, j2, j3⟩ := (HK.out.below HB.out HK.out.lt).four
        by_cases hlt2 : k < V.gn
        · have c0 := (HM.out.below HB.out).g k hlt2 0 _ rfl
          have c1 := (HM.out.below HB.out).g k hlt2 1 _ rfl
          rw [Nat.add_zero] at c0
          have HQ : Hid (holdB V k g c = ((V.gv k).us && ((V.gv k).pa == (g : Int)) && (V.gv k).s1 c)) := by show _ = _; simp [holdB, show k ≠ 0 by omega]
          have HC2 : Hid (holdB V k g c = false → anyTo (fun t => holdB V t g c) (k + 1) = false) := fun h => anyTo_next _ k HC.out h
          have HN : Hid (holdB V k g c = true → true = actB V g c) := fun h => by rw [show actB V g c = (anyTo (fun t => queB V t g c) V.tn || anyTo (fun k => holdB V k g c) V.gn) from rfl, anyTo_true (fun t => holdB V t g c) k V.gn hlt2 h, Bool.or_true]
          have HQU : Hid ((V.gv k).us = true → ∀ y, Below ((w.alloc (.cells #[.int .i64 V.now, .slice (some ⟨a.ca, a.oc, none⟩) V.cn a.cc, .slice (some ⟨a.ta, a.ot, none⟩) V.tn a.tc, .slice (some ⟨a.ga, a.og, none⟩) V.gn a.gc] 33))).heap.size (w.alloc (.cells #[.int .i64 V.now, .slice (some ⟨a.ca, a.oc, none⟩) V.cn a.cc, .slice (some ⟨a.ta, a.ot, none⟩) V.tn a.tc, .slice (some ⟨a.ga, a.og, none⟩) V.gn a.gc] 33)) y → Calls Tryz.prog 57 #[.agg #[.int .i64 V.now, .slice (some ⟨a.ca, a.oc, none⟩) V.cn a.cc, .slice (some ⟨a.ta, a.ot, none⟩) V.tn a.tc, .slice (some ⟨a.ga, a.og, none⟩) V.gn a.gc], .int .i64 k, .int .i64 c] y fun e w' => e = .returned (.bool ((V.gv k).s1 c)) ∧ Below y.heap.size y w') := fun hu y hy => sQueued_any V a k c hlt2 h8 (HSS.out k hlt2 hu).1 (HSS.out k hlt2 hu).2 y (HM.out.below hy)
          clear HC
          cases h1 : (V.gv k).us
          · rw [h1] at c0
            clear HQU
            go_wp2
            go_roundw
            case rel => exact ⟨k + 1, by omega, by omega, by go_num, HC2.out (by rw [HQ.out, h1]; rfl), HB⟩
            case measure => simp [intOf]; omega
          rw [h1] at c0
          have HQ2 := Lib.hid (HQU.out h1)
          clear HQU
          cases h2 : ((V.gv k).pa == (g : Int))
          · go_wp2
            go_roundw
            case rel => exact ⟨k + 1, by omega, by omega, by go_num, HC2.out (by rw [HQ.out, h1, h2]; rfl), HB⟩
            case measure => simp [intOf]; omega
          cases h3 : (V.gv k).s1 c
          · rw [h3] at HQ2
            go_wp2_with (go_at_call 57; refine (HQ2.out _ HB.out).mono ?_; rintro e w3 ⟨rfl, hb3⟩)
            go_roundw
            case rel => exact ⟨k + 1, by omega, by omega, by go_num, HC2.out (by rw [HQ.out, h1, h2, h3]; rfl), HB.out.trans (hb3.mono hz)⟩
            case measure => simp [intOf]; omega
          · rw [h3] at HQ2
            go_wp2_with (go_at_call 57; refine (HQ2.out _ HB.out).mono ?_; rintro e w3 ⟨rfl, hb3⟩)
            go_ret
            exact ⟨ret_boolB (HN.out (by rw [HQ.out, h1, h2, h3]; rfl)), hbx.trans ((HB.out.trans (hb3.mono hz)).mono hbx.size)⟩
        · obtain rfl : k = V.gn := by omega
          go_wp2
          go_ret
          exact ⟨ret_boolB (by simp [actB, HA.out, HC.out]), hbx.trans (HB.out.mono hbx.size)⟩
end Go.Proofs.YtndbmeedimhohaaGreat
namespace Go.Proofs.YtndbmeedimhohaaGreat
open Go.RowKit
set_option maxHeartbeats 4000000 in
set_option maxRecDepth 100000 in
theorem sInLine_any (V : WV) (T : Tree V) (a : WA) (t : Nat) (ht : t < V.tn) (_htn : V.tn ≤ 1048576) (hcn : V.cn ≤ 4) (hG : allTo (groupI V) V.gn = true) (hs : (V.tv t).st = 1 → usedB (fun i => (V.gv i).us) V.gn (V.tv t).gr = true ∧ 0 ≤ (V.tv t).cp ∧ (V.tv t).cp.toNat < V.cn) (w : World) (m : MR w V a) :
    Calls Tryz.prog 25 #[.agg #[.int .i64 V.now, .slice (some ⟨a.ca, a.oc, none⟩) V.cn a.cc, .slice (some ⟨a.ta, a.ot, none⟩) V.tn a.tc, .slice (some ⟨a.ga, a.og, none⟩) V.gn a.gc], .int .i64 t] w fun e w' => e = .returned (.bool (inlS V t)) ∧ Below w.heap.size w w' := by
  have hbx : Below w.heap.size w (w.alloc (.cells #[.int .i64 V.now, .slice (some ⟨a.ca, a.oc, none⟩) V.cn a.cc, .slice (some ⟨a.ta, a.ot, none⟩) V.tn a.tc, .slice (some ⟨a.ga, a.og, none⟩) V.gn a.gc] 33)) := (Below.refl _ w).alloc (Nat.le_refl _) _
  have HM : Hid (MR (w.alloc (.cells #[.int .i64 V.now, .slice (some ⟨a.ca, a.oc, none⟩) V.cn a.cc, .slice (some ⟨a.ta, a.ot, none⟩) V.tn a.tc, .slice (some ⟨a.ga, a.og, none⟩) V.gn a.gc] 33)) V a) := m.below hbx
  have HN8 := Lib.hid T.n8
  have e0 := HM.out.t t ht 0 _ rfl
  have e1 := HM.out.t t ht 1 _ rfl
  have e2 := HM.out.t t ht 2 _ rfl
  have e3 := HM.out.t t ht 3 _ rfl
  have e4 := HM.out.t t ht 4 _ rfl
  have e5 := HM.out.t t ht 5 _ rfl
  have e6 := HM.out.t t ht 6 _ rfl
  have e7 := HM.out.t t ht 7 _ rfl
  have e8 := HM.out.t t ht 8 _ rfl
  rw [Nat.add_zero] at e0
  have hti : (t : Int) < (V.tn : Nat) := by omega
  cases h1 : ((V.tv t).st == 1)
  · have h1' : ((V.tv t).st != 1) = true := by simp only [bne, h1]; rfl
    clear m hs
    go_enter Tryz.func25, Tryz.ntmps25
    go_wp2
    go_ret
    exact ⟨ret_boolB (by simp [inlS, h1]), by go_grown⟩
  have h1' : ((V.tv t).st != 1) = false := by simp only [bne, h1]; rfl
  obtain ⟨hu, hp0, hpc⟩ := hs (by simpa using h1)
  obtain ⟨u1, u2, u3⟩ := usedB_iff.1 hu
  obtain ⟨G, hGe⟩ := Int.eq_ofNat_of_zero_le u1
  obtain ⟨C, hC⟩ := Int.eq_ofNat_of_zero_le hp0
  rw [hGe] at u2 u3 e1
  rw [hC] at hpc e2
  simp only [Int.toNat_natCast] at u3 hpc
  have HE : Hid (inlS V t = linB V C G) := by show _ = _; simp [inlS, h1, hGe, hC]
  have HK : Hid (Bk (w.alloc (.cells #[.int .i64 V.now, .slice (some ⟨a.ca, a.oc, none⟩) V.cn a.cc, .slice (some ⟨a.ta, a.ot, none⟩) V.tn a.tc, .slice (some ⟨a.ga, a.og, none⟩) V.gn a.gc] 33)) w.heap.size 33 #[.int .i64 V.now, .slice (some ⟨a.ca, a.oc, none⟩) V.cn a.cc, .slice (some ⟨a.ta, a.ot, none⟩) V.tn a.tc, .slice (some ⟨a.ga, a.og, none⟩) V.gn a.gc]) := Bk.new w _ _
  have HKT : Hid (Bk ((w.alloc (.cells #[.int .i64 V.now, .slice (some ⟨a.ca, a.oc, none⟩) V.cn a.cc, .slice (some ⟨a.ta, a.ot, none⟩) V.tn a.tc, .slice (some ⟨a.ga, a.og, none⟩) V.gn a.gc] 33)).alloc (.cells #[.int .i64 (V.tv t).st, .int .i64 (G : Nat), .int .i64 (C : Nat), .int .i64 (V.tv t).ni, .int .i64 (V.tv t).ma, .int .i64 (V.tv t).vv, .int .i64 (V.tv t).su, .int .i64 (V.tv t).us, .int .i64 (V.tv t).lo] 54)) (w.heap.size + 1) 54 #[.int .i64 (V.tv t).st, .int .i64 (G : Nat), .int .i64 (C : Nat), .int .i64 (V.tv t).ni, .int .i64 (V.tv t).ma, .int .i64 (V.tv t).vv, .int .i64 (V.tv t).su, .int .i64 (V.tv t).us, .int .i64 (V.tv t).lo]) := by
    have := Bk.new (w.alloc (.cells #[.int .i64 V.now, .slice (some ⟨a.ca, a.oc, none⟩) V.cn a.cc, .slice (some ⟨a.ta, a.ot, none⟩) V.tn a.tc, .slice (some ⟨a.ga, a.og, none⟩) V.gn a.gc] 33)) 54 #[.int .i64 (V.tv t).st, .int .i64 (G : Nat), .int .i64 (C : Nat), .int .i64 (V.tv t).ni, .int .i64 (V.tv t).ma, .int .i64 (V.tv t).vv, .int .i64 (V.tv t).su, .int .i64 (V.tv t).us, .int .i64 (V.tv t).lo]
    rw [show ((w.alloc (.cells #[.int .i64 V.now, .slice (some ⟨a.ca, a.oc, none⟩) V.cn a.cc, .slice (some ⟨a.ta, a.ot, none⟩) V.tn a.tc, .slice (some ⟨a.ga, a.og, none⟩) V.gn a.gc] 33))).heap.size = w.heap.size + 1 by simp] at this
    exact this
  have HQU : Hid (∀ g, g < V.gn → (V.gv g).us = true → ∀ y, Below w.heap.size w y → Calls Tryz.prog 57 #[.agg #[.int .i64 V.now, .slice (some ⟨a.ca, a.oc, none⟩) V.cn a.cc, .slice (some ⟨a.ta, a.ot, none⟩) V.tn a.tc, .slice (some ⟨a.ga, a.og, none⟩) V.gn a.gc], .int .i64 g, .int .i64 C] y fun e w' => e = .returned (.bool ((V.gv g).s1 C)) ∧ Below y.heap.size y w') := fun g hg hgu y hy => by
    have := sn_of hG hg
    rw [hgu, if_pos rfl] at this
    exact sQueued_any V a g C hg (by have := HN8.out; omega) (by omega) (by omega) y (m.below hy)
  have HT := Lib.hid T
  have HMW := Lib.hid m
  have hbx2 : Below w.heap.size w ((w.alloc (.cells #[.int .i64 V.now, .slice (some ⟨a.ca, a.oc, none⟩) V.cn a.cc, .slice (some ⟨a.ta, a.ot, none⟩) V.tn a.tc, .slice (some ⟨a.ga, a.og, none⟩) V.gn a.gc] 33)).alloc (.cells #[.int .i64 (V.tv t).st, .int .i64 (G : Nat), .int .i64 (C : Nat), .int .i64 (V.tv t).ni, .int .i64 (V.tv t).ma, .int .i64 (V.tv t).vv, .int .i64 (V.tv t).su, .int .i64 (V.tv t).us, .int .i64 (V.tv t).lo] 54)) := hbx.alloc hbx.size _
  clear m hs hu u1 hG hGe hC hpc hp0 T
  go_enter Tryz.func25, Tryz.ntmps25
  go_wp2
  clear e0 e1 e2 e3 e4 e5 e6 e7 e8 HM
  go_loopw [6] (fun i wr => ∃ g : Nat, g < 8 ∧ (V.gv g).us = true ∧ i = .int .i64 g ∧ Hid (linB V C G = linB V C g) ∧ Hid (Bk wr w.heap.size 33 #[.int .i64 V.now, .slice (some ⟨a.ca, a.oc, none⟩) V.cn a.cc, .slice (some ⟨a.ta, a.ot, none⟩) V.tn a.tc, .slice (some ⟨a.ga, a.og, none⟩) V.gn a.gc]) ∧ Hid (Bk wr (w.heap.size + 1) 54 #[.int .i64 (V.tv t).st, .int .i64 (G : Nat), .int .i64 (C : Nat), .int .i64 (V.tv t).ni, .int .i64 (V.tv t).ma, .int .i64 (V.tv t).vv, .int .i64 (V.tv t).su, .int .i64 (V.tv t).us, .int .i64 (V.tv t).lo]) ∧ Hid (Below w.heap.size w wr)) (fun i _ => dN V (intOf i).toNat)
  case atStart => exact ⟨G, by have := HN8.out; omega, u3, rfl, rfl, HK.out.alloc _, HKT, hbx2⟩
  case round =>
    clear HK HKT hbx hbx2
    obtain ⟨g, hg8, hgu, rfl, HLN, HK, HTB, HB⟩ := hrel
    obtain ⟨j0, j1, j2, j3⟩ := HK.out.four
    have b2 := HTB.out.cell 2
    have hz := HB.out.size
    by_cases h0 : g = 0
    · subst h0
      have HN := Lib.hid (HE.out.trans (HLN.out.trans (HT.out.lin0 C)))
      clear HLN
      go_wp2
      go_ret
      exact ⟨ret_boolB HN.out.symm, HB.out⟩
    · have h0' : ((g : Int) != 0) = true := by simp [h0]
      have hst := HT.out.lin h0 hg8 hgu C
      obtain ⟨p1, p2, p3, p4⟩ := HT.out.pa g h0 hg8 hgu
      have hgn : g < V.gn := by have := HN8.out; omega
      have hgi : (g : Int) < (V.gn : Nat) := by omega
      have HQ2 := Lib.hid (HQU.out g hgn hgu)
      have c1 := (HB.out.cell (p := ⟨a.ga, a.og + g * 14 + 1, none⟩) HMW.out.gl).trans (HMW.out.g g hgn 1 _ rfl)
      have hgl := Nat.lt_of_lt_of_le HMW.out.gl hz
      rw [p1] at c1
      cases hs1 : (V.gv g).s1 C
      · rw [hs1, Bool.false_and] at hst
        rw [hs1] at HQ2
        have HN := Lib.hid (HE.out.trans (HLN.out.trans hst))
        clear HLN hst p1 hgl
        go_wp2_with (go_at_call 57; refine (HQ2.out _ HB.out).mono ?_; rintro e w3 ⟨rfl, hb3⟩)
        go_ret
        exact ⟨ret_boolB HN.out.symm, HB.out.trans (hb3.mono hz)⟩
      · rw [hs1, Bool.true_and] at hst
        rw [hs1] at HQ2
        have HN := Lib.hid (HLN.out.trans hst)
        clear HLN hst p1
        go_wp2_with (go_at_call 57; refine (HQ2.out _ HB.out).mono ?_; rintro e w3 ⟨rfl, hb3⟩; obtain ⟨i0, i1, i2, i3⟩ := (HK.out.below hb3 HK.out.lt).four; have c3 := (hb3.cell (p := ⟨a.ga, a.og + g * 14 + 1, none⟩) hgl).trans c1)
        go_roundw
        case rel => exact ⟨pN V g, p2, p3, by go_num, HN, HK.out.below hb3 HK.out.lt, HTB.out.below hb3 HTB.out.lt, HB.out.trans (hb3.mono hz)⟩
        case measure => simp [intOf]; omega
end Go.Proofs.YtndbmeedimhohaaGreat

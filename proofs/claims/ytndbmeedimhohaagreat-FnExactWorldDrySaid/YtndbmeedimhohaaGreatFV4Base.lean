/- Worlds: pins (printed by mkv.py). -/
import Derived.Test.YtndbmeedimhohaaGreatFV3Base
namespace Go.Proofs.YtndbmeedimhohaaGreat
open Go.RowKit
set_option maxHeartbeats 4000000 in
theorem fin16 {P : Int → Prop} (h : ∀ i : Fin 16, P (i.val : Int)) (a : Int) (ha : inR a 0 15 = true) : P a := by
  obtain ⟨h1, h2⟩ := inR_iff.1 ha
  have := h ⟨a.toNat, by omega⟩
  rwa [show ((⟨a.toNat, by omega⟩ : Fin 16).val : Int) = a from Int.toNat_of_nonneg h1] at this
set_option maxHeartbeats 4000000 in
theorem maskAnd_r (a b : Int) : inR (maskAnd a b) 0 15 = true := by have := maskAnd_b a b; exact inR_iff.2 this
set_option maxHeartbeats 4000000 in
theorem maskAnd_comm16 : ∀ i j : Fin 16, maskAnd (i.val : Int) (j.val : Int) = maskAnd (j.val : Int) (i.val : Int) := by decide +kernel
set_option maxHeartbeats 4000000 in
theorem maskAnd_assoc16 : ∀ i j k : Fin 16, maskAnd (maskAnd (i.val : Int) (j.val : Int)) (k.val : Int) = maskAnd (i.val : Int) (maskAnd (j.val : Int) (k.val : Int)) := by decide +kernel
set_option maxHeartbeats 4000000 in
theorem maskAnd_zero16 : ∀ i : Fin 16, maskAnd 0 (i.val : Int) = 0 ∧ maskAnd 15 (i.val : Int) = (i.val : Int) := by decide +kernel
set_option maxHeartbeats 4000000 in
theorem maskAnd_bad {a b : Int} (h : (inR a 0 15 && inR b 0 15) = false) : maskAnd a b = 0 := by simp [maskAnd, h]
set_option maxHeartbeats 4000000 in
theorem maskAnd_z (b : Int) : maskAnd 0 b = 0 := by
  cases h : inR b 0 15
  · exact maskAnd_bad (by simp [h])
  · exact fin16 (P := fun b => maskAnd 0 b = 0) (fun i => (maskAnd_zero16 i).1) b h
set_option maxHeartbeats 4000000 in
theorem maskAnd_15 {b : Int} (h : inR b 0 15 = true) : maskAnd 15 b = b := fin16 (P := fun b => maskAnd 15 b = b) (fun i => (maskAnd_zero16 i).2) b h
set_option maxHeartbeats 4000000 in
theorem maskAnd_comm (a b : Int) : maskAnd a b = maskAnd b a := by
  cases h : inR a 0 15
  · rw [maskAnd_bad (by simp [h]), maskAnd_bad (by simp [h])]
  cases h2 : inR b 0 15
  · rw [maskAnd_bad (by simp [h2]), maskAnd_bad (by simp [h2])]
  exact fin16 (P := fun a => maskAnd a b = maskAnd b a) (fun i => fin16 (P := fun b => maskAnd (i.val : Int) b = maskAnd b (i.val : Int)) (fun j => maskAnd_comm16 i j) b h2) a h
set_option maxHeartbeats 4000000 in
theorem maskAnd_z2 (b : Int) : maskAnd b 0 = 0 := by rw [maskAnd_comm]; exact maskAnd_z b
set_option maxHeartbeats 4000000 in
theorem maskAnd_assoc (a b c : Int) : maskAnd (maskAnd a b) c = maskAnd a (maskAnd b c) := by
  cases h : inR a 0 15
  · rw [maskAnd_bad (a := a) (b := b) (by simp [h]), maskAnd_z, maskAnd_bad (by simp [h])]
  cases h2 : inR b 0 15
  · rw [maskAnd_bad (a := a) (b := b) (by simp [h2]), maskAnd_z, maskAnd_bad (a := b) (b := c) (by simp [h2]), maskAnd_z2]
  cases h3 : inR c 0 15
  · rw [maskAnd_bad (a := maskAnd a b) (b := c) (by simp [h3]), maskAnd_bad (a := b) (b := c) (by simp [h3]), maskAnd_z2]
  exact fin16 (P := fun a => maskAnd (maskAnd a b) c = maskAnd a (maskAnd b c)) (fun i => fin16 (P := fun b => maskAnd (maskAnd (i.val : Int) b) c = maskAnd (i.val : Int) (maskAnd b c)) (fun j => fin16 (P := fun c => maskAnd (maskAnd (i.val : Int) (j.val : Int)) c = maskAnd (i.val : Int) (maskAnd (j.val : Int) c)) (fun k => maskAnd_assoc16 i j k) c h3) b h2) a h
set_option maxHeartbeats 4000000 in
theorem orUp16 : ∀ k : Fin 4, ∀ s : Fin 16, s.val < 2 ^ k.val → bits .or .i64 (s.val : Int) (2 ^ k.val) = (s.val : Int) + 2 ^ k.val := by decide +kernel
set_option maxHeartbeats 4000000 in
theorem orUp (V : WV) (k : Nat) (hk : k < 4) : bits .or .i64 (upsTo V k) (2 ^ k) = upsTo V k + 2 ^ k := by
  obtain ⟨h1, h2⟩ := upsTo_b V k
  have hp : (2 : Int) ^ k ≤ 8 := by rcases (by omega : k = 0 ∨ k = 1 ∨ k = 2 ∨ k = 3) with e | e | e | e <;> subst e <;> decide
  obtain ⟨n, hn⟩ := Int.eq_ofNat_of_zero_le h1
  have h3 : n < 2 ^ k := by
    have : ((n : Nat) : Int) < ((2 ^ k : Nat) : Int) := by rw [← hn]; simpa using h2
    exact Int.ofNat_lt.1 this
  have hn16 : n < 16 := by omega
  have := orUp16 ⟨k, hk⟩ ⟨n, hn16⟩ h3
  rw [hn]
  exact this
set_option maxHeartbeats 4000000 in
theorem wrapPow (k : Nat) (hk : k < 4) : wrap64 (2 ^ k) = 2 ^ k := by rcases (by omega : k = 0 ∨ k = 1 ∨ k = 2 ∨ k = 3) with e | e | e | e <;> subst e <;> decide +kernel
set_option maxHeartbeats 4000000 in
theorem online_any (V : WV) (hw : Nat) (A : Option Addr) (cc : Nat) (x0 x2 x3 : Value) (hn : V.cn ≤ 4) (w : World) (hk : Bk w hw 33 #[x0, .slice A V.cn cc, x2, x3]) (hA : Rs w w.heap.size A V.cn 5 (fun i => cpC (V.cv i))) :
    Calls Tryz.prog 83 #[.pointer (some ⟨hw, 0, none⟩)] w fun e w' => e = .returned (.int .i64 (ups V)) ∧ Below w.heap.size w w' := by
  obtain ⟨_, k1, _, _⟩ := hk.four
  rcases Nat.eq_zero_or_pos V.cn with h0 | h0
  · have HU : Hid (0 = ups V) := by unfold ups; rw [h0]; rfl
    rw [h0] at k1
    clear hk hA
    go_enter Tryz.func83, Tryz.ntmps83
    go_wp2
    refine wp_loop_rounds 1 ?_
    rw [rounds_succ]
    go_wp2
    go_ret
    exact ⟨by rw [← HU.out]; rfl, Below.refl _ _⟩
  obtain ⟨b, o, rfl, hb, hc⟩ := hA h0
  have HC := Lib.hid hc
  clear hc hA hk
  go_enter Tryz.func83, Tryz.ntmps83
  go_wp2
  go_loopw [3, 11] (fun s i wr => ∃ k : Nat, k ≤ V.cn ∧ i = .int .i64 k ∧ s = .int .i64 (upsTo V k) ∧ Hid (Below w.heap.size w wr)) (fun _ i _ => V.cn - (intOf i).toNat)
  case atStart => exact ⟨0, Nat.zero_le _, rfl, rfl, Below.refl _ _⟩
  case round =>
    obtain ⟨k, hk, rfl, rfl, HB⟩ := hrel
    have hz := HB.out.size
    by_cases hlt : k < V.cn
    · have hr : Hid (wr.rangeAt b (o + k * 5) [.bool (V.cv k).up, .int .i64 (V.cv k).cu, .int .i64 (V.cv k).ra, .int .i64 (V.cv k).bu, .int .i64 (V.cv k).id]) := rangeAt_below (HC.out k hlt) HB.out hb
      have HO := Lib.hid (orUp V k (by omega))
      cases hu : (V.cv k).up
      · have hs : upsTo V (k + 1) = upsTo V k := by simp [upsTo, hu]
        have HS := Lib.hid hs
        rw [hu] at hr
        clear hs
        go_wp2_with (refine wpList_load_mid rfl 61 _ rfl b (o + k * 5) rfl _ _ (rangeAt_below hr.out (B := w.heap.size) (by go_grown) hb) Tryz.underlying61 rfl (by kernel_rfl) ?_)
        go_wp2
        go_roundw
        case rel => exact ⟨k + 1, by omega, by go_num, by rw [HS.out], HB.out.alloc hz _⟩
        case measure => simp [intOf]; omega
      · have hs : upsTo V (k + 1) = upsTo V k + 2 ^ k := by simp [upsTo, hu]
        have HS := Lib.hid hs
        rw [hu] at hr
        clear hs
        go_wp2_with (refine wpList_load_mid rfl 61 _ rfl b (o + k * 5) rfl _ _ (rangeAt_below hr.out (B := w.heap.size) (by go_grown) hb) Tryz.underlying61 rfl (by kernel_rfl) ?_)
        go_wp2
        go_roundw
        case rel => exact ⟨k + 1, by omega, by go_num, by rw [HS.out, wrapPow k (by omega), HO.out], HB.out.alloc hz _⟩
        case measure => simp [intOf]; omega
    · obtain rfl : k = V.cn := by omega
      go_wp2
      go_ret
      exact ⟨rfl, HB.out⟩
set_option maxHeartbeats 4000000 in
theorem pins_any (V : WV) (T : Tree V) (a : WA) (hw G : Nat) (hG : G < 8) (hGu : (V.gv G).us = true) (hn : V.cn ≤ 4) (w : World) (hk : Bk w hw 33 #[.int .i64 V.now, .slice (some ⟨a.ca, a.oc, none⟩) V.cn a.cc, .slice (some ⟨a.ta, a.ot, none⟩) V.tn a.tc, .slice (some ⟨a.ga, a.og, none⟩) V.gn a.gc]) (m : MR w V a) :
    Calls Tryz.prog 102 #[.pointer (some ⟨hw, 0, none⟩), .int .i64 G] w fun e w' => e = .returned (.int .i64 (maskAnd (pinM V G) (ups V))) ∧ Below w.heap.size w w' := by
  have n8 := T.n8
  have hkl := hk.lt
  have hon := online_any V hw _ _ _ _ _ hn w hk (fun _ => ⟨a.ca, a.oc, rfl, m.cl, m.c⟩)
  have HON := Lib.hid hon
  have HK := Lib.hid hk
  have HM := Lib.hid m
  have HT := Lib.hid T
  have HE := Lib.hid (maskAnd_comm (pinM V G) (ups V))
  clear hon hk m T
  go_enter Tryz.func102, Tryz.ntmps102
  go_wp2_with (go_at_call 83; refine HON.out.mono ?_; rintro e w1 ⟨rfl, hb1⟩)
  obtain ⟨_, _, _, k3⟩ := (HK.out.below hb1 hkl).four
  have gl := HM.out.gl
  have HM1 := Lib.hid (HM.out.below hb1)
  have HB1 := Lib.hid hb1
  clear hb1 HON HM
  go_loop [1, 5] (fun i s => ∃ (g : Nat) (sv : Int), g < 8 ∧ (V.gv g).us = true ∧ i = .int .i64 g ∧ s = .int .i64 sv ∧ Hid (maskAnd sv (pinM V g) = maskAnd (ups V) (pinM V G))) (fun i _ => dN V (intOf i).toNat)
  case atStart => exact ⟨G, ups V, hG, hGu, rfl, rfl, rfl⟩
  case round =>
    obtain ⟨g, sv, hg8, hgu, rfl, rfl, HI⟩ := hrel
    have c4 := HM1.out.g g (by omega) 4 _ rfl
    by_cases h0 : g = 0
    · subst h0
      have hp := HT.out.pin0
      have HN : Hid (maskAnd sv (V.gv 0).cp = maskAnd (pinM V G) (ups V)) := by rw [HE.out, ← HI.out, hp]; rfl
      clear hp HI
      simp only [Nat.zero_mul, Nat.add_zero] at c4
      go_wp2_with (go_at_call 103; refine (iMaskAnd_any _ _ _).mono ?_; rintro e w9 ⟨rfl, rfl⟩)
      go_ret
      exact ⟨by rw [HN.out]; rfl, HB1.out⟩
    · have h0' : ((g : Int) != 0) = true := by simp [h0]
      have hp := HT.out.pin h0 hg8 hgu
      obtain ⟨p1, p2, p3, p4⟩ := HT.out.pa g h0 hg8 hgu
      have c1 := HM1.out.g g (by omega) 1 _ rfl
      rw [p1] at c1
      have HI2 : Hid (maskAnd (maskAnd sv (V.gv g).cp) (pinM V (pN V g)) = maskAnd (ups V) (pinM V G)) := by rw [maskAnd_assoc, ← hp]; exact HI.out
      clear hp HI p1
      go_wp2_with (go_at_call 103; refine (iMaskAnd_any _ _ _).mono ?_; rintro e w9 ⟨rfl, rfl⟩)
      go_round
      case rel => exact ⟨pN V g, _, p2, p3, by go_num, rfl, HI2⟩
      case measure => simp [intOf]; omega
set_option maxHeartbeats 4000000 in
theorem allowedIn_any (V : WV) (T : Tree V) (a : WA) (hw G : Nat) (x : Int) (hG : G < 8) (hGu : (V.gv G).us = true) (hn : V.cn ≤ 4) (w : World) (hk : Bk w hw 33 #[.int .i64 V.now, .slice (some ⟨a.ca, a.oc, none⟩) V.cn a.cc, .slice (some ⟨a.ta, a.ot, none⟩) V.tn a.tc, .slice (some ⟨a.ga, a.og, none⟩) V.gn a.gc]) (m : MR w V a) :
    Calls Tryz.prog 68 #[.pointer (some ⟨hw, 0, none⟩), .int .i64 x, .int .i64 G] w fun e w' => e = .returned (.int .i64 (whereM V G x)) ∧ Below w.heap.size w w' := by
  have hkl := hk.lt
  have HPN := Lib.hid (pins_any V T a hw G hG hGu hn w hk m)
  have HON : Hid (∀ w', Below w.heap.size w w' → Calls Tryz.prog 83 #[.pointer (some ⟨hw, 0, none⟩)] w' fun e w'' => e = .returned (.int .i64 (ups V)) ∧ Below w'.heap.size w' w'') := fun w' hb => online_any V hw _ _ _ _ _ hn w' (hk.below hb hkl) (fun _ => ⟨a.ca, a.oc, rfl, (m.below hb).cl, (m.below hb).c⟩)
  have HE : Hid (whereM V G x = if maskAnd x (maskAnd (pinM V G) (ups V)) ≠ 0 then maskAnd x (maskAnd (pinM V G) (ups V)) else if maskAnd (pinM V G) (ups V) ≠ 0 then maskAnd (pinM V G) (ups V) else ups V) := rfl
  obtain ⟨P, hP⟩ : ∃ P, P = maskAnd (pinM V G) (ups V) := ⟨_, rfl⟩
  obtain ⟨R, hR⟩ : ∃ R, R = whereM V G x := ⟨_, rfl⟩
  rw [← hP] at HPN HE
  rw [← hR] at HE ⊢
  clear hP hR T hk m
  by_cases h1 : maskAnd x P = 0
  · have h1' : (maskAnd x P != 0) = false := by simp [h1]
    by_cases h2 : P = 0
    · have h2' : (P != 0) = false := by simp [h2]
      have HN : Hid (R = ups V) := by rw [HE.out, if_neg (by simp [h1]), if_neg (by simp [h2])]; rfl
      clear h1 h2
      go_enter Tryz.func68, Tryz.ntmps68
      go_wp2_with (first | (go_at_call 102; refine HPN.out.mono ?_; rintro e w1 ⟨rfl, hb1⟩) | (go_at_call 103; refine (iMaskAnd_any _ _ _).mono ?_; rintro e w9 ⟨rfl, rfl⟩) | (go_at_call 83; refine (HON.out _ hb1).mono ?_; rintro e w2 ⟨rfl, hb2⟩))
      go_ret
      exact ⟨by rw [HN.out]; rfl, hb1.trans (hb2.mono hb1.size)⟩
    · have h2' : (P != 0) = true := by simp [h2]
      have HN : Hid (R = P) := by rw [HE.out, if_neg (by simp [h1]), if_pos (by simp [h2])]; rfl
      clear h1 h2
      go_enter Tryz.func68, Tryz.ntmps68
      go_wp2_with (first | (go_at_call 102; refine HPN.out.mono ?_; rintro e w1 ⟨rfl, hb1⟩) | (go_at_call 103; refine (iMaskAnd_any _ _ _).mono ?_; rintro e w9 ⟨rfl, rfl⟩))
      go_ret
      exact ⟨by rw [HN.out]; rfl, hb1⟩
  · have h1' : (maskAnd x P != 0) = true := by simp [h1]
    have HN : Hid (R = maskAnd x P) := by rw [HE.out, if_pos (by simp [h1])]; rfl
    clear h1
    go_enter Tryz.func68, Tryz.ntmps68
    go_wp2_with (first | (go_at_call 102; refine HPN.out.mono ?_; rintro e w1 ⟨rfl, hb1⟩) | (go_at_call 103; refine (iMaskAnd_any _ _ _).mono ?_; rintro e w9 ⟨rfl, rfl⟩))
    go_ret
    exact ⟨by rw [HN.out]; rfl, hb1⟩
set_option maxHeartbeats 4000000 in
theorem allowed_any (V : WV) (T : Tree V) (a : WA) (hw t : Nat) (ht : t < V.tn) (_htn : V.tn ≤ 1048576) (hu : usedB (fun i => (V.gv i).us) V.gn (V.tv t).gr = true) (hn : V.cn ≤ 4) (w : World) (hk : Bk w hw 33 #[.int .i64 V.now, .slice (some ⟨a.ca, a.oc, none⟩) V.cn a.cc, .slice (some ⟨a.ta, a.ot, none⟩) V.tn a.tc, .slice (some ⟨a.ga, a.og, none⟩) V.gn a.gc]) (m : MR w V a) :
    Calls Tryz.prog 36 #[.pointer (some ⟨hw, 0, none⟩), .int .i64 t] w fun e w' => e = .returned (.int .i64 (whereM V (V.tv t).gr.toNat (V.tv t).ma)) ∧ Below w.heap.size w w' := by
  have n8 := T.n8
  obtain ⟨_, _, k2, _⟩ := hk.four
  have hkl := hk.lt
  obtain ⟨u1, u2, u3⟩ := usedB_iff.1 hu
  obtain ⟨G, hG⟩ := Int.eq_ofNat_of_zero_le u1
  have c1 := m.t t ht 1 _ rfl
  have c4 := m.t t ht 4 _ rfl
  rw [hG] at c1 u2 u3 ⊢
  simp only [Int.toNat_natCast] at u3 ⊢
  have htl := m.tl
  have HAI : Hid (∀ w', Below w.heap.size w w' → Calls Tryz.prog 68 #[.pointer (some ⟨hw, 0, none⟩), .int .i64 (V.tv t).ma, .int .i64 G] w' fun e w'' => e = .returned (.int .i64 (whereM V G (V.tv t).ma)) ∧ Below w'.heap.size w' w'') := fun w' hb => allowedIn_any V T a hw G _ (by omega) u3 hn w' (hk.below hb hkl) (m.below hb)
  clear hk m T hu
  have KS : ∀ w', Below w.heap.size w w' → (fun w' => Below w.heap.size w w' ∧ w'.cell? ⟨hw, 2, none⟩ = some (.slice (some ⟨a.ta, a.ot, none⟩) V.tn a.tc) ∧ w'.cell? ⟨a.ta, a.ot + t * 9 + 1, none⟩ = some (.int .i64 (G : Nat)) ∧ w'.cell? ⟨a.ta, a.ot + t * 9 + 4, none⟩ = some (.int .i64 (V.tv t).ma)) w' := fun w' h => ⟨h, (h.cell (p := ⟨hw, 2, none⟩) hkl).trans k2, (h.cell (p := ⟨a.ta, a.ot + t * 9 + 1, none⟩) htl).trans c1, (h.cell (p := ⟨a.ta, a.ot + t * 9 + 4, none⟩) htl).trans c4⟩
  have KT : ∀ wa wb, (fun w' => Below w.heap.size w w' ∧ w'.cell? ⟨hw, 2, none⟩ = some (.slice (some ⟨a.ta, a.ot, none⟩) V.tn a.tc) ∧ w'.cell? ⟨a.ta, a.ot + t * 9 + 1, none⟩ = some (.int .i64 (G : Nat)) ∧ w'.cell? ⟨a.ta, a.ot + t * 9 + 4, none⟩ = some (.int .i64 (V.tv t).ma)) wa → Below wa.heap.size wa wb → (fun w' => Below w.heap.size w w' ∧ w'.cell? ⟨hw, 2, none⟩ = some (.slice (some ⟨a.ta, a.ot, none⟩) V.tn a.tc) ∧ w'.cell? ⟨a.ta, a.ot + t * 9 + 1, none⟩ = some (.int .i64 (G : Nat)) ∧ w'.cell? ⟨a.ta, a.ot + t * 9 + 4, none⟩ = some (.int .i64 (V.tv t).ma)) wb := fun wa wb h hab => KS wb (h.1.trans (hab.mono h.1.size))
  have HKS := Lib.hid KS
  have HKT := Lib.hid KT
  clear KS KT
  go_enter Tryz.func36, Tryz.ntmps36
  go_wp2
  go_region_held3 (fun w' => Below w.heap.size w w' ∧ w'.cell? ⟨hw, 2, none⟩ = some (.slice (some ⟨a.ta, a.ot, none⟩) V.tn a.tc) ∧ w'.cell? ⟨a.ta, a.ot + t * 9 + 1, none⟩ = some (.int .i64 (G : Nat)) ∧ w'.cell? ⟨a.ta, a.ot + t * 9 + 4, none⟩ = some (.int .i64 (V.tv t).ma)) (first | exact HKS.out _ (Below.refl _ _).drew | assumption | exact HKT.out _ _ (by assumption) hb1 | exact HKT.out _ _ (by assumption) ((Below.refl _ _).alloc (Nat.le_refl _) _)) (first | (go_at_call 68; refine (HAI.out _ (by assumption : Below _ _ _ ∧ _).1).mono ?_; rintro e w1 ⟨rfl, hb1⟩))
  all_goals
    go_wp2
    go_ret
    exact ⟨rfl, (by assumption : Below w.heap.size w _ ∧ _).1⟩
end Go.Proofs.YtndbmeedimhohaaGreat

/- Trees: marking groups (printed by mkg16.py). -/
import Derived.Test.YtndbmeedimhohaaG15Base
namespace Go.Proofs.Ytndbmeedimhohaa
open Go.RowKit
set_option maxRecDepth 100000 in
set_option maxHeartbeats 8000000 in
theorem markGroupS_any (q n c : Nat) (hn : n ≤ 1048576) (g : Nat → GV) (h : Nat → GH) (hL : ∀ i, i < n → GLen (g i)) (k : Int) (h0 : 0 ≤ k) (hk : k ≤ 1000000) (w : World) (ho : OwnGs w q n g h) :
    Calls Try.prog 18 #[.slice (some ⟨q, 0, none⟩) n c, .int .i64 k] w fun e w' => e = .returned (.int .i64 (kUp g k n)) ∧ OwnGs w' q n (fun i => mkG (g i) (kUp g k i)) h ∧ Kept (touched q n g h) w w' := by
  obtain ⟨o1, lo, hq, hm, h2⟩ := ho
  have HKB := Lib.hid (kUp_b (k := k) hL)
  have HLO : Hid (∀ i, i < n → q < lo i) := fun i hi => Nat.lt_of_lt_of_le hq (lo_le hm i 0 (by omega) (by omega))
  have HLI : Hid (∀ i, i < n → GLie (lo i) (lo (i + 1)) (h i)) := fun i hi => (h2 i hi).1
  have HMO : Hid (∀ i j, i < j → j < n → lo (i + 1) ≤ lo j) := fun i j hij hj => lo_le hm j (i + 1) (by omega) (by omega)
  have H0 : Hid (MarkS w w q n g h lo k 0) := Lib.hid ⟨o1.congr (fun i _ => by simp [gm]), fun i hi => by have := (h2 i hi).2; simpa [gm] using this, Kept.refl _ _⟩
  have HFIN : Hid (∀ w', MarkS w w' q n g h lo k n → OwnGs w' q n (fun i => mkG (g i) (kUp g k i)) h ∧ Kept (touched q n g h) w w') := fun w' m =>
    ⟨⟨m.s.congr (fun i hi => by simp [gm, hi]), lo, hq, hm, fun i hi => ⟨(h2 i hi).1, by have := m.r i hi; simpa [gm, hi] using this⟩⟩, m.kept⟩
  have HL := Lib.hid hL
  clear o1 h2 hq hm hL
  go_enter Try.func18, Try.ntmps18
  go_wp2
  go_loopw [1, 5] (fun t i wr => ∃ j : Nat, j ≤ n ∧ i = .int .i64 j ∧ t = .int .i64 (kUp g k j) ∧ Hid (MarkS w wr q n g h lo k j)) (fun _ i _ => n - (intOf i).toNat)
  case atStart => exact ⟨0, Nat.zero_le _, rfl, rfl, H0⟩
  case round =>
    obtain ⟨j, hj, rfl, rfl, HM⟩ := hrel
    by_cases hlt : j < n
    · obtain ⟨kk, hkk⟩ : ∃ kk, kk = kUp g k j := ⟨_, rfl⟩
      have hb := HKB.out j (by omega)
      rw [← hkk] at hb ⊢
      obtain ⟨hb1, hb2⟩ := hb
      have hk0 : 0 ≤ kk := by omega
      have hk1 : kk ≤ 20000000000000 := by omega
      clear hb1 hb2
      have HKK := Lib.hid hkk
      clear hkk
      obtain ⟨g1, g2, g3, g4⟩ := HL.out j hlt
      have HG1 := Lib.hid g1
      clear g1
      have c0 : wr.cell? ⟨q, j * 14, none⟩ = some (.bool (g j).us) := HM.out.s.cell j hlt 0 _ (by simp only [gm_eq]; rfl)
      have c1 : wr.cell? ⟨q, j * 14 + 1, none⟩ = some (.int .i64 (g j).pa) := HM.out.s.cell j hlt 1 _ (by simp only [gm_eq]; rfl)
      have f0 : wr.frozen? ⟨q, j * 14, none⟩ = false := HM.out.s.free j hlt 0 (by omega)
      have f1 : wr.frozen? ⟨q, j * 14 + 1, none⟩ = false := HM.out.s.free j hlt 1 (by omega)
      have HX := Lib.hid (HM.out.two (kk := kk) hlt HLO.out)
      clear HM H0
      go_wp2_with fail
      refine (markText_any (kk + 1 + 1) (by omega) _ _ (Below.refl _ _)).mono ?_
      rintro e w1 ⟨rfl, hb1⟩
      obtain ⟨S1, R1, K1⟩ := HX.out
      have S2 := S1.below hb1 S1.1
      have HR2 := Lib.hid (fun i hi => (R1 i hi).below hb1 (Nat.le_refl _))
      have HK2 := Lib.hid (K1.trans ((Kept.of hb1).mono (fun _ _ hh => hh)))
      have HS2 := Lib.hid S2
      clear S1 R1 K1 hb1 HX
      have d2 : w1.cell? ⟨q, j * 14 + 2, none⟩ = some (.string (g j).nm) := S2.cell j hlt 2 _ (by simp only [if_true]; rfl)
      have e2 : w1.frozen? ⟨q, j * 14 + 2, none⟩ = false := S2.free j hlt 2 (by omega)
      have d3 : w1.cell? ⟨q, j * 14 + 3, none⟩ = some (.int .i64 (g j).we) := S2.cell j hlt 3 _ (by simp only [if_true]; rfl)
      have e3 : w1.frozen? ⟨q, j * 14 + 3, none⟩ = false := S2.free j hlt 3 (by omega)
      have d4 : w1.cell? ⟨q, j * 14 + 4, none⟩ = some (.int .i64 (g j).cp) := S2.cell j hlt 4 _ (by simp only [if_true]; rfl)
      have e4 : w1.frozen? ⟨q, j * 14 + 4, none⟩ = false := S2.free j hlt 4 (by omega)
      have d5 : w1.cell? ⟨q, j * 14 + 5, none⟩ = some (.int .i64 (g j).pe) := S2.cell j hlt 5 _ (by simp only [if_true]; rfl)
      have e5 : w1.frozen? ⟨q, j * 14 + 5, none⟩ = false := S2.free j hlt 5 (by omega)
      have d6 : w1.cell? ⟨q, j * 14 + 6, none⟩ = some (.int .i64 (g j).ne) := S2.cell j hlt 6 _ (by simp only [if_true]; rfl)
      have e6 : w1.frozen? ⟨q, j * 14 + 6, none⟩ = false := S2.free j hlt 6 (by omega)
      have d7 : w1.cell? ⟨q, j * 14 + 7, none⟩ = some (.int .i64 (g j).su) := S2.cell j hlt 7 _ (by simp only [if_true]; rfl)
      have e7 : w1.frozen? ⟨q, j * 14 + 7, none⟩ = false := S2.free j hlt 7 (by omega)
      have d8 : w1.cell? ⟨q, j * 14 + 8, none⟩ = some (.int .i64 (g j).qu) := S2.cell j hlt 8 _ (by simp only [if_true]; rfl)
      have e8 : w1.frozen? ⟨q, j * 14 + 8, none⟩ = false := S2.free j hlt 8 (by omega)
      have d9 : w1.cell? ⟨q, j * 14 + 9, none⟩ = some (.int .i64 (g j).po) := S2.cell j hlt 9 _ (by simp only [if_true]; rfl)
      have e9 : w1.frozen? ⟨q, j * 14 + 9, none⟩ = false := S2.free j hlt 9 (by omega)
      have d10 : w1.cell? ⟨q, j * 14 + 10, none⟩ = some (.int .i64 (g j).sp) := S2.cell j hlt 10 _ (by simp only [if_true]; rfl)
      have e10 : w1.frozen? ⟨q, j * 14 + 10, none⟩ = false := S2.free j hlt 10 (by omega)
      have d11 : w1.cell? ⟨q, j * 14 + 11, none⟩ = some (.slice (h j).la (g j).ln (h j).lc) := S2.cell j hlt 11 _ (by simp only [if_true]; rfl)
      have e11 : w1.frozen? ⟨q, j * 14 + 11, none⟩ = false := S2.free j hlt 11 (by omega)
      have d12 : w1.cell? ⟨q, j * 14 + 12, none⟩ = some (.slice (h j).da (g j).dn (h j).dc) := S2.cell j hlt 12 _ (by simp only [if_true]; rfl)
      have e12 : w1.frozen? ⟨q, j * 14 + 12, none⟩ = false := S2.free j hlt 12 (by omega)
      have d13 : w1.cell? ⟨q, j * 14 + 13, none⟩ = some (.slice (h j).sa (g j).sn (h j).sc) := S2.cell j hlt 13 _ (by simp only [if_true]; rfl)
      have e13 : w1.frozen? ⟨q, j * 14 + 13, none⟩ = false := S2.free j hlt 13 (by omega)
      clear S2
      go_wp2_with fail
      have S3 := nine (kk := kk) HS2.out hlt (fun m => by split <;> rfl)
      have R3 : ∀ i, i < n → GOwn ((((((((((w1).setCell ⟨q, j * 14 + 2, none⟩ (.string (mText (kk + 1 + 1)))).setCell ⟨q, j * 14 + 3, none⟩ (.int .i64 (kk + 1 + 1 + 1))).setCell ⟨q, j * 14 + 4, none⟩ (.int .i64 (kk + 1 + 1 + 1 + 1))).setCell ⟨q, j * 14 + 5, none⟩ (.int .i64 (kk + 1 + 1 + 1 + 1 + 1))).setCell ⟨q, j * 14 + 6, none⟩ (.int .i64 (kk + 1 + 1 + 1 + 1 + 1 + 1))).setCell ⟨q, j * 14 + 7, none⟩ (.int .i64 (kk + 1 + 1 + 1 + 1 + 1 + 1 + 1))).setCell ⟨q, j * 14 + 8, none⟩ (.int .i64 (kk + 1 + 1 + 1 + 1 + 1 + 1 + 1 + 1))).setCell ⟨q, j * 14 + 8 + 1, none⟩ (.int .i64 (kk + 1 + 1 + 1 + 1 + 1 + 1 + 1 + 1 + 1))).setCell ⟨q, j * 14 + 8 + 2, none⟩ (.int .i64 (kk + 1 + 1 + 1 + 1 + 1 + 1 + 1 + 1 + 1 + 1))) (lo i) (gm g k j i) (h i) := fun i hi => by
        have hq0 := HLO.out i hi
        exact ((((((((((HR2.out i hi).off hq0 _).off hq0 _).off hq0 _).off hq0 _).off hq0 _).off hq0 _).off hq0 _).off hq0 _).off hq0 _)
      have K3 : Kept (touched q n g h) w ((((((((((w1).setCell ⟨q, j * 14 + 2, none⟩ (.string (mText (kk + 1 + 1)))).setCell ⟨q, j * 14 + 3, none⟩ (.int .i64 (kk + 1 + 1 + 1))).setCell ⟨q, j * 14 + 4, none⟩ (.int .i64 (kk + 1 + 1 + 1 + 1))).setCell ⟨q, j * 14 + 5, none⟩ (.int .i64 (kk + 1 + 1 + 1 + 1 + 1))).setCell ⟨q, j * 14 + 6, none⟩ (.int .i64 (kk + 1 + 1 + 1 + 1 + 1 + 1))).setCell ⟨q, j * 14 + 7, none⟩ (.int .i64 (kk + 1 + 1 + 1 + 1 + 1 + 1 + 1))).setCell ⟨q, j * 14 + 8, none⟩ (.int .i64 (kk + 1 + 1 + 1 + 1 + 1 + 1 + 1 + 1))).setCell ⟨q, j * 14 + 8 + 1, none⟩ (.int .i64 (kk + 1 + 1 + 1 + 1 + 1 + 1 + 1 + 1 + 1))).setCell ⟨q, j * 14 + 8 + 2, none⟩ (.int .i64 (kk + 1 + 1 + 1 + 1 + 1 + 1 + 1 + 1 + 1 + 1))) := (((((((((HK2.out.setCell (.inl rfl) _).setCell (.inl rfl) _).setCell (.inl rfl) _).setCell (.inl rfl) _).setCell (.inl rfl) _).setCell (.inl rfl) _).setCell (.inl rfl) _).setCell (.inl rfl) _).setCell (.inl rfl) _)
      generalize (((((((((w1).setCell ⟨q, j * 14 + 2, none⟩ (.string (mText (kk + 1 + 1)))).setCell ⟨q, j * 14 + 3, none⟩ (.int .i64 (kk + 1 + 1 + 1))).setCell ⟨q, j * 14 + 4, none⟩ (.int .i64 (kk + 1 + 1 + 1 + 1))).setCell ⟨q, j * 14 + 5, none⟩ (.int .i64 (kk + 1 + 1 + 1 + 1 + 1))).setCell ⟨q, j * 14 + 6, none⟩ (.int .i64 (kk + 1 + 1 + 1 + 1 + 1 + 1))).setCell ⟨q, j * 14 + 7, none⟩ (.int .i64 (kk + 1 + 1 + 1 + 1 + 1 + 1 + 1))).setCell ⟨q, j * 14 + 8, none⟩ (.int .i64 (kk + 1 + 1 + 1 + 1 + 1 + 1 + 1 + 1))).setCell ⟨q, j * 14 + 8 + 1, none⟩ (.int .i64 (kk + 1 + 1 + 1 + 1 + 1 + 1 + 1 + 1 + 1))).setCell ⟨q, j * 14 + 8 + 2, none⟩ (.int .i64 (kk + 1 + 1 + 1 + 1 + 1 + 1 + 1 + 1 + 1 + 1)) = X2 at S3 R3 K3 ⊢
      clear d2 e2 d3 e3 d4 e4 d5 e5 d6 e6 d7 e7 d8 e8 d9 e9 d10 e10 d11 e11 d12 e12 d13 e13 HS2 HR2 HK2
      have HS3 := Lib.hid S3
      have HR3 := Lib.hid R3
      have HK3 := Lib.hid K3
      have HJ : Hid (GOwn X2 (lo j) (g j) (h j)) := by have := R3 j hlt; rw [gm_eq] at this; exact this
      clear S3 R3 K3
      refine (markIntS_any (h j).la (g j).ln (h j).lc (lo j) _ (by omega) (by omega) g2 _ _ HJ.out.l).mono ?_
      rintro e w2 ⟨rfl, hk2, ho2⟩
      have HP : Hid (∀ i, i < n → i ≠ j → ∀ b, lo i ≤ b → b < lo (i + 1) → ¬ (hd (h j).la b ∨ hd (h j).da b ∨ hd (h j).sa b)) := fun i hi hne b h1 h2 hb => by
        obtain ⟨h3, h4⟩ := (HLI.out j hlt).in_ hb
        rcases Nat.lt_or_gt_of_ne hne with hx | hx
        · have := HMO.out i j hx hlt; omega
        · have := HMO.out j i hx hi; omega
      have HQ : Hid (q < lo j) := Lib.hid (HLO.out j hlt)
      have HS4 := Lib.hid (HS3.out.kept hk2 (fun hh => by have := HQ.out; have := hh.2.1; omega))
      have HR4 : Hid (∀ i, i < n → i ≠ j → GOwn w2 (lo i) (gm g k j i) (h i)) := fun i hi hne => (HR3.out i hi).aside (HLI.out i hi) hk2 (fun b h1 h2 hp => HP.out i hi hne b h1 h2 (.inl hp.2.2))
      have HD4 := Lib.hid (HJ.out.d.kept hk2 (fun _ b _ hb hp => ((HLI.out j hlt).apart.2.1 hb).1 hp.2.2))
      have HQ4 := Lib.hid (HJ.out.s.kept hk2 (fun _ b _ hb hp => ((HLI.out j hlt).apart.2.2 hb).1 hp.2.2))
      have HL4 := Lib.hid ho2
      have HK4 := Lib.hid (HK3.out.trans (hk2.mono (fun b _ hp => .inr ⟨j, hlt, .inl ⟨hp.1, hp.2.2⟩⟩)))
      have d12 : w2.cell? ⟨q, j * 14 + 12, none⟩ = some (.slice (h j).da (g j).dn (h j).dc) := HS4.out.cell j hlt 12 _ (by simp only [if_true]; rfl)
      clear HS3 HR3 HJ HK3 hk2 ho2
      go_wp2_with fail
      refine (markBoolS_any (h j).da (g j).dn (h j).dc (lo j) _ (by omega) (by omega) g3 _ _ HD4.out).mono ?_
      rintro e w3 ⟨rfl, hk3, ho3⟩
      have HS5 := Lib.hid (HS4.out.kept hk3 (fun hh => by have := HQ.out; have := hh.2.1; omega))
      have HR5 : Hid (∀ i, i < n → i ≠ j → GOwn w3 (lo i) (gm g k j i) (h i)) := fun i hi hne => (HR4.out i hi hne).aside (HLI.out i hi) hk3 (fun b h1 h2 hp => HP.out i hi hne b h1 h2 (.inr (.inl hp.2.2)))
      have HL5 := Lib.hid (HL4.out.kept hk3 (fun _ b _ hb hp => ((HLI.out j hlt).apart.1 hb).1 hp.2.2))
      have HQ5 := Lib.hid (HQ4.out.kept hk3 (fun _ b _ hb hp => ((HLI.out j hlt).apart.2.2 hb).2 hp.2.2))
      have HD5 := Lib.hid ho3
      have HK5 := Lib.hid (HK4.out.trans (hk3.mono (fun b _ hp => .inr ⟨j, hlt, .inr (.inl ⟨hp.1, hp.2.2⟩)⟩)))
      have d13 : w3.cell? ⟨q, j * 14 + 13, none⟩ = some (.slice (h j).sa (g j).sn (h j).sc) := HS5.out.cell j hlt 13 _ (by simp only [if_true]; rfl)
      clear HS4 HR4 HL4 HD4 HQ4 HK4 hk3 ho3 d12
      go_wp2_with fail
      refine (markShelfS_any (h j).sa (g j).sn (h j).sc (lo j) _ (by omega) (by omega) g4 _ (fun i => rfl) _ HQ5.out).mono ?_
      rintro e w4 ⟨rfl, hk4, ho4⟩
      have HN : Hid (MarkS w w4 q n g h lo k (j + 1)) := by
        refine ⟨(HS5.out.kept hk4 (fun hh => by have := HQ.out; have := hh.2.1; omega)).congr (fun i hi => ?_), fun i hi => ?_, HK5.out.trans (hk4.mono (fun b _ hp => .inr ⟨j, hlt, .inr (.inr ⟨hp.1, hp.2.2⟩)⟩))⟩
        · by_cases e : i = j
          · subst e
            simp only [if_true, gm_self, ← HKK.out]
            rfl
          · simp only [if_neg e, gm_next e]
        · by_cases e : i = j
          · subst e
            rw [gm_self, ← HKK.out]
            exact ⟨HL5.out.kept hk4 (fun _ b _ hb hp => ((HLI.out i hlt).apart.1 hb).2 hp.2.2), HD5.out.kept hk4 (fun _ b _ hb hp => ((HLI.out i hlt).apart.2.1 hb).2 hp.2.2), ho4⟩
          · rw [gm_next e]
            exact (HR5.out i hi e).aside (HLI.out i hi) hk4 (fun b h1 h2 hp => HP.out i hi e b h1 h2 (.inr (.inr hp.2.2)))
      clear HS5 HR5 HL5 HD5 HQ5 HK5 hk4 ho4 d13 HP HQ HLI HMO HLO HFIN HKB HL HG1
      go_wp2
      go_roundw
      case rel => exact ⟨j + 1, by omega, by go_num, by rw [HKK.out]; rfl, HN⟩
      case measure => simp [intOf]; omega
    · obtain rfl : j = n := by omega
      go_wp2
      go_ret
      exact ⟨rfl, HFIN.out _ HM.out⟩
end Go.Proofs.Ytndbmeedimhohaa

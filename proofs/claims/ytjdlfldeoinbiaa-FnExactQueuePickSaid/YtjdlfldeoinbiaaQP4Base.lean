/- Queues: queueFirst, queueNext and QueuePick of impl. -/
import Derived.Test.YtjdlfldeoinbiaaQP3Base
namespace Go.Proofs.Ytjdlfldeoinbiaa
open Go.RowKit
/-- What the pile holds behind k entries: nothing and nobody is ready, or the least at its root. -/
def PileI (on : Nat → Bool) (v : Nat → Int) (n k m : Nat) (ys : Nat → Int) : Prop :=
  m ≤ k ∧ (m = 0 → leastTo on v k = -1) ∧ (0 < m → leastTo on v k = ys 0) ∧ (∀ i, i < m → 0 ≤ ys i ∧ ys i < n) ∧ (∀ i, i < m → lt2 v (ys i) (ys 0) = false)
theorem PileI.skip {on : Nat → Bool} {v : Nat → Int} {n k m : Nat} {ys : Nat → Int} (h : PileI on v n k m ys) (hk : on k = false) : PileI on v n (k + 1) m ys := by
  obtain ⟨h1, h2, h3, h4, h5⟩ := h
  refine ⟨by omega, fun e => ?_, fun e => ?_, h4, h5⟩
  · rw [leastTo_no on v k hk]; exact h2 e
  · rw [leastTo_no on v k hk]; exact h3 e
theorem PileI.push {on : Nat → Bool} {v : Nat → Int} {n k m : Nat} {ys zs : Nat → Int} (h : PileI on v n k m ys) (hk : on k = true) (hr : PushR v ys k m n zs) : PileI on v n (k + 1) (m + 1) zs := by
  obtain ⟨h1, h2, h3, h4, h5⟩ := h
  obtain ⟨r1, r2, r3⟩ := hr
  refine ⟨by omega, fun e => by omega, fun _ => ?_, r1, r2⟩
  rw [r3]
  unfold rootOf
  by_cases hm : m = 0
  · rw [if_pos hm]
    exact leastTo_first on v k hk (by rw [h2 hm]; omega)
  · rw [if_neg hm]
    have h6 := h3 (by omega)
    have h7 := h4 0 (by omega)
    have h8 := leastTo_b on v k
    by_cases hl : lt2 v k (ys 0) = true
    · rw [if_pos hl]
      rw [lt2_iff] at hl
      refine leastTo_less on v k hk ?_
      rw [h6]
      simp only [Int.toNat_natCast] at hl
      omega
    · rw [if_neg hl]
      rw [lt2_iff] at hl
      simp only [Int.toNat_natCast] at hl
      rw [leastTo_stay on v k (by omega) (by rw [h6]; omega)]
      exact h6
theorem PileI.start (on : Nat → Bool) (v : Nat → Int) (n : Nat) : PileI on v n 0 0 (fun _ => 0) :=
  ⟨Nat.le_refl _, fun _ => rfl, fun h => absurd h (by omega), fun i hi => absurd hi (by omega), fun i hi => absurd hi (by omega)⟩
theorem PileAt.alloc {w : World} {B g m : Nat} {fv : Value} {xs : Nat → Int} (h : PileAt w B g fv m xs) (o : Obj) : PileAt (w.alloc o) B g fv m xs := by
  obtain ⟨lv, h1, h2⟩ := h
  exact ⟨lv, h1.alloc o, h2.alloc o⟩
theorem PileAt.start {w : World} {B g : Nat} {fv : Value} (h : Bk w g 66 #[.slice none 0 0, fv]) : PileAt w B g fv 0 (fun _ => 0) :=
  ⟨_, h, by simp [ints], .inl ⟨rfl, by simp [ints]⟩⟩
set_option maxHeartbeats 1000000 in
theorem queueFirst_any (fl cu ra : Int) (A : Option Addr) (n c : Nat) (hn0 : 1 ≤ (n : Int)) (hn : (n : Int) ≤ 20) (on : Nat → Bool) (v x s : Nat → Int) (w W : World) (hb : Below W.heap.size W w)
    (hA : Rs W W.heap.size A n 4 (ent on v x s)) :
    Calls Try.prog 48 #[.agg #[.int .i64 fl, .int .i64 cu, .int .i64 ra, .slice A n c]] w fun e w' => e = .returned (.int .i64 (leastTo on v n)) ∧ Below W.heap.size W w' := by
  have hz := hb.size
  obtain ⟨ga, oa, rfl, hga, hca⟩ := hA.at_ hb (by omega)
  have HC := Lib.hid hca
  clear hca hA
  go_enter Try.func48, Try.ntmps48
  have hkp := Bk.new' (w.alloc (.cells #[.int .i64 fl, .int .i64 cu, .int .i64 ra, .slice (some ⟨ga, oa, none⟩) n c] 29)) (w.heap.size + 1) 66 #[.slice none 0 0, .nilFunc] (by simp)
  have hkq := (Bk.new w 29 #[.int .i64 fl, .int .i64 cu, .int .i64 ra, .slice (some ⟨ga, oa, none⟩) n c]).alloc (.cells #[.slice none 0 0, .nilFunc] 66)
  have hkp2 := setRow_heap _ _ _ #[.slice none 0 0, .func (.func 49) #[] #[.pointer (some ⟨w.heap.size, 0, none⟩)]] _ _ hkp
  have hkq2 := hkq.rowOff (g' := w.heap.size + 1) (by omega) #[.slice none 0 0, .func (.func 49) #[] #[.pointer (some ⟨w.heap.size, 0, none⟩)]]
  obtain ⟨q0, q1, q2, q3⟩ := hkq2.four
  have HKP := Lib.hid hkp
  have HKP2 := Lib.hid hkp2
  have HKQ2 := Lib.hid hkq2
  clear hkp hkq hkp2 hkq2 q0 q1 q2
  go_wp2_with (refine wpList_store_row rfl 66 _ _ rfl (w.heap.size + 1) _ rfl rfl 66 _ HKP.out (by kernel_rfl) rfl (by kernel_rfl) ?_)
  clear q3 HKP
  go_loopw [13] (fun i wr => ∃ k : Nat, k ≤ n ∧ i = .int .i64 k ∧ ∃ m ys, Hid (PileAt wr (w.heap.size + 2) (w.heap.size + 1) (fvOf w.heap.size) m ys) ∧ Hid (PileI on v n k m ys) ∧ Hid (Bk wr w.heap.size 29 #[.int .i64 fl, .int .i64 cu, .int .i64 ra, .slice (some ⟨ga, oa, none⟩) n c]) ∧ Hid (Below w.heap.size w wr) ∧ w.heap.size + 2 ≤ wr.heap.size) (fun i _ => n - (intOf i).toNat)
  case atStart =>
    refine ⟨0, Nat.zero_le _, rfl, 0, _, PileAt.start HKP2.out, PileI.start on v n, HKQ2.out, ?_, ?_⟩
    · exact below_setRow (((Below.refl _ w).alloc (Nat.le_refl _) _).alloc (by simp) _) (by omega) _
    · simp [World.setRow]
  case round =>
    obtain ⟨k, hk, rfl, m, ys, HP, HI, HK, HB, hzr⟩ := hrel
    by_cases hlt : k < n
    · have hr : Hid (wr.rangeAt ga (oa + k * 4) [.bool (on k), .int .i64 (v k), .int .i64 (x k), .int .i64 (s k)]) := rangeAt_below (HC.out k hlt) HB.out hga
      have HKk := HK.out.four.2.2.2
      have HQ := Lib.hid HKk
      clear HKk
      cases r1 : on k
      · have HI2 := Lib.hid (HI.out.skip r1)
        rw [r1] at hr
        go_wp2_with (refine wpList_load_mid rfl 49 _ rfl ga (oa + k * 4) rfl _ _ hr.out Try.underlying49 rfl (by kernel_rfl) ?_)
        go_roundw
        case rel => exact ⟨k + 1, by omega, by go_num, m, ys, HP.out.alloc _, HI2, HK.out.alloc _, HB.out.alloc (by omega) _, by simp; omega⟩
        case measure => simp [intOf]; omega
      · rw [r1] at hr
        have hmk := HI.out.1
        have HV : Hid (∀ i, i < n → (wr.alloc (.cells #[.bool true, .int .i64 (v k), .int .i64 (x k), .int .i64 (s k)] 49)).cell? ⟨ga, oa + i * 4 + 1, none⟩ = some (.int .i64 (v i))) := fun i hi =>
          (rangeAt_below (HC.out i hi) (HB.out.alloc (by omega) _) hga) 1 _ rfl
        go_wp2_with (refine wpList_load_mid rfl 49 _ rfl ga (oa + k * 4) rfl _ _ hr.out Try.underlying49 rfl (by kernel_rfl) ?_)
        refine (push_any (w.heap.size + 2) (w.heap.size + 1) m n ga oa c w.heap.size k ys v _ (by omega) (by simp; omega) (by omega) (by omega) (by omega) (by omega) (by omega) HI.out.2.2.2.1 HI.out.2.2.2.2 (HP.out.alloc _) ((Below.alloc (Below.refl _ wr) (Nat.le_refl _) _).cell (p := ⟨w.heap.size, 3, none⟩) (by simp; omega) |>.trans HQ.out) HV.out).mono ?_
        rintro e w1 ⟨rfl, zs, HP1, HR1, hb1⟩
        have HP1' := Lib.hid HP1
        have HI2 := Lib.hid (HI.out.push r1 HR1)
        have HK1 := Lib.hid ((HK.out.alloc _).below hb1 (by omega))
        have HB1 := Lib.hid ((HB.out.alloc (by omega) _).trans (hb1.mono (by omega)))
        have hz1 := hb1.size
        simp only [World.size_alloc] at hz1
        clear HP1 HR1 hb1 HP HI HK HB HV hr HQ
        go_wp2
        go_roundw
        case rel => exact ⟨k + 1, by omega, by go_num, m + 1, zs, HP1', HI2, HK1, HB1, by omega⟩
        case measure => simp [intOf]; omega
    · obtain rfl : k = n := by omega
      have hmk := HI.out.1
      rcases Nat.eq_zero_or_pos m with h0 | h0
      · subst h0
        have HL := Lib.hid (HI.out.2.1 rfl)
        go_wp2_with (go_at_call 51; refine (top_none _ _ _ _ _ HP.out).mono ?_; rintro e w' ⟨rfl, rfl⟩)
        go_ret
        exact ⟨ret_intB HL.out.symm, bel hb HB.out⟩
      · have HL := Lib.hid (HI.out.2.2.1 h0)
        go_wp2_with (go_at_call 51; refine (top_some _ _ m _ _ _ h0 (by omega) HP.out).mono ?_; rintro e w' ⟨rfl, rfl⟩)
        go_ret
        exact ⟨ret_intB HL.out.symm, bel hb HB.out⟩
def nextOf (cu ra : Int) (n : Nat) (on : Nat → Bool) (v : Nat → Int) : Int := if cu ≠ -1 ∧ ra < 50 then cu else leastTo on v n
set_option maxHeartbeats 400000 in
theorem queueNext_any (fl cu ra : Int) (A : Option Addr) (n c : Nat) (hn0 : 1 ≤ (n : Int)) (hn : (n : Int) ≤ 20) (on : Nat → Bool) (v x s : Nat → Int) (w W : World) (hb : Below W.heap.size W w)
    (hA : Rs W W.heap.size A n 4 (ent on v x s)) :
    Calls Try.prog 41 #[.agg #[.int .i64 fl, .int .i64 cu, .int .i64 ra, .slice A n c]] w fun e w' => e = .returned (.int .i64 (nextOf cu ra n on v)) ∧ Below W.heap.size W w' := by
  have hz := hb.size
  have HA := Lib.hid (hA.at_ hb)
  clear hA
  have kb := Lib.hid (Bk.new w 29 #[.int .i64 fl, .int .i64 cu, .int .i64 ra, .slice A n c])
  by_cases h1 : cu = -1
  · have HN : Hid ((nextOf cu ra n on v) = leastTo on v n) := if_neg (fun h => h.1 h1)
    have e1 : (cu != -1) = false := by simp [h1]
    clear h1
    go_enter Try.func41, Try.ntmps41
    go_wp2_with (refine wpList_load_row rfl 29 _ rfl w.heap.size rfl 29 _ (0, 0) _ kb.out Try.underlying29 rfl (by kernel_rfl) ?_)
    refine (queueFirst_any fl cu ra A n c hn0 hn on v x s _ _ (Below.refl _ _) (HA.out.at_ (by go_grown))).mono ?_
    rintro e w1 ⟨rfl, hb1⟩
    go_wp2
    go_ret
    exact ⟨ret_intB HN.out.symm, bel (by go_grown) hb1⟩
  have e1 : (cu != -1) = true := by simp [h1]
  by_cases h2 : ra < 50
  · have HN : Hid ((nextOf cu ra n on v) = cu) := if_pos ⟨h1, h2⟩
    have e2 : decide (ra < 50) = true := by simp [h2]
    clear h1
    go_enter Try.func41, Try.ntmps41
    go_wp2
    go_ret
    exact ⟨ret_intB HN.out.symm, by go_grown⟩
  · have HN : Hid ((nextOf cu ra n on v) = leastTo on v n) := if_neg (fun h => h2 h.2)
    have e2 : decide (ra < 50) = false := by simp [h2]
    clear h1
    go_enter Try.func41, Try.ntmps41
    go_wp2_with (refine wpList_load_row rfl 29 _ rfl w.heap.size rfl 29 _ (0, 0) _ kb.out Try.underlying29 rfl (by kernel_rfl) ?_)
    refine (queueFirst_any fl cu ra A n c hn0 hn on v x s _ _ (Below.refl _ _) (HA.out.at_ (by go_grown))).mono ?_
    rintro e w1 ⟨rfl, hb1⟩
    go_wp2
    go_ret
    exact ⟨ret_intB HN.out.symm, bel (by go_grown) hb1⟩
set_option maxHeartbeats 400000 in
theorem iQueuePick_any (fl cu ra : Int) (A : Option Addr) (n c : Nat) (hn : (n : Int) ≤ 9223372036854775807) (on : Nat → Bool) (v x s : Nat → Int) (w W : World) (hb : Below W.heap.size W w)
    (hA : Rs W W.heap.size A n 4 (ent on v x s)) :
    Calls Try.prog 22 #[.agg #[.int .i64 fl, .int .i64 cu, .int .i64 ra, .slice A n c]] w fun e w' => e = .returned (.int .i64 (queuePick fl cu ra n on v x s)) ∧ Below W.heap.size W w' := by
  have hz := hb.size
  have HA := Lib.hid (hA.at_ hb)
  clear hA
  have HE : Hid (queuePick fl cu ra n on v x s = if queueOk fl cu ra n on v x s then nextOf cu ra n on v else -1) := rfl
  go_enter Try.func22, Try.ntmps22
  have kb := Bk.new w 29 #[.int .i64 fl, .int .i64 cu, .int .i64 ra, .slice A n c]
  go_wp2_with (refine wpList_load_row rfl 29 _ rfl w.heap.size rfl 29 _ (0, 0) _ kb Try.underlying29 rfl (by kernel_rfl) ?_)
  refine (iQueueOk_any fl cu ra A n c hn on v x s _ _ (Below.refl _ _) (HA.out.at_ (by go_grown))).mono ?_
  rintro e w1 ⟨rfl, hb1⟩
  have kb1 := kb.below hb1 (by simp)
  have hB1 : Below w.heap.size w w1 := ((Below.refl _ w).alloc (Nat.le_refl _) _).trans (hb1.mono (by simp))
  have hW1 : Below W.heap.size W w1 := bel hb hB1
  have KB := Lib.hid kb1
  clear hb1 kb kb1
  cases h0 : queueOk fl cu ra n on v x s
  · have HN : Hid (queuePick fl cu ra n on v x s = -1) := HE.out.trans (by rw [h0]; rfl)
    go_wp2
    go_ret
    exact ⟨ret_intB HN.out.symm, hW1⟩
  obtain ⟨a1, a2, a3, a4, a5, a6, a7⟩ := queueOk_facts h0
  have HN : Hid (queuePick fl cu ra n on v x s = (nextOf cu ra n on v)) := HE.out.trans (by rw [h0, if_pos rfl])
  go_wp2_with (refine wpList_load_row rfl 29 _ rfl w.heap.size rfl 29 _ (0, 0) _ KB.out Try.underlying29 rfl (by kernel_rfl) ?_)
  refine (queueNext_any fl cu ra A n c (by omega) (by omega) on v x s _ w1 (Below.refl _ _) (HA.out.at_ hB1)).mono ?_
  rintro e w2 ⟨rfl, hb2⟩
  go_wp2
  go_ret
  exact ⟨ret_intB HN.out.symm, bel hW1 hb2⟩
end Go.Proofs.Ytjdlfldeoinbiaa

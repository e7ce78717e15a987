/- Steps of weights: the array of steps, VirtualStep, VirtualUnits, LagMost, LagCut of impl and spec, each by one plain function. -/
import Derived.Test.YtjdlfldeoinbiaaS1Base
import Derived.Test.YtjdlfldeoinbiaaMem
import Derived.Laws.CopyOwn
namespace Go.Proofs.Ytjdlfldeoinbiaa
open Go.RowKit
def stepsArr : Array Value := #[.int .i64 0, .int .i64 232792560, .int .i64 116396280, .int .i64 77597520, .int .i64 58198140, .int .i64 46558512, .int .i64 38798760, .int .i64 33256080, .int .i64 29099070, .int .i64 25865840, .int .i64 23279256, .int .i64 21162960, .int .i64 19399380, .int .i64 17907120, .int .i64 16628040, .int .i64 15519504, .int .i64 14549535, .int .i64 13693680, .int .i64 12932920, .int .i64 12252240, .int .i64 11639628]
def arrAt (k : Nat) : Array Value := Array.ofFn fun i : Fin 21 => if 1 ≤ i.val ∧ i.val < k then .int .i64 (232792560 / (i.val : Int)) else .int .i64 0
theorem arrAt_size (k : Nat) : (arrAt k).size = 21 := by simp [arrAt]
theorem arrAt_get (k : Nat) (h : k < 21) : (arrAt k)[k]? = some (.int .i64 0) := by
  rw [Array.getElem?_eq_getElem (by rw [arrAt_size]; exact h)]; simp [arrAt]
theorem arrAt_set (k : Nat) (h1 : 1 ≤ k) (_h : k < 21) : (arrAt k).setIfInBounds k (.int .i64 (232792560 / (k : Int))) = arrAt (k + 1) := by
  apply Array.ext
  · simp [arrAt]
  · intro i hi hi2
    have hi3 : i < 21 := by simpa [arrAt] using hi2
    rw [Array.getElem_setIfInBounds (by simpa [arrAt] using hi3)]
    by_cases he : k = i
    · subst he; simp [arrAt, h1]
    · simp only [if_neg he, arrAt, Array.getElem_ofFn]
      by_cases h5 : 1 ≤ i ∧ i < k
      · rw [if_pos h5, if_pos ⟨h5.1, by omega⟩]
      · rw [if_neg h5, if_neg (by omega)]
theorem arrAt_last : arrAt 21 = stepsArr := by rfl
theorem arrAt_one : arrAt 1 = #[.int .i64 0, .int .i64 0, .int .i64 0, .int .i64 0, .int .i64 0, .int .i64 0, .int .i64 0, .int .i64 0, .int .i64 0, .int .i64 0, .int .i64 0, .int .i64 0, .int .i64 0, .int .i64 0, .int .i64 0, .int .i64 0, .int .i64 0, .int .i64 0, .int .i64 0, .int .i64 0, .int .i64 0] := by rfl
set_option maxHeartbeats 400000 in
theorem weightSteps_any (w W : World) (hb : Below W.heap.size W w) :
    Calls Try.prog 46 #[] w fun e w' => e = .returned (.agg stepsArr) ∧ Below W.heap.size W w' := by
  have hz := hb.size
  go_enter Try.func46, Try.ntmps46
  go_wp2
  go_loopw [2] (fun i wr => ∃ k : Nat, 1 ≤ k ∧ k ≤ 21 ∧ i = .int .i64 k ∧ Bk wr (w.heap.size + 1) 61 (arrAt k) ∧ Bk wr w.heap.size 61 (arrAt 1) ∧ Below W.heap.size W wr) (fun i _ => 21 - (intOf i).toNat)
  case atStart =>
    rw [arrAt_one]
    refine ⟨1, Nat.le_refl _, by omega, rfl, ?_, ?_, ?_⟩
    · have := Bk.new (w.alloc (.cells (arrAt 1) 61)) 61 (arrAt 1)
      rw [World.size_alloc] at this
      exact this
    · exact (Bk.new w 61 (arrAt 1)).alloc _
    · exact (hb.alloc hz _).alloc (by simp; omega) _
  case round =>
    obtain ⟨k, hk1, hk2, rfl, hB, hB0, hbr⟩ := hrel
    have hz2 := hbr.size
    by_cases hlt : k < 21
    · have hg := (hB.cell k).trans (arrAt_get k hlt)
      have hf := hB.free k
      have hB' := hB.put k (.int .i64 (232792560 / (k : Int)))
      rw [arrAt_set k hk1 hlt] at hB'
      have hB0' := hB0.off (p := ⟨w.heap.size + 1, k, none⟩) (by simp) (.int .i64 (232792560 / (k : Int)))
      have HB := Lib.hid hB
      have HB0 := Lib.hid hB0
      clear hB hB0
      go_wp2
      go_roundw
      case rel => exact ⟨k + 1, by omega, by omega, by go_num, hB', hB0', hbr.setCell (by simp; omega) _⟩
      case measure => simp [intOf]; omega
    · obtain rfl : k = 21 := by omega
      rw [arrAt_last] at hB
      have hB0s := arrAt_size 1
      go_wp2_with (first
        | refine wpList_load_row rfl 61 _ rfl (w.heap.size + 1) rfl 61 _ (0, 0) _ hB Try.underlying61 rfl (by kernel_rfl) ?_
        | refine wpList_store_row rfl 61 _ _ rfl w.heap.size stepsArr rfl rfl 61 _ hB0 (by kernel_rfl) hB0s (by kernel_rfl) ?_)
      refine bodyPost_ret (results_cell_row rfl _ _ w.heap.size 61 stepsArr (0, 0) _ rfl (setRow_heap _ _ _ _ _ _ hB0) Try.underlying61 rfl (by kernel_rfl)) rfl ⟨rfl, below_setRow hbr hz _⟩

theorem upto20 {x : Int} (h1 : 1 ≤ x) (h2 : x ≤ 20) : x = 1 ∨ x = 2 ∨ x = 3 ∨ x = 4 ∨ x = 5 ∨ x = 6 ∨ x = 7 ∨ x = 8 ∨ x = 9 ∨ x = 10 ∨ x = 11 ∨ x = 12 ∨ x = 13 ∨ x = 14 ∨ x = 15 ∨ x = 16 ∨ x = 17 ∨ x = 18 ∨ x = 19 ∨ x = 20 := by omega
theorem stepsArr_get (x : Int) (h1 : 1 ≤ x) (h2 : x ≤ 20) (w : World) : (Instr.index 61 (.agg stepsArr) (.int .i64 x)).run Try.prog w = .ok (.int .i64 (stepOf x)) w := by
  rcases upto20 h1 h2 with h | h | h | h | h | h | h | h | h | h | h | h | h | h | h | h | h | h | h | h <;> (rw [h]; clear h1 h2 h; show _ = _; kernel_rfl)
theorem stepOf_b (x : Int) (h1 : 1 ≤ x) (h2 : x ≤ 20) : 11639628 ≤ stepOf x ∧ stepOf x ≤ 232792560 := by
  rcases upto20 h1 h2 with h | h | h | h | h | h | h | h | h | h | h | h | h | h | h | h | h | h | h | h <;> (rw [h]; decide)
theorem stepOf_mul (u x : Int) (hu1 : 0 ≤ u) (hu2 : u ≤ 100000000) (h1 : 1 ≤ x) (h2 : x ≤ 20) : 0 ≤ u * stepOf x ∧ u * stepOf x ≤ 23279256000000000 := by
  obtain ⟨a, b⟩ := stepOf_b x h1 h2
  refine ⟨Int.mul_nonneg hu1 (by omega), ?_⟩
  calc u * stepOf x ≤ 100000000 * 232792560 := Int.mul_le_mul hu2 b (by omega) (by omega)
    _ = _ := by rfl

theorem iVirtualStep_any (a b : Int) (w W : World) (hb : Below W.heap.size W w) :
    Calls Try.prog 34 #[.int .i64 a, .int .i64 b] w fun e w' => e = .returned (.int .i64 (virtualStep a b)) ∧ Below W.heap.size W w' := by
  unfold virtualStep
  cases h1 : inR b 1 20 <;> cases h2 : inR a 0 100000000
  case true.true =>
    obtain ⟨g1, g2⟩ := inR_iff.1 h1
    obtain ⟨g3, g4⟩ := inR_iff.1 h2
    have hi := stepsArr_get b g1 g2
    obtain ⟨m1, m2⟩ := stepOf_mul a b g3 g4 g1 g2
    go_enter Try.func34, Try.ntmps34
    go_wp2_with (first | (go_at_call 29; refine (inRange_any _ _ _ _).mono ?_; rintro e w' ⟨rfl, rfl⟩) | (go_at_call 31; refine (weightOk_any _ _).mono ?_; rintro e w' ⟨rfl, rfl⟩) | (go_at_call 46; refine (weightSteps_any _ W hb).mono ?_; rintro e w1 ⟨rfl, hb1⟩))
    go_ret
    exact ⟨rfl, hb1⟩
  all_goals
    go_enter Try.func34, Try.ntmps34
    go_wp2_with (first | (go_at_call 29; refine (inRange_any _ _ _ _).mono ?_; rintro e w' ⟨rfl, rfl⟩) | (go_at_call 31; refine (weightOk_any _ _).mono ?_; rintro e w' ⟨rfl, rfl⟩))
    go_ret
    exact ⟨rfl, hb⟩
theorem sVirtualStep_any (a b : Int) (w : World) :
    Calls Try.prog 27 #[.int .i64 a, .int .i64 b] w fun e w' => e = .returned (.int .i64 (virtualStep a b)) ∧ w = w' := by
  unfold virtualStep
  cases h1 : inR b 1 20 <;> cases h2 : inR a 0 100000000
  case true.true =>
    obtain ⟨g1, g2⟩ := inR_iff.1 h1
    obtain ⟨g3, g4⟩ := inR_iff.1 h2
    obtain ⟨m1, m2⟩ := stepOf_mul a b g3 g4 g1 g2
    unfold stepOf at m1 m2 ⊢
    go_enter Try.func27, Try.ntmps27
    go_wp2_with (first | (go_at_call 24; refine (l1In_any _ _ _ _).mono ?_; rintro e w' ⟨rfl, rfl⟩) | (go_at_call 42; refine (l1Weight_any _ _).mono ?_; rintro e w' ⟨rfl, rfl⟩))
    go_ret
    exact ⟨rfl, rfl⟩
  all_goals
    go_enter Try.func27, Try.ntmps27
    go_wp2_with (first | (go_at_call 24; refine (l1In_any _ _ _ _).mono ?_; rintro e w' ⟨rfl, rfl⟩) | (go_at_call 42; refine (l1Weight_any _ _).mono ?_; rintro e w' ⟨rfl, rfl⟩))
    go_ret
    exact ⟨rfl, rfl⟩

theorem stepOf_up (v x : Int) (hv1 : 1 ≤ v) (hv2 : v ≤ 300000000000000000) (h1 : 1 ≤ x) (h2 : x ≤ 20) : 0 ≤ v + stepOf x - 1 ∧ v + stepOf x ≤ 400000000000000000 ∧ 0 ≤ v + stepOf x := by
  obtain ⟨a, b⟩ := stepOf_b x h1 h2
  omega
theorem iVirtualUnits_any (a b : Int) (w W : World) (hb : Below W.heap.size W w) :
    Calls Try.prog 37 #[.int .i64 a, .int .i64 b] w fun e w' => e = .returned (.int .i64 (virtualUnits a b)) ∧ Below W.heap.size W w' := by
  unfold virtualUnits
  cases h1 : inR b 1 20 <;> cases h2 : inR a 1 300000000000000000
  case true.true =>
    obtain ⟨g1, g2⟩ := inR_iff.1 h1
    obtain ⟨g3, g4⟩ := inR_iff.1 h2
    have hi := stepsArr_get b g1 g2
    obtain ⟨m1, m2, m3⟩ := stepOf_up a b g3 g4 g1 g2
    obtain ⟨m4, m5⟩ := stepOf_b b g1 g2
    go_enter Try.func37, Try.ntmps37
    go_wp2_with (first | (go_at_call 29; refine (inRange_any _ _ _ _).mono ?_; rintro e w' ⟨rfl, rfl⟩) | (go_at_call 31; refine (weightOk_any _ _).mono ?_; rintro e w' ⟨rfl, rfl⟩) | (go_at_call 46; refine (weightSteps_any _ W hb).mono ?_; rintro e w1 ⟨rfl, hb1⟩))
    go_ret
    exact ⟨rfl, hb1⟩
  all_goals
    go_enter Try.func37, Try.ntmps37
    go_wp2_with (first | (go_at_call 29; refine (inRange_any _ _ _ _).mono ?_; rintro e w' ⟨rfl, rfl⟩) | (go_at_call 31; refine (weightOk_any _ _).mono ?_; rintro e w' ⟨rfl, rfl⟩))
    go_ret
    exact ⟨rfl, hb⟩
theorem sVirtualUnits_any (a b : Int) (w : World) :
    Calls Try.prog 36 #[.int .i64 a, .int .i64 b] w fun e w' => e = .returned (.int .i64 (virtualUnits a b)) ∧ w = w' := by
  unfold virtualUnits
  cases h1 : inR b 1 20 <;> cases h2 : inR a 1 300000000000000000
  case true.true =>
    obtain ⟨g1, g2⟩ := inR_iff.1 h1
    obtain ⟨g3, g4⟩ := inR_iff.1 h2
    obtain ⟨m1, m2, m3⟩ := stepOf_up a b g3 g4 g1 g2
    obtain ⟨m4, m5⟩ := stepOf_b b g1 g2
    unfold stepOf at m1 m2 m3 m4 m5 ⊢
    go_enter Try.func36, Try.ntmps36
    go_wp2_with (first | (go_at_call 24; refine (l1In_any _ _ _ _).mono ?_; rintro e w' ⟨rfl, rfl⟩) | (go_at_call 42; refine (l1Weight_any _ _).mono ?_; rintro e w' ⟨rfl, rfl⟩))
    go_ret
    exact ⟨rfl, rfl⟩
  all_goals
    go_enter Try.func36, Try.ntmps36
    go_wp2_with (first | (go_at_call 24; refine (l1In_any _ _ _ _).mono ?_; rintro e w' ⟨rfl, rfl⟩) | (go_at_call 42; refine (l1Weight_any _ _).mono ?_; rintro e w' ⟨rfl, rfl⟩))
    go_ret
    exact ⟨rfl, rfl⟩
theorem iLagMost_any (a : Int) (w W : World) (hb : Below W.heap.size W w) :
    Calls Try.prog 45 #[.int .i64 a] w fun e w' => e = .returned (.int .i64 (lagMost a)) ∧ Below W.heap.size W w' := by
  go_enter Try.func45, Try.ntmps45
  go_wp2_with (go_at_call 34; refine (iVirtualStep_any _ _ _ W hb).mono ?_; rintro e w1 ⟨rfl, hb1⟩)
  go_ret
  exact ⟨rfl, hb1⟩
theorem sLagMost_any (a : Int) (w : World) :
    Calls Try.prog 43 #[.int .i64 a] w fun e w' => e = .returned (.int .i64 (lagMost a)) ∧ w = w' := by
  go_enter Try.func43, Try.ntmps43
  go_wp2_with (go_at_call 27; refine (sVirtualStep_any _ _ _).mono ?_; rintro e w' ⟨rfl, rfl⟩)
  go_ret
  exact ⟨rfl, rfl⟩
theorem lagMost_b (x : Int) : 0 ≤ lagMost x ∧ lagMost x ≤ 34686091440 := by
  unfold lagMost virtualStep
  cases h1 : inR x 1 20
  · simp
  · obtain ⟨g1, g2⟩ := inR_iff.1 h1
    rcases upto20 g1 g2 with h | h | h | h | h | h | h | h | h | h | h | h | h | h | h | h | h | h | h | h <;> (rw [h]; decide)
theorem ret_int {k : IntKind} {a b : Int} (h : a = b) : Ending.returned (.int k a) = .returned (.int k b) := by rw [h]
theorem lagCut_eq (a b : Int) : lagCut a b = max 0 (min a (lagMost b)) := by
  have := lagMost_b b
  unfold lagCut
  cases h1 : inR b 1 20
  · have : lagMost b = 0 := by simp [lagMost, virtualStep, h1]
    simp; omega
  · simp; omega
end Go.Proofs.Ytjdlfldeoinbiaa

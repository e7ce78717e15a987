/- Steps of weights: the array of steps, VirtualStep, VirtualUnits, LagMost, LagCut of impl and spec, each by one plain function. -/
import Derived.Test.YtndbmeedimhohaaGreatFCA
import Derived.Laws.CopyOwn
namespace Go.Proofs.YtndbmeedimhohaaGreat
open Go.RowKit
def stepsArr : Array Value := #[.int .i64 0, .int .i64 232792560, .int .i64 116396280, .int .i64 77597520, .int .i64 58198140, .int .i64 46558512, .int .i64 38798760, .int .i64 33256080, .int .i64 29099070, .int .i64 25865840, .int .i64 23279256, .int .i64 21162960, .int .i64 19399380, .int .i64 17907120, .int .i64 16628040, .int .i64 15519504, .int .i64 14549535, .int .i64 13693680, .int .i64 12932920, .int .i64 12252240, .int .i64 11639628]
def arrAt (k : Nat) : Array Value := Array.ofFn fun i : Fin 21 => if 1 ≤ i.val ∧ i.val < k then .int .i64 (232792560 / (i.val : Int)) else .int .i64 0
theorem arrAt_size (k : Nat) : (arrAt k).size = 21 := by simp [arrAt]
theorem arrAt_get (k : Nat) (h : k < 21) : (arrAt k)[k]? = some (.int .i64 0) := by
  rw [Array.getElem?_eq_getElem (by rw [arrAt_size]; exact h)]; simp [arrAt]
theorem arrAt_set (k : Nat) (h1 : 1 ≤ k) (_h : k < 21) : (arrAt k).setIfInBounds k (.int .i64 (232792560 / (k : Int))) = arrAt (k + 1) := by
  apply Array.ext
  · simp [arrAt]
  · intro i hi hi2
    have hi3 : i < 21 := by simpa [arrAt] using hi2
    rw [Array.getElem_setIfInBounds (by simpa [arrAt] using hi3)]
    by_cases he : k = i
    · subst he; simp [arrAt, h1]
    · simp only [if_neg he, arrAt, Array.getElem_ofFn]
      by_cases h5 : 1 ≤ i ∧ i < k
      · rw [if_pos h5, if_pos ⟨h5.1, by omega⟩]
      · rw [if_neg h5, if_neg (by omega)]
theorem arrAt_last : arrAt 21 = stepsArr := by rfl
theorem arrAt_one : arrAt 1 = #[.int .i64 0, .int .i64 0, .int .i64 0, .int .i64 0, .int .i64 0, .int .i64 0, .int .i64 0, .int .i64 0, .int .i64 0, .int .i64 0, .int .i64 0, .int .i64 0, .int .i64 0, .int .i64 0, .int .i64 0, .int .i64 0, .int .i64 0, .int .i64 0, .int .i64 0, .int .i64 0, .int .i64 0] := by rfl
set_option maxHeartbeats 400000 in
theorem weightSteps_any (w W : World) (hb : Below W.heap.size W w) :
    Calls Tryz.prog 115 #[] w fun e w' => e = .returned (.agg stepsArr) ∧ Below W.heap.size W w' := by
  have hz := hb.size
  go_enter Tryz.func115, Tryz.ntmps115
  go_wp2
  go_loopw [2] (fun i wr => ∃ k : Nat, 1 ≤ k ∧ k ≤ 21 ∧ i = .int .i64 k ∧ Bk wr (w.heap.size + 1) 112 (arrAt k) ∧ Bk wr w.heap.size 112 (arrAt 1) ∧ Below W.heap.size W wr) (fun i _ => 21 - (intOf i).toNat)
  case atStart =>
    rw [arrAt_one]
    refine ⟨1, Nat.le_refl _, by omega, rfl, ?_, ?_, ?_⟩
    · have := Bk.new (w.alloc (.cells (arrAt 1) 112)) 112 (arrAt 1)
      rw [World.size_alloc] at this
      exact this
    · exact (Bk.new w 112 (arrAt 1)).alloc _
    · exact (hb.alloc hz _).alloc (by simp; omega) _
  case round =>
    obtain ⟨k, hk1, hk2, rfl, hB, hB0, hbr⟩ := hrel
    have hz2 := hbr.size
    by_cases hlt : k < 21
    · have hg := (hB.cell k).trans (arrAt_get k hlt)
      have hf := hB.free k
      have hB' := hB.put k (.int .i64 (232792560 / (k : Int)))
      rw [arrAt_set k hk1 hlt] at hB'
      have hB0' := hB0.off (p := ⟨w.heap.size + 1, k, none⟩) (by simp) (.int .i64 (232792560 / (k : Int)))
      have HB := Lib.hid hB
      have HB0 := Lib.hid hB0
      clear hB hB0
      go_wp2
      go_roundw
      case rel => exact ⟨k + 1, by omega, by omega, by go_num, hB', hB0', hbr.setCell (by simp; omega) _⟩
      case measure => simp [intOf]; omega
    · obtain rfl : k = 21 := by omega
      rw [arrAt_last] at hB
      have hB0s := arrAt_size 1
      go_wp2_with (first
        | refine wpList_load_row rfl 112 _ rfl (w.heap.size + 1) rfl 112 _ (0, 0) _ hB Tryz.underlying112 rfl (by kernel_rfl) ?_
        | refine wpList_store_row rfl 112 _ _ rfl w.heap.size stepsArr rfl rfl 112 _ hB0 (by kernel_rfl) hB0s (by kernel_rfl) ?_)
      refine bodyPost_ret (results_cell_row rfl _ _ w.heap.size 112 stepsArr (0, 0) _ rfl (setRow_heap _ _ _ _ _ _ hB0) Tryz.underlying112 rfl (by kernel_rfl)) rfl ⟨rfl, below_setRow hbr hz _⟩

theorem upto20 {x : Int} (h1 : 1 ≤ x) (h2 : x ≤ 20) : x = 1 ∨ x = 2 ∨ x = 3 ∨ x = 4 ∨ x = 5 ∨ x = 6 ∨ x = 7 ∨ x = 8 ∨ x = 9 ∨ x = 10 ∨ x = 11 ∨ x = 12 ∨ x = 13 ∨ x = 14 ∨ x = 15 ∨ x = 16 ∨ x = 17 ∨ x = 18 ∨ x = 19 ∨ x = 20 := by omega
theorem stepsArr_get (x : Int) (h1 : 1 ≤ x) (h2 : x ≤ 20) (w : World) : (Instr.index 112 (.agg stepsArr) (.int .i64 x)).run Tryz.prog w = .ok (.int .i64 (stepOf x)) w := by
  rcases upto20 h1 h2 with h | h | h | h | h | h | h | h | h | h | h | h | h | h | h | h | h | h | h | h <;> (rw [h]; clear h1 h2 h; show _ = _; kernel_rfl)
theorem stepOf_b (x : Int) (h1 : 1 ≤ x) (h2 : x ≤ 20) : 11639628 ≤ stepOf x ∧ stepOf x ≤ 232792560 := by
  rcases upto20 h1 h2 with h | h | h | h | h | h | h | h | h | h | h | h | h | h | h | h | h | h | h | h <;> (rw [h]; decide)
theorem stepOf_mul (u x : Int) (hu1 : 0 ≤ u) (hu2 : u ≤ 100000000) (h1 : 1 ≤ x) (h2 : x ≤ 20) : 0 ≤ u * stepOf x ∧ u * stepOf x ≤ 23279256000000000 := by
  obtain ⟨a, b⟩ := stepOf_b x h1 h2
  refine ⟨Int.mul_nonneg hu1 (by omega), ?_⟩
  calc u * stepOf x ≤ 100000000 * 232792560 := Int.mul_le_mul hu2 b (by omega) (by omega)
    _ = _ := by rfl

theorem iVirtualStep_any (a b : Int) (w W : World) (hb : Below W.heap.size W w) :
    Calls Tryz.prog 95 #[.int .i64 a, .int .i64 b] w fun e w' => e = .returned (.int .i64 (virtualStep a b)) ∧ Below W.heap.size W w' := by
  unfold virtualStep
  cases h1 : inR b 1 20 <;> cases h2 : inR a 0 100000000
  case true.true =>
    obtain ⟨g1, g2⟩ := inR_iff.1 h1
    obtain ⟨g3, g4⟩ := inR_iff.1 h2
    have hi := stepsArr_get b g1 g2
    obtain ⟨m1, m2⟩ := stepOf_mul a b g3 g4 g1 g2
    go_enter Tryz.func95, Tryz.ntmps95
    go_wp2_with (first | (go_at_call 61; refine (inRange_any _ _ _ _).mono ?_; rintro e w' ⟨rfl, rfl⟩) | (go_at_call 86; refine (weightOk_any _ _).mono ?_; rintro e w' ⟨rfl, rfl⟩) | (go_at_call 115; refine (weightSteps_any _ W hb).mono ?_; rintro e w1 ⟨rfl, hb1⟩))
    go_ret
    exact ⟨rfl, hb1⟩
  all_goals
    go_enter Tryz.func95, Tryz.ntmps95
    go_wp2_with (first | (go_at_call 61; refine (inRange_any _ _ _ _).mono ?_; rintro e w' ⟨rfl, rfl⟩) | (go_at_call 86; refine (weightOk_any _ _).mono ?_; rintro e w' ⟨rfl, rfl⟩))
    go_ret
    exact ⟨rfl, hb⟩
theorem sVirtualStep_any (a b : Int) (w : World) :
    Calls Tryz.prog 106 #[.int .i64 a, .int .i64 b] w fun e w' => e = .returned (.int .i64 (virtualStep a b)) ∧ w = w' := by
  unfold virtualStep
  cases h1 : inR b 1 20 <;> cases h2 : inR a 0 100000000
  case true.true =>
    obtain ⟨g1, g2⟩ := inR_iff.1 h1
    obtain ⟨g3, g4⟩ := inR_iff.1 h2
    obtain ⟨m1, m2⟩ := stepOf_mul a b g3 g4 g1 g2
    unfold stepOf at m1 m2 ⊢
    go_enter Tryz.func106, Tryz.ntmps106
    go_wp2_with (first | (go_at_call 39; refine (l1In_any _ _ _ _).mono ?_; rintro e w' ⟨rfl, rfl⟩) | (go_at_call 73; refine (l1Weight_any _ _).mono ?_; rintro e w' ⟨rfl, rfl⟩))
    go_ret
    exact ⟨rfl, rfl⟩
  all_goals
    go_enter Tryz.func106, Tryz.ntmps106
    go_wp2_with (first | (go_at_call 39; refine (l1In_any _ _ _ _).mono ?_; rintro e w' ⟨rfl, rfl⟩) | (go_at_call 73; refine (l1Weight_any _ _).mono ?_; rintro e w' ⟨rfl, rfl⟩))
    go_ret
    exact ⟨rfl, rfl⟩

theorem stepOf_up (v x : Int) (hv1 : 1 ≤ v) (hv2 : v ≤ 300000000000000000) (h1 : 1 ≤ x) (h2 : x ≤ 20) : 0 ≤ v + stepOf x - 1 ∧ v + stepOf x ≤ 400000000000000000 ∧ 0 ≤ v + stepOf x := by
  obtain ⟨a, b⟩ := stepOf_b x h1 h2
  omega
theorem iLagMost_any (a : Int) (w W : World) (hb : Below W.heap.size W w) :
    Calls Tryz.prog 112 #[.int .i64 a] w fun e w' => e = .returned (.int .i64 (lagMost a)) ∧ Below W.heap.size W w' := by
  go_enter Tryz.func112, Tryz.ntmps112
  go_wp2_with (go_at_call 95; refine (iVirtualStep_any _ _ _ W hb).mono ?_; rintro e w1 ⟨rfl, hb1⟩)
  go_ret
  exact ⟨rfl, hb1⟩
theorem sLagMost_any (a : Int) (w : World) :
    Calls Tryz.prog 105 #[.int .i64 a] w fun e w' => e = .returned (.int .i64 (lagMost a)) ∧ w = w' := by
  go_enter Tryz.func105, Tryz.ntmps105
  go_wp2_with (go_at_call 106; refine (sVirtualStep_any _ _ _).mono ?_; rintro e w' ⟨rfl, rfl⟩)
  go_ret
  exact ⟨rfl, rfl⟩
theorem lagMost_b (x : Int) : 0 ≤ lagMost x ∧ lagMost x ≤ 34686091440 := by
  unfold lagMost virtualStep
  cases h1 : inR x 1 20
  · simp
  · obtain ⟨g1, g2⟩ := inR_iff.1 h1
    rcases upto20 g1 g2 with h | h | h | h | h | h | h | h | h | h | h | h | h | h | h | h | h | h | h | h <;> (rw [h]; decide)
theorem ret_int {k : IntKind} {a b : Int} (h : a = b) : Ending.returned (.int k a) = .returned (.int k b) := by rw [h]
theorem lagCut_eq (a b : Int) : lagCut a b = max 0 (min a (lagMost b)) := by
  have := lagMost_b b
  unfold lagCut
  cases h1 : inR b 1 20
  · have : lagMost b = 0 := by simp [lagMost, virtualStep, h1]
    simp; omega
  · simp; omega
end Go.Proofs.YtndbmeedimhohaaGreat
namespace Go.Proofs.YtndbmeedimhohaaGreat
open Go.RowKit
theorem ret_bool {a b : Bool} (h : a = b) : Ending.returned (.bool a) = .returned (.bool b) := by rw [h]
theorem ret_int3 {k : IntKind} {a b : Int} (h : a = b) : Ending.returned (.int k a) = .returned (.int k b) := by rw [h]
theorem maskHas_and (m c : Int) (h1 : inR m 0 15 = true) (h2 : inR c 0 3 = true) : (bits .and .i64 (m / 2 ^ c.toNat) 1 == 1) = maskHas m c := by
  rw [maskHas_eq m c h1 h2]
  obtain ⟨g1, g2⟩ := inR_iff.1 h1
  obtain ⟨g3, g4⟩ := inR_iff.1 h2
  rcases upto15 g1 g2 with h | h | h | h | h | h | h | h | h | h | h | h | h | h | h | h <;> subst h <;> rcases upto3 g3 g4 with h | h | h | h <;> subst h <;> rfl
theorem cpuSetHas_any (a b : Int) (w : World) :
    Calls Tryz.prog 111 #[.int .i64 a, .int .i64 b] w fun e w' => e = .returned (.bool (maskHas a b)) ∧ w = w' := by
  cases h1 : inR a 0 15 <;> cases h2 : inR b 0 3
  case true.true =>
    have hm := Lib.hid (maskHas_and a b h1 h2)
    obtain ⟨g1, g2⟩ := inR_iff.1 h1
    obtain ⟨g3, g4⟩ := inR_iff.1 h2
    go_enter Tryz.func111, Tryz.ntmps111
    go_wp2_with (first | (go_at_call 126; refine (cpuSetOk_any _ _).mono ?_; rintro e w' ⟨rfl, rfl⟩) | (go_at_call 61; refine (inRange_any _ _ _ _).mono ?_; rintro e w' ⟨rfl, rfl⟩))
    go_ret
    exact ⟨ret_bool hm.out, rfl⟩
  all_goals
    first | rw [maskHas_no _ _ h1] | rw [maskHas_no2 _ _ h2]
    go_enter Tryz.func111, Tryz.ntmps111
    go_wp2_with (first | (go_at_call 126; refine (cpuSetOk_any _ _).mono ?_; rintro e w' ⟨rfl, rfl⟩) | (go_at_call 61; refine (inRange_any _ _ _ _).mono ?_; rintro e w' ⟨rfl, rfl⟩))
    go_ret
    exact ⟨rfl, rfl⟩
theorem iMaskHas_any (a b : Int) (w : World) :
    Calls Tryz.prog 91 #[.int .i64 a, .int .i64 b] w fun e w' => e = .returned (.bool (maskHas a b)) ∧ w = w' := by
  go_enter Tryz.func91, Tryz.ntmps91
  go_wp2_with (go_at_call 111; refine (cpuSetHas_any _ _ _).mono ?_; rintro e w' ⟨rfl, rfl⟩)
  go_ret
  exact ⟨rfl, rfl⟩
theorem sMaskHas_any (a b : Int) (w : World) :
    Calls Tryz.prog 78 #[.int .i64 a, .int .i64 b] w fun e w' => e = .returned (.bool (maskHas a b)) ∧ w = w' := by
  cases h1 : inR a 0 15 <;> cases h2 : inR b 0 3
  case true.true =>
    have hm := Lib.hid (maskHas_tmod a b h1 h2)
    obtain ⟨g1, g2⟩ := inR_iff.1 h1
    obtain ⟨g3, g4⟩ := inR_iff.1 h2
    go_enter Tryz.func78, Tryz.ntmps78
    go_wp2_with (first | (go_at_call 74; refine (sMaskOk_any _ _).mono ?_; rintro e w' ⟨rfl, rfl⟩) | (go_at_call 39; refine (l1In_any _ _ _ _).mono ?_; rintro e w' ⟨rfl, rfl⟩))
    go_ret
    exact ⟨ret_bool hm.out, rfl⟩
  all_goals
    first | rw [maskHas_no _ _ h1] | rw [maskHas_no2 _ _ h2]
    go_enter Tryz.func78, Tryz.ntmps78
    go_wp2_with (first | (go_at_call 74; refine (sMaskOk_any _ _).mono ?_; rintro e w' ⟨rfl, rfl⟩) | (go_at_call 39; refine (l1In_any _ _ _ _).mono ?_; rintro e w' ⟨rfl, rfl⟩))
    go_ret
    exact ⟨rfl, rfl⟩
theorem maskAnd_bits (a b : Int) (h1 : inR a 0 15 = true) (h2 : inR b 0 15 = true) : bits .and .i64 a b = maskAnd a b := by
  have : maskAnd a b = andUp a b 4 := by simp [maskAnd, h1, h2]
  rw [this]
  obtain ⟨g1, g2⟩ := inR_iff.1 h1
  obtain ⟨g3, g4⟩ := inR_iff.1 h2
  rcases upto15 g1 g2 with h | h | h | h | h | h | h | h | h | h | h | h | h | h | h | h <;> subst h <;> rcases upto15 g3 g4 with h | h | h | h | h | h | h | h | h | h | h | h | h | h | h | h <;> subst h <;> rfl
theorem maskAnd_no (a b : Int) (h : (inR a 0 15 && inR b 0 15) = false) : maskAnd a b = 0 := by simp [maskAnd, h]
theorem iMaskAnd_any (a b : Int) (w : World) :
    Calls Tryz.prog 103 #[.int .i64 a, .int .i64 b] w fun e w' => e = .returned (.int .i64 (maskAnd a b)) ∧ w = w' := by
  cases h1 : inR a 0 15 <;> cases h2 : inR b 0 15
  case true.true =>
    have hm := Lib.hid (maskAnd_bits a b h1 h2)
    go_enter Tryz.func103, Tryz.ntmps103
    go_wp2_with (go_at_call 109; refine (iMaskOk_any _ _).mono ?_; rintro e w' ⟨rfl, rfl⟩)
    go_ret
    exact ⟨ret_int3 hm.out, rfl⟩
  all_goals
    rw [maskAnd_no a b (by simp [h1, h2])]
    go_enter Tryz.func103, Tryz.ntmps103
    go_wp2_with (go_at_call 109; refine (iMaskOk_any _ _).mono ?_; rintro e w' ⟨rfl, rfl⟩)
    go_ret
    exact ⟨rfl, rfl⟩
theorem sMaskAnd_any (a b : Int) (w : World) :
    Calls Tryz.prog 66 #[.int .i64 a, .int .i64 b] w fun e w' => e = .returned (.int .i64 (maskAnd a b)) ∧ w = w' := by
  cases h1 : inR a 0 15 <;> cases h2 : inR b 0 15
  case true.true =>
    have hm : maskAnd a b = andUp a b 4 := by simp [maskAnd, h1, h2]
    rw [hm]
    clear hm
    go_enter Tryz.func66, Tryz.ntmps66
    go_wp2_with (go_at_call 74; refine (sMaskOk_any _ _).mono ?_; rintro e w' ⟨rfl, rfl⟩)
    go_loop [5, 6] (fun m c => ∃ k : Int, 0 ≤ k ∧ k ≤ 4 ∧ c = .int .i64 k ∧ m = .int .i64 (andI a b k)) (fun _ c => (4 - intOf c).toNat)
    case atStart => exact ⟨0, by omega, by omega, rfl, rfl⟩
    case round =>
      obtain ⟨k, hk0, hk, rfl, rfl⟩ := hrel
      obtain ⟨u1, u2⟩ := andI_b a b k hk0 hk
      by_cases hlt : k < 4
      · have hs := andI_succ a b k hk0
        have hk4 : k = 0 ∨ k = 1 ∨ k = 2 ∨ k = 3 := by omega
        cases h3 : maskHas a k <;> cases h4 : maskHas b k <;> rw [h3, h4] at hs <;> rcases hk4 with h | h | h | h <;> subst h
        all_goals
          have HS := Lib.hid hs
          clear hs
          go_wp2_with (go_at_call 78; refine (sMaskHas_any _ _ _).mono ?_; rintro e w' ⟨rfl, rfl⟩)
          go_round
          case rel => exact ⟨_, by omega, by omega, rfl, by have := HS.out; simp [bitIf] at this ⊢; omega⟩
          case measure => simp [intOf]
      · obtain rfl : k = 4 := by omega
        go_wp2
        go_ret
        exact ⟨rfl, rfl⟩
  all_goals
    rw [maskAnd_no a b (by simp [h1, h2])]
    go_enter Tryz.func66, Tryz.ntmps66
    go_wp2_with (go_at_call 74; refine (sMaskOk_any _ _).mono ?_; rintro e w' ⟨rfl, rfl⟩)
    go_ret
    exact ⟨rfl, rfl⟩
end Go.Proofs.YtndbmeedimhohaaGreat
namespace Go.Proofs.YtndbmeedimhohaaGreat
def allTo (f : Nat → Bool) : Nat → Bool
  | 0 => true
  | k + 1 => allTo f k && f k
def sumTo (f : Nat → Int) : Nat → Int
  | 0 => 0
  | k + 1 => sumTo f k + f k
theorem allTo_false (f : Nat → Bool) (k n : Nat) (h : k < n) (hf : f k = false) : allTo f n = false := by
  induction n with
  | zero => omega
  | succ n ih =>
    simp only [allTo]
    by_cases e : k = n
    · subst e; simp [hf]
    · rw [ih (by omega)]; rfl
theorem allTo_at (f : Nat → Bool) (k n : Nat) (h : k < n) (hf : allTo f n = true) : f k = true := by
  cases e : f k
  · rw [allTo_false f k n h e] at hf; exact hf
  · rfl
theorem sumTo_b (f : Nat → Int) (q : Int) (k : Nat) (h : ∀ i, i < k → 0 ≤ f i ∧ f i ≤ q) : 0 ≤ sumTo f k ∧ sumTo f k ≤ k * q := by
  induction k with
  | zero => simp [sumTo]
  | succ k ih =>
    have h1 := ih (fun i hi => h i (by omega))
    have h2 := h k (by omega)
    simp only [sumTo]
    have : ((k + 1 : Nat) : Int) * q = k * q + q := by rw [Int.natCast_add, Int.add_mul]; simp
    omega
def locOk (q p : Int) (f : Nat → Int) (f' : Nat → Bool) (i : Nat) : Bool := inR (f i) 0 q && !(f' i && (decide (f i ≠ 0) || decide (p ≠ 0)))
def bandOk (q p s : Int) (n m : Nat) (f : Nat → Int) (f' : Nat → Bool) : Bool :=
  inR q 1 10000 && inR n 1 4 && decide (m = n) && inR p 0 q && inR s 0 q && allTo (locOk q p f f') n && (p + s + sumTo f n == q)
theorem bandOk_head (q p s : Int) (n m : Nat) (f : Nat → Int) (f' : Nat → Bool) (h : (inR q 1 10000 && inR n 1 4 && decide (m = n) && inR p 0 q && inR s 0 q) = false) : bandOk q p s n m f f' = false := by
  simp only [bandOk, h, Bool.false_and]
theorem bandOk_loc (q p s : Int) (n m : Nat) (f : Nat → Int) (f' : Nat → Bool) (k : Nat) (hk : k < n) (h : locOk q p f f' k = false) : bandOk q p s n m f f' = false := by
  simp only [bandOk, allTo_false _ k n hk h, Bool.and_false, Bool.false_and]
theorem bandOk_end (q p s : Int) (n m : Nat) (f : Nat → Int) (f' : Nat → Bool) (h : (inR q 1 10000 && inR n 1 4 && decide (m = n) && inR p 0 q && inR s 0 q) = true) (ha : allTo (locOk q p f f') n = true) : bandOk q p s n m f f' = (p + s + sumTo f n == q) := by
  simp only [bandOk, h, ha, Bool.true_and]
theorem locOk_f1 (q p : Int) (f : Nat → Int) (f' : Nat → Bool) (k : Nat) (h : inR (f k) 0 q = false) : locOk q p f f' k = false := by simp [locOk, h]
theorem locOk_f2 (q p : Int) (f : Nat → Int) (f' : Nat → Bool) (k : Nat) (h : f' k = true) (h2 : f k ≠ 0 ∨ p ≠ 0) : locOk q p f f' k = false := by
  have : (decide (f k ≠ 0) || decide (p ≠ 0)) = true := by simpa using h2
  simp only [locOk, h, this, Bool.true_and, Bool.not_true, Bool.and_false]
theorem locOk_t1 (q p : Int) (f : Nat → Int) (f' : Nat → Bool) (k : Nat) (h : inR (f k) 0 q = true) (h2 : f' k = false) : locOk q p f f' k = true := by simp [locOk, h, h2]
theorem locOk_t2 (q p : Int) (f : Nat → Int) (f' : Nat → Bool) (k : Nat) (h : inR (f k) 0 q = true) (h2 : f k = 0) (h3 : p = 0) : locOk q p f f' k = true := by
  unfold locOk
  rw [h]
  simp [h2, h3]
theorem locOk_in (q p : Int) (f : Nat → Int) (f' : Nat → Bool) (k : Nat) (h : locOk q p f f' k = true) : 0 ≤ f k ∧ f k ≤ q := by
  apply inR_iff.1
  cases e : inR (f k) 0 q
  · rw [locOk_f1 q p f f' k e] at h; exact absurd h (by decide)
  · rfl
theorem sum_ok (q p : Int) (f : Nat → Int) (f' : Nat → Bool) (k : Nat) (h : allTo (locOk q p f f') k = true) (hk : k ≤ 4) (hq0 : 0 ≤ q) (hq : q ≤ 10000) : 0 ≤ sumTo f k ∧ sumTo f k ≤ 40000 := by
  have := sumTo_b f q k (fun i hi => locOk_in q p f f' i (allTo_at _ i k hi h))
  have h2 : (k : Int) * q ≤ 4 * 10000 := Int.mul_le_mul (by omega) hq hq0 (by omega)
  omega
theorem allTo_next (f : Nat → Bool) (k : Nat) (h : allTo f k = true) (h2 : f k = true) : allTo f (k + 1) = true := by simp [allTo, h, h2]
theorem bandOk_facts (q p s : Int) (n m : Nat) (f : Nat → Int) (f' : Nat → Bool) (h : bandOk q p s n m f f' = true) :
    1 ≤ q ∧ q ≤ 10000 ∧ 1 ≤ (n : Int) ∧ (n : Int) ≤ 4 ∧ m = n ∧ 0 ≤ p ∧ p ≤ q ∧ 0 ≤ s ∧ s ≤ q ∧ (∀ i, i < n → 0 ≤ f i ∧ f i ≤ q ∧ (f' i = true → f i = 0 ∧ p = 0)) ∧ p + s + sumTo f n = q := by
  simp only [bandOk, Bool.and_eq_true, decide_eq_true_eq, beq_iff_eq] at h
  obtain ⟨⟨⟨⟨⟨⟨h1, h2⟩, h3⟩, h4⟩, h5⟩, h6⟩, h7⟩ := h
  obtain ⟨a1, a2⟩ := inR_iff.1 h1
  obtain ⟨a3, a4⟩ := inR_iff.1 h2
  obtain ⟨a5, a6⟩ := inR_iff.1 h4
  obtain ⟨a7, a8⟩ := inR_iff.1 h5
  refine ⟨a1, a2, a3, a4, h3, a5, a6, a7, a8, fun i hi => ?_, h7⟩
  have hl := allTo_at _ i n hi h6
  obtain ⟨b1, b2⟩ := locOk_in q p f f' i hl
  refine ⟨b1, b2, fun ht => ?_⟩
  by_cases e : f i = 0 ∧ p = 0
  · exact e
  · rw [locOk_f2 q p f f' i ht (by omega)] at hl
    exact absurd hl (by decide)
def bandFree (q p s : Int) (n m : Nat) (f : Nat → Int) (f' : Nat → Bool) (cpu : Int) : Int := if bandOk q p s n m f f' && inR cpu 0 ((n : Int) - 1) then p + f cpu.toNat else 0
end Go.Proofs.YtndbmeedimhohaaGreat
namespace Go.Proofs.YtndbmeedimhohaaGreat
def timeB (a : Int) : Bool := inR a 0 100000000000000000
theorem timeB_t {a : Int} (h : timeB a = true) : 0 ≤ a ∧ a ≤ 100000000000000000 := inR_iff.1 h
def time2 (a b : Int) : Bool := timeB a && timeB b
theorem time2_t {a b : Int} (h : time2 a b = true) : 0 ≤ a ∧ a ≤ 100000000000000000 ∧ 0 ≤ b ∧ b ≤ 100000000000000000 := by
  unfold time2 at h
  rw [Bool.and_eq_true] at h
  have h1 := timeB_t h.1
  have h2 := timeB_t h.2
  omega
def placedB (v fl x : Int) : Bool := decide (fl ≤ v) && decide (v - fl ≤ lagMost x)
theorem placedB_f1 {v fl x : Int} (h : ¬ fl ≤ v) : placedB v fl x = false := by simp [placedB, h]
theorem placedB_f2 {v fl x : Int} (h : ¬ v - fl ≤ lagMost x) : placedB v fl x = false := by simp [placedB, h]
theorem placedB_t {v fl x : Int} (h1 : fl ≤ v) (h : v - fl ≤ lagMost x) : placedB v fl x = true := by simp [placedB, h, h1]
theorem placedB_e {v fl x : Int} (h1 : fl ≤ v) : placedB v fl x = decide (v - fl ≤ lagMost x) := by simp [placedB, h1]
def entB (fl : Int) (b : Bool) (v x s : Int) : Bool := inR x 1 20 && time2 v s && (!b || placedB v fl x)
def entOk (fl : Int) (on : Nat → Bool) (v x s : Nat → Int) (i : Nat) : Bool := entB fl (on i) (v i) (x i) (s i)
theorem entB_f1 {fl : Int} {b : Bool} {v x s : Int} (h : inR x 1 20 = false) : entB fl b v x s = false := by simp [entB, h]
theorem entB_f2 {fl : Int} {b : Bool} {v x s : Int} (h : time2 v s = false) : entB fl b v x s = false := by simp [entB, h]
theorem entB_f3 {fl : Int} {b : Bool} {v x s : Int} (h : b = true) (h2 : placedB v fl x = false) : entB fl b v x s = false := by simp [entB, h, h2]
theorem entB_t1 {fl : Int} {b : Bool} {v x s : Int} (h1 : inR x 1 20 = true) (h2 : time2 v s = true) (h : b = false) : entB fl b v x s = true := by simp [entB, h1, h2, h]
theorem entB_t2 {fl : Int} {b : Bool} {v x s : Int} (h1 : inR x 1 20 = true) (h2 : time2 v s = true) (h : placedB v fl x = true) : entB fl b v x s = true := by simp [entB, h1, h2, h]
def curB (fl cu ra : Int) (on : Nat → Bool) (v x : Nat → Int) : Bool := on cu.toNat && inR ra 1 149 && decide (v cu.toNat - fl ≤ virtualStep ra (x cu.toNat))
def curOk (fl cu ra : Int) (on : Nat → Bool) (v x : Nat → Int) : Bool := if cu = -1 then ra == 0 else curB fl cu ra on v x
def queueOk (fl cu ra : Int) (n : Nat) (on : Nat → Bool) (v x s : Nat → Int) : Bool :=
  inR n 1 20 && timeB fl && inR cu (-1) ((n : Int) - 1) && allTo (entOk fl on v x s) n && curOk fl cu ra on v x
theorem queueOk_head {fl cu ra : Int} {n : Nat} {on : Nat → Bool} {v x s : Nat → Int} (h : (inR n 1 20 && timeB fl && inR cu (-1) ((n : Int) - 1)) = false) : queueOk fl cu ra n on v x s = false := by
  simp only [queueOk, h, Bool.false_and]
theorem queueOk_ent {fl cu ra : Int} {n : Nat} {on : Nat → Bool} {v x s : Nat → Int} (k : Nat) (hk : k < n) (h : entOk fl on v x s k = false) : queueOk fl cu ra n on v x s = false := by
  simp only [queueOk, allTo_false _ k n hk h, Bool.and_false, Bool.false_and]
theorem queueOk_cu {fl cu ra : Int} {n : Nat} {on : Nat → Bool} {v x s : Nat → Int} (h : inR cu (-1) ((n : Int) - 1) = false) : queueOk fl cu ra n on v x s = false := by
  simp only [queueOk, h, Bool.and_false, Bool.false_and]
theorem queueOk_end {fl cu ra : Int} {n : Nat} {on : Nat → Bool} {v x s : Nat → Int} (h1 : inR n 1 20 = true) (h2 : timeB fl = true) (h3 : inR cu (-1) ((n : Int) - 1) = true) (ha : allTo (entOk fl on v x s) n = true) : queueOk fl cu ra n on v x s = curOk fl cu ra on v x := by
  simp only [queueOk, h1, h2, h3, ha, Bool.true_and]
theorem curOk_no {fl ra : Int} {on : Nat → Bool} {v x : Nat → Int} {cu : Int} (h : cu = -1) : curOk fl cu ra on v x = (ra == 0) := if_pos h
theorem curOk_some {fl ra : Int} {on : Nat → Bool} {v x : Nat → Int} {cu : Int} (h : cu ≠ -1) : curOk fl cu ra on v x = curB fl cu ra on v x := if_neg h
theorem curB_f1 {fl cu ra : Int} {on : Nat → Bool} {v x : Nat → Int} (h : on cu.toNat = false) : curB fl cu ra on v x = false := by simp [curB, h]
theorem curB_f2 {fl cu ra : Int} {on : Nat → Bool} {v x : Nat → Int} (h : inR ra 1 149 = false) : curB fl cu ra on v x = false := by simp [curB, h]
theorem curB_e {fl cu ra : Int} {on : Nat → Bool} {v x : Nat → Int} (h : on cu.toNat = true) (h2 : inR ra 1 149 = true) : curB fl cu ra on v x = decide (v cu.toNat - fl ≤ virtualStep ra (x cu.toNat)) := by simp [curB, h, h2]
theorem entB_facts {fl : Int} {b : Bool} {v x s : Int} (h : entB fl b v x s = true) : 1 ≤ x ∧ x ≤ 20 ∧ 0 ≤ v ∧ v ≤ 100000000000000000 ∧ 0 ≤ s ∧ s ≤ 100000000000000000 ∧ (b = true → fl ≤ v ∧ v - fl ≤ lagMost x) := by
  cases h1 : inR x 1 20
  · rw [entB_f1 h1] at h; exact absurd h (by decide)
  cases h2 : time2 v s
  · rw [entB_f2 h2] at h; exact absurd h (by decide)
  obtain ⟨a1, a2⟩ := inR_iff.1 h1
  obtain ⟨a3, a4, a5, a6⟩ := time2_t h2
  refine ⟨a1, a2, a3, a4, a5, a6, fun hb => ?_⟩
  cases h3 : placedB v fl x
  · rw [entB_f3 hb h3] at h; exact absurd h (by decide)
  · simpa [placedB] using h3
theorem queueOk_facts {fl cu ra : Int} {n : Nat} {on : Nat → Bool} {v x s : Nat → Int} (h : queueOk fl cu ra n on v x s = true) :
    1 ≤ (n : Int) ∧ (n : Int) ≤ 20 ∧ 0 ≤ fl ∧ fl ≤ 100000000000000000 ∧ -1 ≤ cu ∧ cu ≤ (n : Int) - 1 ∧
      (∀ i, i < n → 1 ≤ x i ∧ x i ≤ 20 ∧ 0 ≤ v i ∧ v i ≤ 100000000000000000 ∧ 0 ≤ s i ∧ s i ≤ 100000000000000000 ∧ (on i = true → fl ≤ v i ∧ v i - fl ≤ lagMost (x i))) := by
  simp only [queueOk, Bool.and_eq_true] at h
  obtain ⟨⟨⟨⟨h1, h2⟩, h3⟩, h4⟩, h5⟩ := h
  obtain ⟨a1, a2⟩ := inR_iff.1 h1
  obtain ⟨a3, a4⟩ := timeB_t h2
  obtain ⟨a5, a6⟩ := inR_iff.1 h3
  exact ⟨a1, a2, a3, a4, a5, a6, fun i hi => entB_facts (allTo_at _ i n hi h4)⟩
end Go.Proofs.YtndbmeedimhohaaGreat

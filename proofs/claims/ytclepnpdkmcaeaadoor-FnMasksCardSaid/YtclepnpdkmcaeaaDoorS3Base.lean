/- Sets of processors and domains: contracts of impl and spec, each by one plain function; the world stays. -/
import Derived.Test.YtclepnpdkmcaeaaDoorS1Base
namespace Go.Proofs.YtclepnpdkmcaeaaDoor
open Go.RowKit
theorem ret_bool {a b : Bool} (h : a = b) : Ending.returned (.bool a) = .returned (.bool b) := by rw [h]
theorem ret_int3 {k : IntKind} {a b : Int} (h : a = b) : Ending.returned (.int k a) = .returned (.int k b) := by rw [h]
theorem maskHas_and (m c : Int) (h1 : inR m 0 15 = true) (h2 : inR c 0 3 = true) : (bits .and .i64 (m / 2 ^ c.toNat) 1 == 1) = maskHas m c := by
  rw [maskHas_eq m c h1 h2]
  obtain ⟨g1, g2⟩ := inR_iff.1 h1
  obtain ⟨g3, g4⟩ := inR_iff.1 h2
  rcases upto15 g1 g2 with h | h | h | h | h | h | h | h | h | h | h | h | h | h | h | h <;> subst h <;> rcases upto3 g3 g4 with h | h | h | h <;> subst h <;> rfl
theorem cpuSetHas_any (a b : Int) (w : World) :
    Calls Tryd.prog 21 #[.int .i64 a, .int .i64 b] w fun e w' => e = .returned (.bool (maskHas a b)) ∧ w = w' := by
  cases h1 : inR a 0 15 <;> cases h2 : inR b 0 3
  case true.true =>
    have hm := Lib.hid (maskHas_and a b h1 h2)
    obtain ⟨g1, g2⟩ := inR_iff.1 h1
    obtain ⟨g3, g4⟩ := inR_iff.1 h2
    go_enter Tryd.func21, Tryd.ntmps21
    go_wp2_with (first | (go_at_call 29; refine (cpuSetOk_any _ _).mono ?_; rintro e w' ⟨rfl, rfl⟩) | (go_at_call 30; refine (inRange_any _ _ _ _).mono ?_; rintro e w' ⟨rfl, rfl⟩))
    go_ret
    exact ⟨ret_bool hm.out, rfl⟩
  all_goals
    first | rw [maskHas_no _ _ h1] | rw [maskHas_no2 _ _ h2]
    go_enter Tryd.func21, Tryd.ntmps21
    go_wp2_with (first | (go_at_call 29; refine (cpuSetOk_any _ _).mono ?_; rintro e w' ⟨rfl, rfl⟩) | (go_at_call 30; refine (inRange_any _ _ _ _).mono ?_; rintro e w' ⟨rfl, rfl⟩))
    go_ret
    exact ⟨rfl, rfl⟩
theorem iMaskHas_any (a b : Int) (w : World) :
    Calls Tryd.prog 16 #[.int .i64 a, .int .i64 b] w fun e w' => e = .returned (.bool (maskHas a b)) ∧ w = w' := by
  go_enter Tryd.func16, Tryd.ntmps16
  go_wp2_with (go_at_call 21; refine (cpuSetHas_any _ _ _).mono ?_; rintro e w' ⟨rfl, rfl⟩)
  go_ret
  exact ⟨rfl, rfl⟩
theorem sMaskHas_any (a b : Int) (w : World) :
    Calls Tryd.prog 18 #[.int .i64 a, .int .i64 b] w fun e w' => e = .returned (.bool (maskHas a b)) ∧ w = w' := by
  cases h1 : inR a 0 15 <;> cases h2 : inR b 0 3
  case true.true =>
    have hm := Lib.hid (maskHas_tmod a b h1 h2)
    obtain ⟨g1, g2⟩ := inR_iff.1 h1
    obtain ⟨g3, g4⟩ := inR_iff.1 h2
    go_enter Tryd.func18, Tryd.ntmps18
    go_wp2_with (first | (go_at_call 14; refine (sMaskOk_any _ _).mono ?_; rintro e w' ⟨rfl, rfl⟩) | (go_at_call 27; refine (l1In_any _ _ _ _).mono ?_; rintro e w' ⟨rfl, rfl⟩))
    go_ret
    exact ⟨ret_bool hm.out, rfl⟩
  all_goals
    first | rw [maskHas_no _ _ h1] | rw [maskHas_no2 _ _ h2]
    go_enter Tryd.func18, Tryd.ntmps18
    go_wp2_with (first | (go_at_call 14; refine (sMaskOk_any _ _).mono ?_; rintro e w' ⟨rfl, rfl⟩) | (go_at_call 27; refine (l1In_any _ _ _ _).mono ?_; rintro e w' ⟨rfl, rfl⟩))
    go_ret
    exact ⟨rfl, rfl⟩
theorem maskAnd_bits (a b : Int) (h1 : inR a 0 15 = true) (h2 : inR b 0 15 = true) : bits .and .i64 a b = maskAnd a b := by
  have : maskAnd a b = andUp a b 4 := by simp [maskAnd, h1, h2]
  rw [this]
  obtain ⟨g1, g2⟩ := inR_iff.1 h1
  obtain ⟨g3, g4⟩ := inR_iff.1 h2
  rcases upto15 g1 g2 with h | h | h | h | h | h | h | h | h | h | h | h | h | h | h | h <;> subst h <;> rcases upto15 g3 g4 with h | h | h | h | h | h | h | h | h | h | h | h | h | h | h | h <;> subst h <;> rfl
theorem maskAnd_no (a b : Int) (h : (inR a 0 15 && inR b 0 15) = false) : maskAnd a b = 0 := by simp [maskAnd, h]
theorem iMaskAnd_any (a b : Int) (w : World) :
    Calls Tryd.prog 11 #[.int .i64 a, .int .i64 b] w fun e w' => e = .returned (.int .i64 (maskAnd a b)) ∧ w = w' := by
  cases h1 : inR a 0 15 <;> cases h2 : inR b 0 15
  case true.true =>
    have hm := Lib.hid (maskAnd_bits a b h1 h2)
    go_enter Tryd.func11, Tryd.ntmps11
    go_wp2_with (go_at_call 26; refine (iMaskOk_any _ _).mono ?_; rintro e w' ⟨rfl, rfl⟩)
    go_ret
    exact ⟨ret_int3 hm.out, rfl⟩
  all_goals
    rw [maskAnd_no a b (by simp [h1, h2])]
    go_enter Tryd.func11, Tryd.ntmps11
    go_wp2_with (go_at_call 26; refine (iMaskOk_any _ _).mono ?_; rintro e w' ⟨rfl, rfl⟩)
    go_ret
    exact ⟨rfl, rfl⟩
theorem sMaskAnd_any (a b : Int) (w : World) :
    Calls Tryd.prog 12 #[.int .i64 a, .int .i64 b] w fun e w' => e = .returned (.int .i64 (maskAnd a b)) ∧ w = w' := by
  cases h1 : inR a 0 15 <;> cases h2 : inR b 0 15
  case true.true =>
    have hm : maskAnd a b = andUp a b 4 := by simp [maskAnd, h1, h2]
    rw [hm]
    clear hm
    go_enter Tryd.func12, Tryd.ntmps12
    go_wp2_with (go_at_call 14; refine (sMaskOk_any _ _).mono ?_; rintro e w' ⟨rfl, rfl⟩)
    go_loop [5, 6] (fun m c => ∃ k : Int, 0 ≤ k ∧ k ≤ 4 ∧ c = .int .i64 k ∧ m = .int .i64 (andI a b k)) (fun _ c => (4 - intOf c).toNat)
    case atStart => exact ⟨0, by omega, by omega, rfl, rfl⟩
    case round =>
      obtain ⟨k, hk0, hk, rfl, rfl⟩ := hrel
      obtain ⟨u1, u2⟩ := andI_b a b k hk0 hk
      by_cases hlt : k < 4
      · have hs := andI_succ a b k hk0
        have hk4 : k = 0 ∨ k = 1 ∨ k = 2 ∨ k = 3 := by omega
        cases h3 : maskHas a k <;> cases h4 : maskHas b k <;> rw [h3, h4] at hs <;> rcases hk4 with h | h | h | h <;> subst h
        all_goals
          have HS := Lib.hid hs
          clear hs
          go_wp2_with (go_at_call 18; refine (sMaskHas_any _ _ _).mono ?_; rintro e w' ⟨rfl, rfl⟩)
          go_round
          case rel => exact ⟨_, by omega, by omega, rfl, by have := HS.out; simp [bitIf] at this ⊢; omega⟩
          case measure => simp [intOf]
      · obtain rfl : k = 4 := by omega
        go_wp2
        go_ret
        exact ⟨rfl, rfl⟩
  all_goals
    rw [maskAnd_no a b (by simp [h1, h2])]
    go_enter Tryd.func12, Tryd.ntmps12
    go_wp2_with (go_at_call 14; refine (sMaskOk_any _ _).mono ?_; rintro e w' ⟨rfl, rfl⟩)
    go_ret
    exact ⟨rfl, rfl⟩
end Go.Proofs.YtclepnpdkmcaeaaDoor

/- Sets of processors and domains: contracts of impl and spec, each by one plain function; the world stays. -/
import Derived.Test.YtipopjkikahjpaaS1Base
namespace Go.Proofs.Ytipopjkikahjpaa
open Go.RowKit
theorem ret_bool {a b : Bool} (h : a = b) : Ending.returned (.bool a) = .returned (.bool b) := by rw [h]
theorem ret_int3 {k : IntKind} {a b : Int} (h : a = b) : Ending.returned (.int k a) = .returned (.int k b) := by rw [h]
theorem maskHas_and (m c : Int) (h1 : inR m 0 15 = true) (h2 : inR c 0 3 = true) : (bits .and .i64 (m / 2 ^ c.toNat) 1 == 1) = maskHas m c := by
  rw [maskHas_eq m c h1 h2]
  obtain ⟨g1, g2⟩ := inR_iff.1 h1
  obtain ⟨g3, g4⟩ := inR_iff.1 h2
  rcases upto15 g1 g2 with h | h | h | h | h | h | h | h | h | h | h | h | h | h | h | h <;> subst h <;> rcases upto3 g3 g4 with h | h | h | h <;> subst h <;> rfl
theorem cpuSetHas_any (a b : Int) (w : World) :
    Calls Try.prog 38 #[.int .i64 a, .int .i64 b] w fun e w' => e = .returned (.bool (maskHas a b)) ∧ w = w' := by
  cases h1 : inR a 0 15 <;> cases h2 : inR b 0 3
  case true.true =>
    have hm := Lib.hid (maskHas_and a b h1 h2)
    obtain ⟨g1, g2⟩ := inR_iff.1 h1
    obtain ⟨g3, g4⟩ := inR_iff.1 h2
    go_enter Try.func38, Try.ntmps38
    go_wp2_with (first | (go_at_call 40; refine (cpuSetOk_any _ _).mono ?_; rintro e w' ⟨rfl, rfl⟩) | (go_at_call 25; refine (inRange_any _ _ _ _).mono ?_; rintro e w' ⟨rfl, rfl⟩))
    go_ret
    exact ⟨ret_bool hm.out, rfl⟩
  all_goals
    first | rw [maskHas_no _ _ h1] | rw [maskHas_no2 _ _ h2]
    go_enter Try.func38, Try.ntmps38
    go_wp2_with (first | (go_at_call 40; refine (cpuSetOk_any _ _).mono ?_; rintro e w' ⟨rfl, rfl⟩) | (go_at_call 25; refine (inRange_any _ _ _ _).mono ?_; rintro e w' ⟨rfl, rfl⟩))
    go_ret
    exact ⟨rfl, rfl⟩
theorem sMaskHas_any (a b : Int) (w : World) :
    Calls Try.prog 26 #[.int .i64 a, .int .i64 b] w fun e w' => e = .returned (.bool (maskHas a b)) ∧ w = w' := by
  cases h1 : inR a 0 15 <;> cases h2 : inR b 0 3
  case true.true =>
    have hm := Lib.hid (maskHas_tmod a b h1 h2)
    obtain ⟨g1, g2⟩ := inR_iff.1 h1
    obtain ⟨g3, g4⟩ := inR_iff.1 h2
    go_enter Try.func26, Try.ntmps26
    go_wp2_with (first | (go_at_call 36; refine (sMaskOk_any _ _).mono ?_; rintro e w' ⟨rfl, rfl⟩) | (go_at_call 23; refine (l1In_any _ _ _ _).mono ?_; rintro e w' ⟨rfl, rfl⟩))
    go_ret
    exact ⟨ret_bool hm.out, rfl⟩
  all_goals
    first | rw [maskHas_no _ _ h1] | rw [maskHas_no2 _ _ h2]
    go_enter Try.func26, Try.ntmps26
    go_wp2_with (first | (go_at_call 36; refine (sMaskOk_any _ _).mono ?_; rintro e w' ⟨rfl, rfl⟩) | (go_at_call 23; refine (l1In_any _ _ _ _).mono ?_; rintro e w' ⟨rfl, rfl⟩))
    go_ret
    exact ⟨rfl, rfl⟩
theorem maskAnd_bits (a b : Int) (h1 : inR a 0 15 = true) (h2 : inR b 0 15 = true) : bits .and .i64 a b = maskAnd a b := by
  have : maskAnd a b = andUp a b 4 := by simp [maskAnd, h1, h2]
  rw [this]
  obtain ⟨g1, g2⟩ := inR_iff.1 h1
  obtain ⟨g3, g4⟩ := inR_iff.1 h2
  rcases upto15 g1 g2 with h | h | h | h | h | h | h | h | h | h | h | h | h | h | h | h <;> subst h <;> rcases upto15 g3 g4 with h | h | h | h | h | h | h | h | h | h | h | h | h | h | h | h <;> subst h <;> rfl
theorem maskAnd_no (a b : Int) (h : (inR a 0 15 && inR b 0 15) = false) : maskAnd a b = 0 := by simp [maskAnd, h]
theorem iDecayBeats_any (a b c : Int) (w : World) :
    Calls Try.prog 16 #[.int .i64 a, .int .i64 b, .int .i64 c] w fun e w' => e = .returned (.int .i64 (decayBeats a b c)) ∧ w = w' := by
  unfold decayBeats
  cases h1 : inR c 0 20 <;> cases h2 : inR a 0 8000000
  case true.true =>
    obtain ⟨g1, g2⟩ := inR_iff.1 h1
    go_enter Try.func16, Try.ntmps16
    go_wp2_with (first | (go_at_call 25; refine (inRange_any _ _ _ _).mono ?_; rintro e w' ⟨rfl, rfl⟩) | (go_at_call 29; refine (loadOk_any _ _).mono ?_; rintro e w' ⟨rfl, rfl⟩))
    go_loop [0, 16] (fun l i => ∃ k : Int, 0 ≤ k ∧ k ≤ c ∧ i = .int .i64 k ∧ l = .int .i64 (beatsI b k a)) (fun _ i => (c - intOf i).toNat)
    case atStart => exact ⟨0, by omega, by omega, rfl, rfl⟩
    case round =>
      obtain ⟨k, hk0, hk, rfl, rfl⟩ := hrel
      by_cases hlt : k < c
      · have HS := Lib.hid (beatsI_succ b a k hk0)
        go_wp2_with (go_at_call 30; refine (iDecayBeat_any _ _ _).mono ?_; rintro e w' ⟨rfl, rfl⟩)
        go_round
        case rel => exact ⟨k + 1, by omega, by omega, rfl, by rw [HS.out]⟩
        case measure => simp [intOf]; omega
      · obtain rfl : k = c := by omega
        go_wp2
        go_ret
        exact ⟨rfl, rfl⟩
  all_goals
    go_enter Try.func16, Try.ntmps16
    go_wp2_with (first | (go_at_call 25; refine (inRange_any _ _ _ _).mono ?_; rintro e w' ⟨rfl, rfl⟩) | (go_at_call 29; refine (loadOk_any _ _).mono ?_; rintro e w' ⟨rfl, rfl⟩))
    go_ret
    exact ⟨rfl, rfl⟩
theorem sDecayBeats_any (a b c : Int) (w : World) :
    Calls Try.prog 15 #[.int .i64 a, .int .i64 b, .int .i64 c] w fun e w' => e = .returned (.int .i64 (decayBeats a b c)) ∧ w = w' := by
  unfold decayBeats
  cases h1 : inR c 0 20 <;> cases h2 : inR a 0 8000000
  case true.true =>
    obtain ⟨g1, g2⟩ := inR_iff.1 h1
    go_enter Try.func15, Try.ntmps15
    go_wp2_with (first | (go_at_call 23; refine (l1In_any _ _ _ _).mono ?_; rintro e w' ⟨rfl, rfl⟩))
    go_loop [0, 7] (fun l i => ∃ k : Int, 0 ≤ k ∧ k ≤ c ∧ i = .int .i64 k ∧ l = .int .i64 (beatsI b k a)) (fun _ i => (c - intOf i).toNat)
    case atStart => exact ⟨0, by omega, by omega, rfl, rfl⟩
    case round =>
      obtain ⟨k, hk0, hk, rfl, rfl⟩ := hrel
      by_cases hlt : k < c
      · have HS := Lib.hid (beatsI_succ b a k hk0)
        go_wp2_with (go_at_call 28; refine (sDecayBeat_any _ _ _).mono ?_; rintro e w' ⟨rfl, rfl⟩)
        go_round
        case rel => exact ⟨k + 1, by omega, by omega, rfl, by rw [HS.out]⟩
        case measure => simp [intOf]; omega
      · obtain rfl : k = c := by omega
        go_wp2
        go_ret
        exact ⟨rfl, rfl⟩
  all_goals
    go_enter Try.func15, Try.ntmps15
    go_wp2_with (first | (go_at_call 23; refine (l1In_any _ _ _ _).mono ?_; rintro e w' ⟨rfl, rfl⟩))
    go_ret
    exact ⟨rfl, rfl⟩
theorem sMaskFirst_any (m : Int) (w : World) :
    Calls Try.prog 13 #[.int .i64 m] w fun e w' => e = .returned (.int .i64 (maskFirst m)) ∧ w = w' := by
  unfold maskFirst
  cases h0 : maskHas m 0 <;> cases h1 : maskHas m 1 <;> cases h2 : maskHas m 2 <;> cases h3 : maskHas m 3
  all_goals
    go_enter Try.func13, Try.ntmps13
    go_wp2
    refine wp_loop_rounds 5 ?_
    repeat any_goals (rw [rounds_succ]; go_wp2_with (go_at_call 26; refine (sMaskHas_any _ _ _).mono ?_; rintro e w' ⟨rfl, rfl⟩))
    go_ret
    exact ⟨rfl, rfl⟩
theorem cntI_succ (m k : Int) (h : 0 ≤ k) : cntUp m (k + 1).toNat = cntUp m k.toNat + bitIf (maskHas m k) 1 := by
  rw [show (k + 1).toNat = k.toNat + 1 by omega]
  simp only [cntUp]
  rw [show ((k.toNat : Nat) : Int) = k by omega]
def cntI (m k : Int) : Int := cntUp m k.toNat
theorem sMaskCount_any (m : Int) (w : World) :
    Calls Try.prog 17 #[.int .i64 m] w fun e w' => e = .returned (.int .i64 (maskCount m)) ∧ w = w' := by
  have hfin : maskCount m = cntI m 4 := rfl
  rw [hfin]
  clear hfin
  go_enter Try.func17, Try.ntmps17
  go_wp2
  go_loop [3, 4] (fun n c => ∃ k : Int, 0 ≤ k ∧ k ≤ 4 ∧ c = .int .i64 k ∧ n = .int .i64 (cntI m k)) (fun _ c => (4 - intOf c).toNat)
  case atStart => exact ⟨0, by omega, by omega, rfl, rfl⟩
  case round =>
    obtain ⟨k, hk0, hk, rfl, rfl⟩ := hrel
    have hb := cntUp_b m k.toNat
    have hb1 : 0 ≤ cntI m k := hb.1
    have hb2 : cntI m k ≤ 4 := by have := hb.2; unfold cntI; omega
    clear hb
    by_cases hlt : k < 4
    · have hs : cntI m (k + 1) = cntI m k + bitIf (maskHas m k) 1 := cntI_succ m k hk0
      cases h3 : maskHas m k <;> rw [h3] at hs
      all_goals
        have HS := Lib.hid hs
        clear hs
        go_wp2_with (go_at_call 26; refine (sMaskHas_any _ _ _).mono ?_; rintro e w' ⟨rfl, rfl⟩)
        go_round
        case rel => exact ⟨k + 1, by omega, by omega, rfl, by rw [HS.out]; simp [bitIf]⟩
        case measure => simp [intOf]; omega
    · obtain rfl : k = 4 := by omega
      go_wp2
      go_ret
      exact ⟨rfl, rfl⟩
end Go.Proofs.Ytipopjkikahjpaa

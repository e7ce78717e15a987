/- Sets of processors and domains: contracts of impl and spec, each by one plain function; the world stays. -/
import Derived.Test.YtbpggefdcpemkaaS1Base
namespace Go.Proofs.Ytbpggefdcpemkaa
open Go.RowKit
theorem ret_bool {a b : Bool} (h : a = b) : Ending.returned (.bool a) = .returned (.bool b) := by rw [h]
theorem ret_int3 {k : IntKind} {a b : Int} (h : a = b) : Ending.returned (.int k a) = .returned (.int k b) := by rw [h]
theorem maskHas_and (m c : Int) (h1 : inR m 0 15 = true) (h2 : inR c 0 3 = true) : (bits .and .i64 (m / 2 ^ c.toNat) 1 == 1) = maskHas m c := by
  rw [maskHas_eq m c h1 h2]
  obtain ⟨g1, g2⟩ := inR_iff.1 h1
  obtain ⟨g3, g4⟩ := inR_iff.1 h2
  rcases upto15 g1 g2 with h | h | h | h | h | h | h | h | h | h | h | h | h | h | h | h <;> subst h <;> rcases upto3 g3 g4 with h | h | h | h <;> subst h <;> rfl
theorem maskAnd_bits (a b : Int) (h1 : inR a 0 15 = true) (h2 : inR b 0 15 = true) : bits .and .i64 a b = maskAnd a b := by
  have : maskAnd a b = andUp a b 4 := by simp [maskAnd, h1, h2]
  rw [this]
  obtain ⟨g1, g2⟩ := inR_iff.1 h1
  obtain ⟨g3, g4⟩ := inR_iff.1 h2
  rcases upto15 g1 g2 with h | h | h | h | h | h | h | h | h | h | h | h | h | h | h | h <;> subst h <;> rcases upto15 g3 g4 with h | h | h | h | h | h | h | h | h | h | h | h | h | h | h | h <;> subst h <;> rfl
theorem maskAnd_no (a b : Int) (h : (inR a 0 15 && inR b 0 15) = false) : maskAnd a b = 0 := by simp [maskAnd, h]
theorem iDecayBeats_any (a b c : Int) (w : World) :
    Calls Try.prog 5 #[.int .i64 a, .int .i64 b, .int .i64 c] w fun e w' => e = .returned (.int .i64 (decayBeats a b c)) ∧ w = w' := by
  unfold decayBeats
  cases h1 : inR c 0 20 <;> cases h2 : inR a 0 8000000
  case true.true =>
    obtain ⟨g1, g2⟩ := inR_iff.1 h1
    go_enter Try.func5, Try.ntmps5
    go_wp2_with (first | (go_at_call 13; refine (inRange_any _ _ _ _).mono ?_; rintro e w' ⟨rfl, rfl⟩) | (go_at_call 14; refine (loadOk_any _ _).mono ?_; rintro e w' ⟨rfl, rfl⟩))
    go_loop [0, 16] (fun l i => ∃ k : Int, 0 ≤ k ∧ k ≤ c ∧ i = .int .i64 k ∧ l = .int .i64 (beatsI b k a)) (fun _ i => (c - intOf i).toNat)
    case atStart => exact ⟨0, by omega, by omega, rfl, rfl⟩
    case round =>
      obtain ⟨k, hk0, hk, rfl, rfl⟩ := hrel
      by_cases hlt : k < c
      · have HS := Lib.hid (beatsI_succ b a k hk0)
        go_wp2_with (go_at_call 8; refine (iDecayBeat_any _ _ _).mono ?_; rintro e w' ⟨rfl, rfl⟩)
        go_round
        case rel => exact ⟨k + 1, by omega, by omega, rfl, by rw [HS.out]⟩
        case measure => simp [intOf]; omega
      · obtain rfl : k = c := by omega
        go_wp2
        go_ret
        exact ⟨rfl, rfl⟩
  all_goals
    go_enter Try.func5, Try.ntmps5
    go_wp2_with (first | (go_at_call 13; refine (inRange_any _ _ _ _).mono ?_; rintro e w' ⟨rfl, rfl⟩) | (go_at_call 14; refine (loadOk_any _ _).mono ?_; rintro e w' ⟨rfl, rfl⟩))
    go_ret
    exact ⟨rfl, rfl⟩
theorem sDecayBeats_any (a b c : Int) (w : World) :
    Calls Try.prog 6 #[.int .i64 a, .int .i64 b, .int .i64 c] w fun e w' => e = .returned (.int .i64 (decayBeats a b c)) ∧ w = w' := by
  unfold decayBeats
  cases h1 : inR c 0 20 <;> cases h2 : inR a 0 8000000
  case true.true =>
    obtain ⟨g1, g2⟩ := inR_iff.1 h1
    go_enter Try.func6, Try.ntmps6
    go_wp2_with (first | (go_at_call 15; refine (l1In_any _ _ _ _).mono ?_; rintro e w' ⟨rfl, rfl⟩))
    go_loop [0, 7] (fun l i => ∃ k : Int, 0 ≤ k ∧ k ≤ c ∧ i = .int .i64 k ∧ l = .int .i64 (beatsI b k a)) (fun _ i => (c - intOf i).toNat)
    case atStart => exact ⟨0, by omega, by omega, rfl, rfl⟩
    case round =>
      obtain ⟨k, hk0, hk, rfl, rfl⟩ := hrel
      by_cases hlt : k < c
      · have HS := Lib.hid (beatsI_succ b a k hk0)
        go_wp2_with (go_at_call 9; refine (sDecayBeat_any _ _ _).mono ?_; rintro e w' ⟨rfl, rfl⟩)
        go_round
        case rel => exact ⟨k + 1, by omega, by omega, rfl, by rw [HS.out]⟩
        case measure => simp [intOf]; omega
      · obtain rfl : k = c := by omega
        go_wp2
        go_ret
        exact ⟨rfl, rfl⟩
  all_goals
    go_enter Try.func6, Try.ntmps6
    go_wp2_with (first | (go_at_call 15; refine (l1In_any _ _ _ _).mono ?_; rintro e w' ⟨rfl, rfl⟩))
    go_ret
    exact ⟨rfl, rfl⟩
end Go.Proofs.Ytbpggefdcpemkaa

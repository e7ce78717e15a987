/- Worlds: WorldNew, whatever the number. -/
import Derived.Test.YtndbmeedimhohaaW8Base
namespace Go.Proofs.Ytndbmeedimhohaa
open Go.RowKit
set_option maxHeartbeats 1000000 in
theorem iWorldNew_bad (n : Int) (hn : inR n 1 4 = false) (w : World) :
    Calls Try.prog 5 #[.int .i64 n] w (NW zWV false w) := by
  have HIN : Hid (∀ x : World, Calls Try.prog 11 #[.int .i64 n, .int .i64 1, .int .i64 4] x fun e w' => e = .returned (.bool false) ∧ x = w') := fun x => by have := inRange_any n 1 4 x; rw [hn] at this; exact this
  clear hn
  go_enter Try.func5, Try.ntmps5
  go_wp2_with (go_at_call 11; refine (HIN.out _).mono ?_; rintro e w9 ⟨rfl, rfl⟩)
  have hb : Below w.heap.size w (w.alloc (.cells zWorld 26)) := (Below.refl _ _).alloc (Nat.le_refl _) _
  refine bodyPost_ret (v := .tuple #[.agg #[.int .i64 0, .slice none 0 0, .slice none 0 0, .slice none 0 0], .bool false]) (by simp [results, Try.results5, go_sem]) rfl ?_
  exact ⟨⟨none, 0, none, 0, none, 0, fun _ => ⟨none, 0, none, 0, none, 0⟩⟩, rfl, WNew_zero _ _, hb⟩
theorem iWorldNew_any (n : Int) (w : World) :
    Calls Try.prog 5 #[.int .i64 n] w (NW (if inR n 1 4 then nWV n.toNat else zWV) (inR n 1 4) w) := by
  by_cases h : inR n 1 4 = true
  · obtain ⟨h1, h2⟩ := inR_iff.1 h
    rw [if_pos h, h]
    have := iWorldNew_good n.toNat (by omega) (by omega) w
    rw [Int.toNat_of_nonneg (by omega)] at this
    exact this
  · rw [if_neg h, eq_false_of_ne_true h]
    exact iWorldNew_bad n (eq_false_of_ne_true h) w
set_option maxHeartbeats 1000000 in
theorem sWorldNew_bad (n : Int) (hn : inR n 1 4 = false) (w : World) :
    Calls Try.prog 4 #[.int .i64 n] w (NW zWV false w) := by
  have HIN : Hid (∀ x : World, Calls Try.prog 9 #[.int .i64 n, .int .i64 1, .int .i64 4] x fun e w' => e = .returned (.bool false) ∧ x = w') := fun x => by have := l1In_any n 1 4 x; rw [hn] at this; exact this
  clear hn
  go_enter Try.func4, Try.ntmps4
  go_wp2_with (go_at_call 9; refine (HIN.out _).mono ?_; rintro e w9 ⟨rfl, rfl⟩)
  have hb : Below w.heap.size w (w.alloc (.cells zWorld 26)) := (Below.refl _ _).alloc (Nat.le_refl _) _
  refine bodyPost_ret (v := .tuple #[.agg #[.int .i64 0, .slice none 0 0, .slice none 0 0, .slice none 0 0], .bool false]) (by simp [results, Try.results4, go_sem]) rfl ?_
  exact ⟨⟨none, 0, none, 0, none, 0, fun _ => ⟨none, 0, none, 0, none, 0⟩⟩, rfl, WNew_zero _ _, hb⟩
theorem sWorldNew_any (n : Int) (w : World) :
    Calls Try.prog 4 #[.int .i64 n] w (NW (if inR n 1 4 then nWV n.toNat else zWV) (inR n 1 4) w) := by
  by_cases h : inR n 1 4 = true
  · obtain ⟨h1, h2⟩ := inR_iff.1 h
    rw [if_pos h, h]
    have := sWorldNew_good n.toNat (by omega) (by omega) w
    rw [Int.toNat_of_nonneg (by omega)] at this
    exact this
  · rw [if_neg h, eq_false_of_ne_true h]
    exact sWorldNew_bad n (eq_false_of_ne_true h) w
end Go.Proofs.Ytndbmeedimhohaa

/- Marks: entries. -/
import Derived.Test.YtjdlfldeoinbiaaK1Base
import Derived.WalkKit
import Derived.WalkSpells
import Derived.Lib.Hide
namespace Go.Proofs.Ytjdlfldeoinbiaa
open Go.RowKit

def markEEntry (kk : Int) : List Value := [.bool ((kk) % 3 == 0), .int .i64 (kk + 1), .int .i64 (kk + 1 + 1), .int .i64 (kk + 1 + 1 + 1)]
set_option maxHeartbeats 1000000 in
theorem markEntryS_any (A : Option Addr) (n c B : Nat) (k : Int) (h0 : 0 ≤ k) (hk : k ≤ 1000000000) (hn : n ≤ 1048576) (el : Nat → List Value) (hel : ∀ i, (el i).length = 4) (w : World) (hA : OwnQ w B A n 4 el) :
    Calls Try.prog 38 #[.slice A n c, .int .i64 k] w fun e w' => e = .returned (.int .i64 (k + 4 * n)) ∧ Kept (fun b => 0 < n ∧ B ≤ b ∧ hd A b) w w' ∧ OwnQ w' B A n 4 (fun i => markEEntry (k + 4 * i)) := by
  rcases Nat.eq_zero_or_pos n with h1 | h1
  · subst h1
    go_enter Try.func38, Try.ntmps38
    go_wp2
    refine wp_loop_rounds 1 ?_
    rw [rounds_succ]
    go_wp2
    go_ret
    exact ⟨ret_intM (by omega), Kept.refl _ _, fun h => absurd h (by omega)⟩
  · obtain ⟨g, rfl, hB, ho⟩ := hA h1
    have HO := Lib.hid ho
    clear hA ho
    go_enter Try.func38, Try.ntmps38
    go_wp2
    go_loopw [1, 5] (fun t i wr => ∃ j : Nat, j ≤ n ∧ i = .int .i64 j ∧ t = .int .i64 (k + 4 * j) ∧ Hid (OwnS wr g n 4 (fun i => if i < j then markEEntry (k + 4 * i) else el i)) ∧ Hid (Kept (fun b => 0 < n ∧ B ≤ b ∧ hd (some ⟨g, 0, none⟩) b) w wr)) (fun _ i _ => n - (intOf i).toNat)
    case atStart => exact ⟨0, Nat.zero_le _, rfl, by go_num, HO.out.congr (fun i _ => by simp), Kept.refl _ _⟩
    case round =>
      obtain ⟨j, hj, rfl, rfl, HV, HK⟩ := hrel
      by_cases hlt : j < n
      · have hlj : (el j).length = 4 := hel j
        obtain ⟨u0, u1, u2, u3, huj⟩ : ∃ u0 u1 u2 u3, el j = [u0, u1, u2, u3] := len4 hlj
        have c0 := HV.out.cell j hlt 0 u0 (by simp [huj])
        have c1 := HV.out.cell j hlt 1 u1 (by simp [huj])
        have c2 := HV.out.cell j hlt 2 u2 (by simp [huj])
        have c3 := HV.out.cell j hlt 3 u3 (by simp [huj])
        have f0 := HV.out.free j hlt 0 (by omega)
        have f1 := HV.out.free j hlt 1 (by omega)
        have f2 := HV.out.free j hlt 2 (by omega)
        have f3 := HV.out.free j hlt 3 (by omega)
        simp only [Nat.add_zero] at c0 f0
        obtain ⟨kk, hkk⟩ : ∃ kk : Int, kk = k + 4 * j := ⟨_, rfl⟩
        have hk0 : 0 ≤ kk := by omega
        have hk1 : kk ≤ 2000000000 := by omega
        have HN : Hid (OwnS (wr.setCells g (j * 4) (markEEntry kk)) g n 4 (fun i => if i < j + 1 then markEEntry (k + 4 * i) else el i)) := (HV.out.put hlt _ rfl (fun i => by split; rfl; exact hel i)).congr (fun i _ => markStep (F := fun i => markEEntry (k + 4 * i)) (by rw [hkk]))
        have HK2 : Hid (Kept (fun b => 0 < n ∧ B ≤ b ∧ hd (some ⟨g, 0, none⟩) b) w (wr.setCells g (j * 4) (markEEntry kk))) := Kept.setCells (show 0 < n ∧ B ≤ g ∧ hd (some ⟨g, 0, none⟩) g from ⟨h1, hB, 0, rfl⟩) _ _ HK.out
        have HE := Lib.hid hkk
        rw [← hkk]
        clear hkk HV HK HO huj hlj
        go_wp2
        go_roundw
        case rel => exact ⟨j + 1, by omega, by go_num, by rw [HE.out]; go_num, HN, HK2⟩
        case measure => simp [intOf]; omega
      · obtain rfl : j = n := by omega
        go_wp2
        go_ret
        exact ⟨rfl, HK.out, fun _ => ⟨g, rfl, hB, HV.out.congr (fun i hi => by simp [hi])⟩⟩
set_option maxHeartbeats 1000000 in
theorem heldEntryS_any (A : Option Addr) (n c : Nat) (k : Int) (h0 : 0 ≤ k) (hk : k ≤ 1000000000) (hn : n ≤ 1048576) (w W : World) (hb : Below W.heap.size W w) (hA : Rs W W.heap.size A n 4 (fun i => markEEntry (k + 4 * i))) :
    Calls Try.prog 39 #[.slice A n c, .int .i64 k] w fun e w' => e = .returned (.int .i64 (k + 4 * n)) ∧ w = w' := by
  rcases Nat.eq_zero_or_pos n with h1 | h1
  · subst h1
    go_enter Try.func39, Try.ntmps39
    go_wp2
    refine wp_loop_rounds 1 ?_
    rw [rounds_succ]
    go_wp2
    go_ret
    exact ⟨ret_intM (by omega), rfl⟩
  · obtain ⟨ga, oa, rfl, hga, hca⟩ := hA.at_ hb h1
    have HC := Lib.hid hca
    clear hca hA
    go_enter Try.func39, Try.ntmps39
    go_wp2
    go_loop [1, 5] (fun t i => ∃ j : Nat, j ≤ n ∧ i = .int .i64 j ∧ t = .int .i64 (k + 4 * j)) (fun _ i => n - (intOf i).toNat)
    case atStart => exact ⟨0, Nat.zero_le _, rfl, by go_num⟩
    case round =>
      obtain ⟨j, hj, rfl, rfl⟩ := hrel
      by_cases hlt : j < n
      · have hr := HC.out j hlt
        obtain ⟨kk, hkk⟩ : ∃ kk : Int, kk = k + 4 * j := ⟨_, rfl⟩
        have hk0 : 0 ≤ kk := by omega
        have hk1 : kk ≤ 2000000000 := by omega
        have HE := Lib.hid hkk
        rw [← hkk] at hr ⊢
        have c0 := hr 0 _ rfl
        have c1 := hr 1 _ rfl
        have c2 := hr 2 _ rfl
        have c3 := hr 3 _ rfl
        simp only [Nat.add_zero] at c0
        clear hkk HC hr
        go_wp2
        go_round
        case rel => exact ⟨j + 1, by omega, by go_num, by rw [HE.out]; go_num⟩
        case measure => simp [intOf]; omega
      · obtain rfl : j = n := by omega
        go_wp2
        go_ret
        exact ⟨rfl, rfl⟩
end Go.Proofs.Ytjdlfldeoinbiaa

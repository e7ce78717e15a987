/- Marks: ints and bools of the call's own are marked, and the marks are held. -/
import Derived.Test.YtbgmjcfnehnicaaMem4
import Derived.WalkKit
import Derived.WalkSpells
import Derived.Lib.Hide
namespace Go.Proofs.Ytbgmjcfnehnicaa
open Go.RowKit
theorem ret_intM {k : IntKind} {a b : Int} (h : a = b) : Ending.returned (.int k a) = .returned (.int k b) := by rw [h]
theorem markStep {α : Type} {F el : Nat → α} {j i : Nat} {v : α} (hv : v = F j) : (if i = j then v else if i < j then F i else el i) = if i < j + 1 then F i else el i := by
  by_cases e : i = j
  · subst e; simp [hv]
  · simp only [if_neg e]
    by_cases h : i < j
    · rw [if_pos h, if_pos (by omega)]
    · rw [if_neg h, if_neg (by omega)]
theorem len4 {α : Type} {l : List α} (h : l.length = 4) : ∃ a b c d, l = [a, b, c, d] := by
  match l, h with
  | [a, b, c, d], _ => exact ⟨a, b, c, d, rfl⟩
theorem len5 {α : Type} {l : List α} (h : l.length = 5) : ∃ a b c d e, l = [a, b, c, d, e] := by
  match l, h with
  | [a, b, c, d, e], _ => exact ⟨a, b, c, d, e, rfl⟩
theorem len9 {α : Type} {l : List α} (h : l.length = 9) : ∃ a b c d e f g i j, l = [a, b, c, d, e, f, g, i, j] := by
  match l, h with
  | [a, b, c, d, e, f, g, i, j], _ => exact ⟨a, b, c, d, e, f, g, i, j, rfl⟩
theorem Kept.setCells {p : Nat → Prop} {a : World} {g : Nat} (hg : p g) : ∀ (vs : List Value) (o : Nat) {b : World}, Kept p a b → Kept p a (b.setCells g o vs)
  | [], _, _, h => h
  | v :: r, o, b, h => Kept.setCells hg r (o + 1) (h.setCell (q := ⟨g, o, none⟩) hg v)

def markVIntS (kk : Int) : Value := .int .i64 kk
set_option maxHeartbeats 400000 in
theorem markIntS_any (A : Option Addr) (n c B : Nat) (k : Int) (h0 : 0 ≤ k) (hk : k ≤ 1000000000) (hn : n ≤ 1048576) (f : Nat → Value) (w : World) (hA : OwnR w B A n f) :
    Calls Try.prog 30 #[.slice A n c, .int .i64 k] w fun e w' => e = .returned (.int .i64 (k + n)) ∧ Kept (fun b => 0 < n ∧ B ≤ b ∧ hd A b) w w' ∧ OwnR w' B A n (fun i => markVIntS (k + i)) := by
  rcases Nat.eq_zero_or_pos n with h1 | h1
  · subst h1
    go_enter Try.func30, Try.ntmps30
    go_wp2
    refine wp_loop_rounds 1 ?_
    rw [rounds_succ]
    go_wp2
    go_ret
    exact ⟨ret_intM (by omega), Kept.refl _ _, fun h => absurd h (by omega)⟩
  · obtain ⟨g, rfl, hB, ho⟩ := hA h1
    have HO := Lib.hid ho
    clear hA ho
    go_enter Try.func30, Try.ntmps30
    go_wp2
    go_loopw [1, 5] (fun t i wr => ∃ j : Nat, j ≤ n ∧ i = .int .i64 j ∧ t = .int .i64 (k + j) ∧ Hid (OwnV wr g n (fun i => if i < j then markVIntS (k + i) else f i)) ∧ Hid (Kept (fun b => 0 < n ∧ B ≤ b ∧ hd (some ⟨g, 0, none⟩) b) w wr)) (fun _ i _ => n - (intOf i).toNat)
    case atStart => exact ⟨0, Nat.zero_le _, rfl, by go_num, HO.out.congr (fun i _ => by simp), Kept.refl _ _⟩
    case round =>
      obtain ⟨j, hj, rfl, rfl, HV, HK⟩ := hrel
      by_cases hlt : j < n
      · have d0 := HV.out.2.1 j hlt
        have d1 := HV.out.2.2 j hlt
        obtain ⟨kk, hkk⟩ : ∃ kk : Int, kk = k + j := ⟨_, rfl⟩
        have hk0 : 0 ≤ kk := by omega
        have hk1 : kk ≤ 2000000000 := by omega
        have HN : Hid (OwnV (wr.setCell ⟨g, j, none⟩ (markVIntS kk)) g n (fun i => if i < j + 1 then markVIntS (k + i) else f i)) := (HV.out.put hlt _).congr (fun i _ => markStep (F := fun i => markVIntS (k + i)) (by rw [hkk]))
        have HK2 : Hid (Kept (fun b => 0 < n ∧ B ≤ b ∧ hd (some ⟨g, 0, none⟩) b) w (wr.setCell ⟨g, j, none⟩ (markVIntS kk))) := HK.out.setCell (q := ⟨g, j, none⟩) ⟨h1, hB, 0, rfl⟩ _
        have HE := Lib.hid hkk
        rw [← hkk]
        clear hkk HV HK HO
        go_wp2
        go_roundw
        case rel => exact ⟨j + 1, by omega, by go_num, by rw [HE.out]; go_num, HN, HK2⟩
        case measure => simp [intOf]; omega
      · obtain rfl : j = n := by omega
        go_wp2
        go_ret
        exact ⟨rfl, HK.out, fun _ => ⟨g, rfl, hB, HV.out.congr (fun i hi => by simp [hi])⟩⟩
set_option maxHeartbeats 400000 in
theorem heldIntS_any (A : Option Addr) (n c : Nat) (k : Int) (h0 : 0 ≤ k) (hk : k ≤ 1000000000) (hn : n ≤ 1048576) (w W : World) (hb : Below W.heap.size W w) (hA : Rw W W.heap.size A n (fun i => markVIntS (k + i))) :
    Calls Try.prog 32 #[.slice A n c, .int .i64 k] w fun e w' => e = .returned (.int .i64 (k + n)) ∧ w = w' := by
  rcases Nat.eq_zero_or_pos n with h1 | h1
  · subst h1
    go_enter Try.func32, Try.ntmps32
    go_wp2
    refine wp_loop_rounds 1 ?_
    rw [rounds_succ]
    go_wp2
    go_ret
    exact ⟨ret_intM (by omega), rfl⟩
  · obtain ⟨ga, oa, rfl, hga, hca⟩ := hA.at_ hb h1
    have HC := Lib.hid hca
    clear hca hA
    go_enter Try.func32, Try.ntmps32
    go_wp2
    go_loop [1, 5] (fun t i => ∃ j : Nat, j ≤ n ∧ i = .int .i64 j ∧ t = .int .i64 (k + j)) (fun _ i => n - (intOf i).toNat)
    case atStart => exact ⟨0, Nat.zero_le _, rfl, by go_num⟩
    case round =>
      obtain ⟨j, hj, rfl, rfl⟩ := hrel
      by_cases hlt : j < n
      · have d0 := HC.out j hlt
        obtain ⟨kk, hkk⟩ : ∃ kk : Int, kk = k + j := ⟨_, rfl⟩
        have hk0 : 0 ≤ kk := by omega
        have hk1 : kk ≤ 2000000000 := by omega
        have HE := Lib.hid hkk
        rw [← hkk] at d0 ⊢
        unfold markVIntS at d0
        clear hkk HC
        go_wp2
        go_round
        case rel => exact ⟨j + 1, by omega, by go_num, by rw [HE.out]; go_num⟩
        case measure => simp [intOf]; omega
      · obtain rfl : j = n := by omega
        go_wp2
        go_ret
        exact ⟨rfl, rfl⟩

def markVBoolS (kk : Int) : Value := .bool (kk % 3 == 0)
set_option maxHeartbeats 400000 in
theorem markBoolS_any (A : Option Addr) (n c B : Nat) (k : Int) (h0 : 0 ≤ k) (hk : k ≤ 1000000000) (hn : n ≤ 1048576) (f : Nat → Value) (w : World) (hA : OwnR w B A n f) :
    Calls Try.prog 31 #[.slice A n c, .int .i64 k] w fun e w' => e = .returned (.int .i64 (k + n)) ∧ Kept (fun b => 0 < n ∧ B ≤ b ∧ hd A b) w w' ∧ OwnR w' B A n (fun i => markVBoolS (k + i)) := by
  rcases Nat.eq_zero_or_pos n with h1 | h1
  · subst h1
    go_enter Try.func31, Try.ntmps31
    go_wp2
    refine wp_loop_rounds 1 ?_
    rw [rounds_succ]
    go_wp2
    go_ret
    exact ⟨ret_intM (by omega), Kept.refl _ _, fun h => absurd h (by omega)⟩
  · obtain ⟨g, rfl, hB, ho⟩ := hA h1
    have HO := Lib.hid ho
    clear hA ho
    go_enter Try.func31, Try.ntmps31
    go_wp2
    go_loopw [1, 5] (fun t i wr => ∃ j : Nat, j ≤ n ∧ i = .int .i64 j ∧ t = .int .i64 (k + j) ∧ Hid (OwnV wr g n (fun i => if i < j then markVBoolS (k + i) else f i)) ∧ Hid (Kept (fun b => 0 < n ∧ B ≤ b ∧ hd (some ⟨g, 0, none⟩) b) w wr)) (fun _ i _ => n - (intOf i).toNat)
    case atStart => exact ⟨0, Nat.zero_le _, rfl, by go_num, HO.out.congr (fun i _ => by simp), Kept.refl _ _⟩
    case round =>
      obtain ⟨j, hj, rfl, rfl, HV, HK⟩ := hrel
      by_cases hlt : j < n
      · have d0 := HV.out.2.1 j hlt
        have d1 := HV.out.2.2 j hlt
        obtain ⟨kk, hkk⟩ : ∃ kk : Int, kk = k + j := ⟨_, rfl⟩
        have hk0 : 0 ≤ kk := by omega
        have hk1 : kk ≤ 2000000000 := by omega
        have HN : Hid (OwnV (wr.setCell ⟨g, j, none⟩ (markVBoolS kk)) g n (fun i => if i < j + 1 then markVBoolS (k + i) else f i)) := (HV.out.put hlt _).congr (fun i _ => markStep (F := fun i => markVBoolS (k + i)) (by rw [hkk]))
        have HK2 : Hid (Kept (fun b => 0 < n ∧ B ≤ b ∧ hd (some ⟨g, 0, none⟩) b) w (wr.setCell ⟨g, j, none⟩ (markVBoolS kk))) := HK.out.setCell (q := ⟨g, j, none⟩) ⟨h1, hB, 0, rfl⟩ _
        have HE := Lib.hid hkk
        rw [← hkk]
        clear hkk HV HK HO
        go_wp2
        go_roundw
        case rel => exact ⟨j + 1, by omega, by go_num, by rw [HE.out]; go_num, HN, HK2⟩
        case measure => simp [intOf]; omega
      · obtain rfl : j = n := by omega
        go_wp2
        go_ret
        exact ⟨rfl, HK.out, fun _ => ⟨g, rfl, hB, HV.out.congr (fun i hi => by simp [hi])⟩⟩
set_option maxHeartbeats 400000 in
theorem heldBoolS_any (A : Option Addr) (n c : Nat) (k : Int) (h0 : 0 ≤ k) (hk : k ≤ 1000000000) (hn : n ≤ 1048576) (w W : World) (hb : Below W.heap.size W w) (hA : Rw W W.heap.size A n (fun i => markVBoolS (k + i))) :
    Calls Try.prog 33 #[.slice A n c, .int .i64 k] w fun e w' => e = .returned (.int .i64 (k + n)) ∧ w = w' := by
  rcases Nat.eq_zero_or_pos n with h1 | h1
  · subst h1
    go_enter Try.func33, Try.ntmps33
    go_wp2
    refine wp_loop_rounds 1 ?_
    rw [rounds_succ]
    go_wp2
    go_ret
    exact ⟨ret_intM (by omega), rfl⟩
  · obtain ⟨ga, oa, rfl, hga, hca⟩ := hA.at_ hb h1
    have HC := Lib.hid hca
    clear hca hA
    go_enter Try.func33, Try.ntmps33
    go_wp2
    go_loop [1, 5] (fun t i => ∃ j : Nat, j ≤ n ∧ i = .int .i64 j ∧ t = .int .i64 (k + j)) (fun _ i => n - (intOf i).toNat)
    case atStart => exact ⟨0, Nat.zero_le _, rfl, by go_num⟩
    case round =>
      obtain ⟨j, hj, rfl, rfl⟩ := hrel
      by_cases hlt : j < n
      · have d0 := HC.out j hlt
        obtain ⟨kk, hkk⟩ : ∃ kk : Int, kk = k + j := ⟨_, rfl⟩
        have hk0 : 0 ≤ kk := by omega
        have hk1 : kk ≤ 2000000000 := by omega
        have HE := Lib.hid hkk
        rw [← hkk] at d0 ⊢
        unfold markVBoolS at d0
        clear hkk HC
        go_wp2
        go_round
        case rel => exact ⟨j + 1, by omega, by go_num, by rw [HE.out]; go_num⟩
        case measure => simp [intOf]; omega
      · obtain rfl : j = n := by omega
        go_wp2
        go_ret
        exact ⟨rfl, rfl⟩
end Go.Proofs.Ytbgmjcfnehnicaa

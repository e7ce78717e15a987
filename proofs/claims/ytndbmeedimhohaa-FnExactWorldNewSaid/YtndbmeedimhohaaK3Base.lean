/- Marks with a great bound: ints, bools, shelves, processors, tasks (printed by mkk3.py). -/
import Derived.Test.YtndbmeedimhohaaMem4
import Derived.WalkKit
import Derived.WalkSpells
import Derived.Lib.Hide
namespace Go.Proofs.Ytndbmeedimhohaa
open Go.RowKit
theorem ret_intM {k : IntKind} {a b : Int} (h : a = b) : Ending.returned (.int k a) = .returned (.int k b) := by rw [h]
theorem markStep {α : Type} {F el : Nat → α} {j i : Nat} {v : α} (hv : v = F j) : (if i = j then v else if i < j then F i else el i) = if i < j + 1 then F i else el i := by
  by_cases e : i = j
  · subst e; simp [hv]
  · simp only [if_neg e]
    by_cases h : i < j
    · rw [if_pos h, if_pos (by omega)]
    · rw [if_neg h, if_neg (by omega)]
theorem len4 {α : Type} {l : List α} (h : l.length = 4) : ∃ a b c d, l = [a, b, c, d] := by
  match l, h with
  | [a, b, c, d], _ => exact ⟨a, b, c, d, rfl⟩
theorem len5 {α : Type} {l : List α} (h : l.length = 5) : ∃ a b c d e, l = [a, b, c, d, e] := by
  match l, h with
  | [a, b, c, d, e], _ => exact ⟨a, b, c, d, e, rfl⟩
theorem len9 {α : Type} {l : List α} (h : l.length = 9) : ∃ a b c d e f g i j, l = [a, b, c, d, e, f, g, i, j] := by
  match l, h with
  | [a, b, c, d, e, f, g, i, j], _ => exact ⟨a, b, c, d, e, f, g, i, j, rfl⟩
theorem keptCells {p : Nat → Prop} {a : World} {g : Nat} (hg : p g) : ∀ (vs : List Value) (o : Nat) {b : World}, Kept p a b → Kept p a (b.setCells g o vs)
  | [], _, _, h => h
  | v :: r, o, b, h => keptCells hg r (o + 1) (h.setCell (q := ⟨g, o, none⟩) hg v)

def markVIntS (kk : Int) : Value := .int .i64 kk
set_option maxRecDepth 100000 in
set_option maxHeartbeats 400000 in
theorem markIntS_any (A : Option Addr) (n c B : Nat) (k : Int) (h0 : 0 ≤ k) (hk : k ≤ 1000000000000000) (hn : n ≤ 1048576) (f : Nat → Value) (w : World) (hA : OwnR w B A n f) :
    Calls Try.prog 27 #[.slice A n c, .int .i64 k] w fun e w' => e = .returned (.int .i64 (k + n)) ∧ Kept (fun b => 0 < n ∧ B ≤ b ∧ hd A b) w w' ∧ OwnR w' B A n (fun i => markVIntS (k + i)) := by
  rcases Nat.eq_zero_or_pos n with h1 | h1
  · subst h1
    go_enter Try.func27, Try.ntmps27
    go_wp2
    refine wp_loop_rounds 1 ?_
    rw [rounds_succ]
    go_wp2
    go_ret
    exact ⟨ret_intM (by omega), Kept.refl _ _, fun h => absurd h (by omega)⟩
  · obtain ⟨g, rfl, hB, ho⟩ := hA h1
    have HO := Lib.hid ho
    clear hA ho
    go_enter Try.func27, Try.ntmps27
    go_wp2
    go_loopw [1, 5] (fun t i wr => ∃ j : Nat, j ≤ n ∧ i = .int .i64 j ∧ t = .int .i64 (k + j) ∧ Hid (OwnV wr g n (fun i => if i < j then markVIntS (k + i) else f i)) ∧ Hid (Kept (fun b => 0 < n ∧ B ≤ b ∧ hd (some ⟨g, 0, none⟩) b) w wr)) (fun _ i _ => n - (intOf i).toNat)
    case atStart => exact ⟨0, Nat.zero_le _, rfl, by go_num, HO.out.congr (fun i _ => by simp), Kept.refl _ _⟩
    case round =>
      obtain ⟨j, hj, rfl, rfl, HV, HK⟩ := hrel
      by_cases hlt : j < n
      · have d0 := HV.out.2.1 j hlt
        have d1 := HV.out.2.2 j hlt
        obtain ⟨kk, hkk⟩ : ∃ kk : Int, kk = k + j := ⟨_, rfl⟩
        have hk0 : 0 ≤ kk := by omega
        have hk1 : kk ≤ 2000000000000000 := by omega
        have HN : Hid (OwnV (wr.setCell ⟨g, j, none⟩ (markVIntS kk)) g n (fun i => if i < j + 1 then markVIntS (k + i) else f i)) := (HV.out.put hlt _).congr (fun i _ => markStep (F := fun i => markVIntS (k + i)) (by rw [hkk]))
        have HK2 : Hid (Kept (fun b => 0 < n ∧ B ≤ b ∧ hd (some ⟨g, 0, none⟩) b) w (wr.setCell ⟨g, j, none⟩ (markVIntS kk))) := HK.out.setCell (q := ⟨g, j, none⟩) ⟨h1, hB, 0, rfl⟩ _
        have HE := Lib.hid hkk
        rw [← hkk]
        clear hkk HV HK HO
        go_wp2
        go_roundw
        case rel => exact ⟨j + 1, by omega, by go_num, by rw [HE.out]; go_num, HN, HK2⟩
        case measure => simp [intOf]; omega
      · obtain rfl : j = n := by omega
        go_wp2
        go_ret
        exact ⟨rfl, HK.out, fun _ => ⟨g, rfl, hB, HV.out.congr (fun i hi => by simp [hi])⟩⟩
set_option maxRecDepth 100000 in
set_option maxHeartbeats 400000 in
theorem heldIntS_any (A : Option Addr) (n c : Nat) (k : Int) (h0 : 0 ≤ k) (hk : k ≤ 1000000000000000) (hn : n ≤ 1048576) (w W : World) (hb : Below W.heap.size W w) (hA : Rw W W.heap.size A n (fun i => markVIntS (k + i))) :
    Calls Try.prog 30 #[.slice A n c, .int .i64 k] w fun e w' => e = .returned (.int .i64 (k + n)) ∧ w = w' := by
  rcases Nat.eq_zero_or_pos n with h1 | h1
  · subst h1
    go_enter Try.func30, Try.ntmps30
    go_wp2
    refine wp_loop_rounds 1 ?_
    rw [rounds_succ]
    go_wp2
    go_ret
    exact ⟨ret_intM (by omega), rfl⟩
  · obtain ⟨ga, oa, rfl, hga, hca⟩ := hA.at_ hb h1
    have HC := Lib.hid hca
    clear hca hA
    go_enter Try.func30, Try.ntmps30
    go_wp2
    go_loop [1, 5] (fun t i => ∃ j : Nat, j ≤ n ∧ i = .int .i64 j ∧ t = .int .i64 (k + j)) (fun _ i => n - (intOf i).toNat)
    case atStart => exact ⟨0, Nat.zero_le _, rfl, by go_num⟩
    case round =>
      obtain ⟨j, hj, rfl, rfl⟩ := hrel
      by_cases hlt : j < n
      · have d0 := HC.out j hlt
        obtain ⟨kk, hkk⟩ : ∃ kk : Int, kk = k + j := ⟨_, rfl⟩
        have hk0 : 0 ≤ kk := by omega
        have hk1 : kk ≤ 2000000000000000 := by omega
        have HE := Lib.hid hkk
        rw [← hkk] at d0 ⊢
        unfold markVIntS at d0
        clear hkk HC
        go_wp2
        go_round
        case rel => exact ⟨j + 1, by omega, by go_num, by rw [HE.out]; go_num⟩
        case measure => simp [intOf]; omega
      · obtain rfl : j = n := by omega
        go_wp2
        go_ret
        exact ⟨rfl, rfl⟩

def markVBoolS (kk : Int) : Value := .bool (kk % 3 == 0)
set_option maxRecDepth 100000 in
set_option maxHeartbeats 400000 in
theorem markBoolS_any (A : Option Addr) (n c B : Nat) (k : Int) (h0 : 0 ≤ k) (hk : k ≤ 1000000000000000) (hn : n ≤ 1048576) (f : Nat → Value) (w : World) (hA : OwnR w B A n f) :
    Calls Try.prog 28 #[.slice A n c, .int .i64 k] w fun e w' => e = .returned (.int .i64 (k + n)) ∧ Kept (fun b => 0 < n ∧ B ≤ b ∧ hd A b) w w' ∧ OwnR w' B A n (fun i => markVBoolS (k + i)) := by
  rcases Nat.eq_zero_or_pos n with h1 | h1
  · subst h1
    go_enter Try.func28, Try.ntmps28
    go_wp2
    refine wp_loop_rounds 1 ?_
    rw [rounds_succ]
    go_wp2
    go_ret
    exact ⟨ret_intM (by omega), Kept.refl _ _, fun h => absurd h (by omega)⟩
  · obtain ⟨g, rfl, hB, ho⟩ := hA h1
    have HO := Lib.hid ho
    clear hA ho
    go_enter Try.func28, Try.ntmps28
    go_wp2
    go_loopw [1, 5] (fun t i wr => ∃ j : Nat, j ≤ n ∧ i = .int .i64 j ∧ t = .int .i64 (k + j) ∧ Hid (OwnV wr g n (fun i => if i < j then markVBoolS (k + i) else f i)) ∧ Hid (Kept (fun b => 0 < n ∧ B ≤ b ∧ hd (some ⟨g, 0, none⟩) b) w wr)) (fun _ i _ => n - (intOf i).toNat)
    case atStart => exact ⟨0, Nat.zero_le _, rfl, by go_num, HO.out.congr (fun i _ => by simp), Kept.refl _ _⟩
    case round =>
      obtain ⟨j, hj, rfl, rfl, HV, HK⟩ := hrel
      by_cases hlt : j < n
      · have d0 := HV.out.2.1 j hlt
        have d1 := HV.out.2.2 j hlt
        obtain ⟨kk, hkk⟩ : ∃ kk : Int, kk = k + j := ⟨_, rfl⟩
        have hk0 : 0 ≤ kk := by omega
        have hk1 : kk ≤ 2000000000000000 := by omega
        have HN : Hid (OwnV (wr.setCell ⟨g, j, none⟩ (markVBoolS kk)) g n (fun i => if i < j + 1 then markVBoolS (k + i) else f i)) := (HV.out.put hlt _).congr (fun i _ => markStep (F := fun i => markVBoolS (k + i)) (by rw [hkk]))
        have HK2 : Hid (Kept (fun b => 0 < n ∧ B ≤ b ∧ hd (some ⟨g, 0, none⟩) b) w (wr.setCell ⟨g, j, none⟩ (markVBoolS kk))) := HK.out.setCell (q := ⟨g, j, none⟩) ⟨h1, hB, 0, rfl⟩ _
        have HE := Lib.hid hkk
        rw [← hkk]
        clear hkk HV HK HO
        go_wp2
        go_roundw
        case rel => exact ⟨j + 1, by omega, by go_num, by rw [HE.out]; go_num, HN, HK2⟩
        case measure => simp [intOf]; omega
      · obtain rfl : j = n := by omega
        go_wp2
        go_ret
        exact ⟨rfl, HK.out, fun _ => ⟨g, rfl, hB, HV.out.congr (fun i hi => by simp [hi])⟩⟩
set_option maxRecDepth 100000 in
set_option maxHeartbeats 400000 in
theorem heldBoolS_any (A : Option Addr) (n c : Nat) (k : Int) (h0 : 0 ≤ k) (hk : k ≤ 1000000000000000) (hn : n ≤ 1048576) (w W : World) (hb : Below W.heap.size W w) (hA : Rw W W.heap.size A n (fun i => markVBoolS (k + i))) :
    Calls Try.prog 31 #[.slice A n c, .int .i64 k] w fun e w' => e = .returned (.int .i64 (k + n)) ∧ w = w' := by
  rcases Nat.eq_zero_or_pos n with h1 | h1
  · subst h1
    go_enter Try.func31, Try.ntmps31
    go_wp2
    refine wp_loop_rounds 1 ?_
    rw [rounds_succ]
    go_wp2
    go_ret
    exact ⟨ret_intM (by omega), rfl⟩
  · obtain ⟨ga, oa, rfl, hga, hca⟩ := hA.at_ hb h1
    have HC := Lib.hid hca
    clear hca hA
    go_enter Try.func31, Try.ntmps31
    go_wp2
    go_loop [1, 5] (fun t i => ∃ j : Nat, j ≤ n ∧ i = .int .i64 j ∧ t = .int .i64 (k + j)) (fun _ i => n - (intOf i).toNat)
    case atStart => exact ⟨0, Nat.zero_le _, rfl, by go_num⟩
    case round =>
      obtain ⟨j, hj, rfl, rfl⟩ := hrel
      by_cases hlt : j < n
      · have d0 := HC.out j hlt
        obtain ⟨kk, hkk⟩ : ∃ kk : Int, kk = k + j := ⟨_, rfl⟩
        have hk0 : 0 ≤ kk := by omega
        have hk1 : kk ≤ 2000000000000000 := by omega
        have HE := Lib.hid hkk
        rw [← hkk] at d0 ⊢
        unfold markVBoolS at d0
        clear hkk HC
        go_wp2
        go_round
        case rel => exact ⟨j + 1, by omega, by go_num, by rw [HE.out]; go_num⟩
        case measure => simp [intOf]; omega
      · obtain rfl : j = n := by omega
        go_wp2
        go_ret
        exact ⟨rfl, rfl⟩

def markEShelf (kk : Int) : List Value := [.int .i64 (kk), .bool ((kk + 1) % 3 == 0), .int .i64 (kk + 1 + 1), .int .i64 (kk + 1 + 1 + 1), .int .i64 (kk + 1 + 1 + 1 + 1)]
set_option maxRecDepth 100000 in
set_option maxHeartbeats 1000000 in
theorem markShelfS_any (A : Option Addr) (n c B : Nat) (k : Int) (h0 : 0 ≤ k) (hk : k ≤ 1000000000000000) (hn : n ≤ 1048576) (el : Nat → List Value) (hel : ∀ i, (el i).length = 5) (w : World) (hA : OwnQ w B A n 5 el) :
    Calls Try.prog 29 #[.slice A n c, .int .i64 k] w fun e w' => e = .returned (.int .i64 (k + 5 * n)) ∧ Kept (fun b => 0 < n ∧ B ≤ b ∧ hd A b) w w' ∧ OwnQ w' B A n 5 (fun i => markEShelf (k + 5 * i)) := by
  rcases Nat.eq_zero_or_pos n with h1 | h1
  · subst h1
    go_enter Try.func29, Try.ntmps29
    go_wp2
    refine wp_loop_rounds 1 ?_
    rw [rounds_succ]
    go_wp2
    go_ret
    exact ⟨ret_intM (by omega), Kept.refl _ _, fun h => absurd h (by omega)⟩
  · obtain ⟨g, rfl, hB, ho⟩ := hA h1
    have HO := Lib.hid ho
    clear hA ho
    go_enter Try.func29, Try.ntmps29
    go_wp2
    go_loopw [1, 5] (fun t i wr => ∃ j : Nat, j ≤ n ∧ i = .int .i64 j ∧ t = .int .i64 (k + 5 * j) ∧ Hid (OwnS wr g n 5 (fun i => if i < j then markEShelf (k + 5 * i) else el i)) ∧ Hid (Kept (fun b => 0 < n ∧ B ≤ b ∧ hd (some ⟨g, 0, none⟩) b) w wr)) (fun _ i _ => n - (intOf i).toNat)
    case atStart => exact ⟨0, Nat.zero_le _, rfl, by go_num, HO.out.congr (fun i _ => by simp), Kept.refl _ _⟩
    case round =>
      obtain ⟨j, hj, rfl, rfl, HV, HK⟩ := hrel
      by_cases hlt : j < n
      · have hlj : (el j).length = 5 := hel j
        obtain ⟨u0, u1, u2, u3, u4, huj⟩ : ∃ u0 u1 u2 u3 u4, el j = [u0, u1, u2, u3, u4] := len5 hlj
        have c0 := HV.out.cell j hlt 0 u0 (by simp [huj])
        have c1 := HV.out.cell j hlt 1 u1 (by simp [huj])
        have c2 := HV.out.cell j hlt 2 u2 (by simp [huj])
        have c3 := HV.out.cell j hlt 3 u3 (by simp [huj])
        have c4 := HV.out.cell j hlt 4 u4 (by simp [huj])
        have f0 := HV.out.free j hlt 0 (by omega)
        have f1 := HV.out.free j hlt 1 (by omega)
        have f2 := HV.out.free j hlt 2 (by omega)
        have f3 := HV.out.free j hlt 3 (by omega)
        have f4 := HV.out.free j hlt 4 (by omega)
        simp only [Nat.add_zero] at c0 f0
        obtain ⟨kk, hkk⟩ : ∃ kk : Int, kk = k + 5 * j := ⟨_, rfl⟩
        have hk0 : 0 ≤ kk := by omega
        have hk1 : kk ≤ 2000000000000000 := by omega
        have HN : Hid (OwnS (wr.setCells g (j * 5) (markEShelf kk)) g n 5 (fun i => if i < j + 1 then markEShelf (k + 5 * i) else el i)) := (HV.out.put hlt _ rfl (fun i => by split; rfl; exact hel i)).congr (fun i _ => markStep (F := fun i => markEShelf (k + 5 * i)) (by rw [hkk]))
        have HK2 : Hid (Kept (fun b => 0 < n ∧ B ≤ b ∧ hd (some ⟨g, 0, none⟩) b) w (wr.setCells g (j * 5) (markEShelf kk))) := keptCells (show 0 < n ∧ B ≤ g ∧ hd (some ⟨g, 0, none⟩) g from ⟨h1, hB, 0, rfl⟩) _ _ HK.out
        have HE := Lib.hid hkk
        rw [← hkk]
        clear hkk HV HK HO huj hlj
        go_wp2
        go_roundw
        case rel => exact ⟨j + 1, by omega, by go_num, by rw [HE.out]; go_num, HN, HK2⟩
        case measure => simp [intOf]; omega
      · obtain rfl : j = n := by omega
        go_wp2
        go_ret
        exact ⟨rfl, HK.out, fun _ => ⟨g, rfl, hB, HV.out.congr (fun i hi => by simp [hi])⟩⟩
set_option maxRecDepth 100000 in
set_option maxHeartbeats 1000000 in
theorem heldShelfS_any (A : Option Addr) (n c : Nat) (k : Int) (h0 : 0 ≤ k) (hk : k ≤ 1000000000000000) (hn : n ≤ 1048576) (w W : World) (hb : Below W.heap.size W w) (hA : Rs W W.heap.size A n 5 (fun i => markEShelf (k + 5 * i))) :
    Calls Try.prog 32 #[.slice A n c, .int .i64 k] w fun e w' => e = .returned (.int .i64 (k + 5 * n)) ∧ w = w' := by
  rcases Nat.eq_zero_or_pos n with h1 | h1
  · subst h1
    go_enter Try.func32, Try.ntmps32
    go_wp2
    refine wp_loop_rounds 1 ?_
    rw [rounds_succ]
    go_wp2
    go_ret
    exact ⟨ret_intM (by omega), rfl⟩
  · obtain ⟨ga, oa, rfl, hga, hca⟩ := hA.at_ hb h1
    have HC := Lib.hid hca
    clear hca hA
    go_enter Try.func32, Try.ntmps32
    go_wp2
    go_loop [1, 5] (fun t i => ∃ j : Nat, j ≤ n ∧ i = .int .i64 j ∧ t = .int .i64 (k + 5 * j)) (fun _ i => n - (intOf i).toNat)
    case atStart => exact ⟨0, Nat.zero_le _, rfl, by go_num⟩
    case round =>
      obtain ⟨j, hj, rfl, rfl⟩ := hrel
      by_cases hlt : j < n
      · have hr := HC.out j hlt
        obtain ⟨kk, hkk⟩ : ∃ kk : Int, kk = k + 5 * j := ⟨_, rfl⟩
        have hk0 : 0 ≤ kk := by omega
        have hk1 : kk ≤ 2000000000000000 := by omega
        have HE := Lib.hid hkk
        rw [← hkk] at hr ⊢
        have c0 := hr 0 _ rfl
        have c1 := hr 1 _ rfl
        have c2 := hr 2 _ rfl
        have c3 := hr 3 _ rfl
        have c4 := hr 4 _ rfl
        simp only [Nat.add_zero] at c0
        clear hkk HC hr
        go_wp2
        go_round
        case rel => exact ⟨j + 1, by omega, by go_num, by rw [HE.out]; go_num⟩
        case measure => simp [intOf]; omega
      · obtain rfl : j = n := by omega
        go_wp2
        go_ret
        exact ⟨rfl, rfl⟩

def markECpu (kk : Int) : List Value := [.bool ((kk) % 3 == 0), .int .i64 (kk + 1), .int .i64 (kk + 1 + 1), .int .i64 (kk + 1 + 1 + 1), .int .i64 (kk + 1 + 1 + 1 + 1)]
set_option maxRecDepth 100000 in
set_option maxHeartbeats 1000000 in
theorem markCpuS_any (A : Option Addr) (n c B : Nat) (k : Int) (h0 : 0 ≤ k) (hk : k ≤ 1000000000000000) (hn : n ≤ 1048576) (el : Nat → List Value) (hel : ∀ i, (el i).length = 5) (w : World) (hA : OwnQ w B A n 5 el) :
    Calls Try.prog 16 #[.slice A n c, .int .i64 k] w fun e w' => e = .returned (.int .i64 (k + 5 * n)) ∧ Kept (fun b => 0 < n ∧ B ≤ b ∧ hd A b) w w' ∧ OwnQ w' B A n 5 (fun i => markECpu (k + 5 * i)) := by
  rcases Nat.eq_zero_or_pos n with h1 | h1
  · subst h1
    go_enter Try.func16, Try.ntmps16
    go_wp2
    refine wp_loop_rounds 1 ?_
    rw [rounds_succ]
    go_wp2
    go_ret
    exact ⟨ret_intM (by omega), Kept.refl _ _, fun h => absurd h (by omega)⟩
  · obtain ⟨g, rfl, hB, ho⟩ := hA h1
    have HO := Lib.hid ho
    clear hA ho
    go_enter Try.func16, Try.ntmps16
    go_wp2
    go_loopw [1, 5] (fun t i wr => ∃ j : Nat, j ≤ n ∧ i = .int .i64 j ∧ t = .int .i64 (k + 5 * j) ∧ Hid (OwnS wr g n 5 (fun i => if i < j then markECpu (k + 5 * i) else el i)) ∧ Hid (Kept (fun b => 0 < n ∧ B ≤ b ∧ hd (some ⟨g, 0, none⟩) b) w wr)) (fun _ i _ => n - (intOf i).toNat)
    case atStart => exact ⟨0, Nat.zero_le _, rfl, by go_num, HO.out.congr (fun i _ => by simp), Kept.refl _ _⟩
    case round =>
      obtain ⟨j, hj, rfl, rfl, HV, HK⟩ := hrel
      by_cases hlt : j < n
      · have hlj : (el j).length = 5 := hel j
        obtain ⟨u0, u1, u2, u3, u4, huj⟩ : ∃ u0 u1 u2 u3 u4, el j = [u0, u1, u2, u3, u4] := len5 hlj
        have c0 := HV.out.cell j hlt 0 u0 (by simp [huj])
        have c1 := HV.out.cell j hlt 1 u1 (by simp [huj])
        have c2 := HV.out.cell j hlt 2 u2 (by simp [huj])
        have c3 := HV.out.cell j hlt 3 u3 (by simp [huj])
        have c4 := HV.out.cell j hlt 4 u4 (by simp [huj])
        have f0 := HV.out.free j hlt 0 (by omega)
        have f1 := HV.out.free j hlt 1 (by omega)
        have f2 := HV.out.free j hlt 2 (by omega)
        have f3 := HV.out.free j hlt 3 (by omega)
        have f4 := HV.out.free j hlt 4 (by omega)
        simp only [Nat.add_zero] at c0 f0
        obtain ⟨kk, hkk⟩ : ∃ kk : Int, kk = k + 5 * j := ⟨_, rfl⟩
        have hk0 : 0 ≤ kk := by omega
        have hk1 : kk ≤ 2000000000000000 := by omega
        have HN : Hid (OwnS (wr.setCells g (j * 5) (markECpu kk)) g n 5 (fun i => if i < j + 1 then markECpu (k + 5 * i) else el i)) := (HV.out.put hlt _ rfl (fun i => by split; rfl; exact hel i)).congr (fun i _ => markStep (F := fun i => markECpu (k + 5 * i)) (by rw [hkk]))
        have HK2 : Hid (Kept (fun b => 0 < n ∧ B ≤ b ∧ hd (some ⟨g, 0, none⟩) b) w (wr.setCells g (j * 5) (markECpu kk))) := keptCells (show 0 < n ∧ B ≤ g ∧ hd (some ⟨g, 0, none⟩) g from ⟨h1, hB, 0, rfl⟩) _ _ HK.out
        have HE := Lib.hid hkk
        rw [← hkk]
        clear hkk HV HK HO huj hlj
        go_wp2
        go_roundw
        case rel => exact ⟨j + 1, by omega, by go_num, by rw [HE.out]; go_num, HN, HK2⟩
        case measure => simp [intOf]; omega
      · obtain rfl : j = n := by omega
        go_wp2
        go_ret
        exact ⟨rfl, HK.out, fun _ => ⟨g, rfl, hB, HV.out.congr (fun i hi => by simp [hi])⟩⟩
set_option maxRecDepth 100000 in
set_option maxHeartbeats 1000000 in
theorem heldCpuS_any (A : Option Addr) (n c : Nat) (k : Int) (h0 : 0 ≤ k) (hk : k ≤ 1000000000000000) (hn : n ≤ 1048576) (w W : World) (hb : Below W.heap.size W w) (hA : Rs W W.heap.size A n 5 (fun i => markECpu (k + 5 * i))) :
    Calls Try.prog 19 #[.slice A n c, .int .i64 k] w fun e w' => e = .returned (.int .i64 (k + 5 * n)) ∧ w = w' := by
  rcases Nat.eq_zero_or_pos n with h1 | h1
  · subst h1
    go_enter Try.func19, Try.ntmps19
    go_wp2
    refine wp_loop_rounds 1 ?_
    rw [rounds_succ]
    go_wp2
    go_ret
    exact ⟨ret_intM (by omega), rfl⟩
  · obtain ⟨ga, oa, rfl, hga, hca⟩ := hA.at_ hb h1
    have HC := Lib.hid hca
    clear hca hA
    go_enter Try.func19, Try.ntmps19
    go_wp2
    go_loop [1, 5] (fun t i => ∃ j : Nat, j ≤ n ∧ i = .int .i64 j ∧ t = .int .i64 (k + 5 * j)) (fun _ i => n - (intOf i).toNat)
    case atStart => exact ⟨0, Nat.zero_le _, rfl, by go_num⟩
    case round =>
      obtain ⟨j, hj, rfl, rfl⟩ := hrel
      by_cases hlt : j < n
      · have hr := HC.out j hlt
        obtain ⟨kk, hkk⟩ : ∃ kk : Int, kk = k + 5 * j := ⟨_, rfl⟩
        have hk0 : 0 ≤ kk := by omega
        have hk1 : kk ≤ 2000000000000000 := by omega
        have HE := Lib.hid hkk
        rw [← hkk] at hr ⊢
        have c0 := hr 0 _ rfl
        have c1 := hr 1 _ rfl
        have c2 := hr 2 _ rfl
        have c3 := hr 3 _ rfl
        have c4 := hr 4 _ rfl
        simp only [Nat.add_zero] at c0
        clear hkk HC hr
        go_wp2
        go_round
        case rel => exact ⟨j + 1, by omega, by go_num, by rw [HE.out]; go_num⟩
        case measure => simp [intOf]; omega
      · obtain rfl : j = n := by omega
        go_wp2
        go_ret
        exact ⟨rfl, rfl⟩

def markETask (kk : Int) : List Value := [.int .i64 (kk), .int .i64 (kk + 1), .int .i64 (kk + 1 + 1), .int .i64 (kk + 1 + 1 + 1), .int .i64 (kk + 1 + 1 + 1 + 1), .int .i64 (kk + 1 + 1 + 1 + 1 + 1), .int .i64 (kk + 1 + 1 + 1 + 1 + 1 + 1), .int .i64 (kk + 1 + 1 + 1 + 1 + 1 + 1 + 1), .int .i64 (kk + 1 + 1 + 1 + 1 + 1 + 1 + 1 + 1)]
set_option maxRecDepth 100000 in
set_option maxHeartbeats 1000000 in
theorem markTaskS_any (A : Option Addr) (n c B : Nat) (k : Int) (h0 : 0 ≤ k) (hk : k ≤ 1000000000000000) (hn : n ≤ 1048576) (el : Nat → List Value) (hel : ∀ i, (el i).length = 9) (w : World) (hA : OwnQ w B A n 9 el) :
    Calls Try.prog 17 #[.slice A n c, .int .i64 k] w fun e w' => e = .returned (.int .i64 (k + 9 * n)) ∧ Kept (fun b => 0 < n ∧ B ≤ b ∧ hd A b) w w' ∧ OwnQ w' B A n 9 (fun i => markETask (k + 9 * i)) := by
  rcases Nat.eq_zero_or_pos n with h1 | h1
  · subst h1
    go_enter Try.func17, Try.ntmps17
    go_wp2
    refine wp_loop_rounds 1 ?_
    rw [rounds_succ]
    go_wp2
    go_ret
    exact ⟨ret_intM (by omega), Kept.refl _ _, fun h => absurd h (by omega)⟩
  · obtain ⟨g, rfl, hB, ho⟩ := hA h1
    have HO := Lib.hid ho
    clear hA ho
    go_enter Try.func17, Try.ntmps17
    go_wp2
    go_loopw [1, 5] (fun t i wr => ∃ j : Nat, j ≤ n ∧ i = .int .i64 j ∧ t = .int .i64 (k + 9 * j) ∧ Hid (OwnS wr g n 9 (fun i => if i < j then markETask (k + 9 * i) else el i)) ∧ Hid (Kept (fun b => 0 < n ∧ B ≤ b ∧ hd (some ⟨g, 0, none⟩) b) w wr)) (fun _ i _ => n - (intOf i).toNat)
    case atStart => exact ⟨0, Nat.zero_le _, rfl, by go_num, HO.out.congr (fun i _ => by simp), Kept.refl _ _⟩
    case round =>
      obtain ⟨j, hj, rfl, rfl, HV, HK⟩ := hrel
      by_cases hlt : j < n
      · have hlj : (el j).length = 9 := hel j
        obtain ⟨u0, u1, u2, u3, u4, u5, u6, u7, u8, huj⟩ : ∃ u0 u1 u2 u3 u4 u5 u6 u7 u8, el j = [u0, u1, u2, u3, u4, u5, u6, u7, u8] := len9 hlj
        have c0 := HV.out.cell j hlt 0 u0 (by simp [huj])
        have c1 := HV.out.cell j hlt 1 u1 (by simp [huj])
        have c2 := HV.out.cell j hlt 2 u2 (by simp [huj])
        have c3 := HV.out.cell j hlt 3 u3 (by simp [huj])
        have c4 := HV.out.cell j hlt 4 u4 (by simp [huj])
        have c5 := HV.out.cell j hlt 5 u5 (by simp [huj])
        have c6 := HV.out.cell j hlt 6 u6 (by simp [huj])
        have c7 := HV.out.cell j hlt 7 u7 (by simp [huj])
        have c8 := HV.out.cell j hlt 8 u8 (by simp [huj])
        have f0 := HV.out.free j hlt 0 (by omega)
        have f1 := HV.out.free j hlt 1 (by omega)
        have f2 := HV.out.free j hlt 2 (by omega)
        have f3 := HV.out.free j hlt 3 (by omega)
        have f4 := HV.out.free j hlt 4 (by omega)
        have f5 := HV.out.free j hlt 5 (by omega)
        have f6 := HV.out.free j hlt 6 (by omega)
        have f7 := HV.out.free j hlt 7 (by omega)
        have f8 := HV.out.free j hlt 8 (by omega)
        simp only [Nat.add_zero] at c0 f0
        obtain ⟨kk, hkk⟩ : ∃ kk : Int, kk = k + 9 * j := ⟨_, rfl⟩
        have hk0 : 0 ≤ kk := by omega
        have hk1 : kk ≤ 2000000000000000 := by omega
        have HN : Hid (OwnS (wr.setCells g (j * 9) (markETask kk)) g n 9 (fun i => if i < j + 1 then markETask (k + 9 * i) else el i)) := (HV.out.put hlt _ rfl (fun i => by split; rfl; exact hel i)).congr (fun i _ => markStep (F := fun i => markETask (k + 9 * i)) (by rw [hkk]))
        have HK2 : Hid (Kept (fun b => 0 < n ∧ B ≤ b ∧ hd (some ⟨g, 0, none⟩) b) w (wr.setCells g (j * 9) (markETask kk))) := keptCells (show 0 < n ∧ B ≤ g ∧ hd (some ⟨g, 0, none⟩) g from ⟨h1, hB, 0, rfl⟩) _ _ HK.out
        have HE := Lib.hid hkk
        rw [← hkk]
        clear hkk HV HK HO huj hlj
        go_wp2
        go_roundw
        case rel => exact ⟨j + 1, by omega, by go_num, by rw [HE.out]; go_num, HN, HK2⟩
        case measure => simp [intOf]; omega
      · obtain rfl : j = n := by omega
        go_wp2
        go_ret
        exact ⟨rfl, HK.out, fun _ => ⟨g, rfl, hB, HV.out.congr (fun i hi => by simp [hi])⟩⟩
set_option maxRecDepth 100000 in
set_option maxHeartbeats 1000000 in
theorem heldTaskS_any (A : Option Addr) (n c : Nat) (k : Int) (h0 : 0 ≤ k) (hk : k ≤ 1000000000000000) (hn : n ≤ 1048576) (w W : World) (hb : Below W.heap.size W w) (hA : Rs W W.heap.size A n 9 (fun i => markETask (k + 9 * i))) :
    Calls Try.prog 20 #[.slice A n c, .int .i64 k] w fun e w' => e = .returned (.int .i64 (k + 9 * n)) ∧ w = w' := by
  rcases Nat.eq_zero_or_pos n with h1 | h1
  · subst h1
    go_enter Try.func20, Try.ntmps20
    go_wp2
    refine wp_loop_rounds 1 ?_
    rw [rounds_succ]
    go_wp2
    go_ret
    exact ⟨ret_intM (by omega), rfl⟩
  · obtain ⟨ga, oa, rfl, hga, hca⟩ := hA.at_ hb h1
    have HC := Lib.hid hca
    clear hca hA
    go_enter Try.func20, Try.ntmps20
    go_wp2
    go_loop [1, 5] (fun t i => ∃ j : Nat, j ≤ n ∧ i = .int .i64 j ∧ t = .int .i64 (k + 9 * j)) (fun _ i => n - (intOf i).toNat)
    case atStart => exact ⟨0, Nat.zero_le _, rfl, by go_num⟩
    case round =>
      obtain ⟨j, hj, rfl, rfl⟩ := hrel
      by_cases hlt : j < n
      · have hr := HC.out j hlt
        obtain ⟨kk, hkk⟩ : ∃ kk : Int, kk = k + 9 * j := ⟨_, rfl⟩
        have hk0 : 0 ≤ kk := by omega
        have hk1 : kk ≤ 2000000000000000 := by omega
        have HE := Lib.hid hkk
        rw [← hkk] at hr ⊢
        have c0 := hr 0 _ rfl
        have c1 := hr 1 _ rfl
        have c2 := hr 2 _ rfl
        have c3 := hr 3 _ rfl
        have c4 := hr 4 _ rfl
        have c5 := hr 5 _ rfl
        have c6 := hr 6 _ rfl
        have c7 := hr 7 _ rfl
        have c8 := hr 8 _ rfl
        simp only [Nat.add_zero] at c0
        clear hkk HC hr
        go_wp2
        go_round
        case rel => exact ⟨j + 1, by omega, by go_num, by rw [HE.out]; go_num⟩
        case measure => simp [intOf]; omega
      · obtain rfl : j = n := by omega
        go_wp2
        go_ret
        exact ⟨rfl, rfl⟩
end Go.Proofs.Ytndbmeedimhohaa

/- Draws: the reader of a code; its open and pick. -/
import Derived.Test.YtclepnpdkmcaeaaDoorS1Plain
import Derived.Test.YtclepnpdkmcaeaaDoorMem4
import Derived.WalkKit
import Derived.WalkSpells
import Derived.Lib.Hide
import Derived.Deep.QuietTactic
import Derived.BigQuiet
namespace Go.Proofs.YtclepnpdkmcaeaaDoor
open Go.RowKit
/-- The reader at block g stands at place p; its code is some bytes. -/
def RdAt (w : World) (g : Nat) (p : Int) : Prop :=
  ∃ (A : Option Addr) (n c : Nat) (z : Nat → Int), Bk w g 56 #[.slice A n c, .int .i64 p] ∧ n ≤ 2000 ∧ Rw w g A n (fun i => .int .u8 (z i)) ∧ ∀ i, i < n → 0 ≤ z i ∧ z i ≤ 255
def isG (g : Nat) (k : Nat) : Prop := k = g
theorem RdAt.kept {w w' : World} {g : Nat} {p : Int} {q : Nat → Prop} (h : RdAt w g p) (hk : Kept q w w') (hq : ∀ k, k ≤ g → ¬ q k) : RdAt w' g p := by
  obtain ⟨A, n, c, z, h1, h2, h3, h4⟩ := h
  refine ⟨A, n, c, z, h1.kept hk (hq g (Nat.le_refl _)), h2, fun hn => ?_, h4⟩
  obtain ⟨g', o, ha, hg, hc⟩ := h3 hn
  exact ⟨g', o, ha, hg, fun i hi => cell_kept (hc i hi) hk (hq g' (by omega))⟩
theorem RdAt.below {w w' : World} {g : Nat} {p : Int} (h : RdAt w g p) (hb : Below w.heap.size w w') : RdAt w' g p := by
  have hlt : g < w.heap.size := by obtain ⟨A, n, c, z, h1, _⟩ := h; exact h1.lt
  refine h.kept (q := fun k => w.heap.size ≤ k) ⟨hb.os, hb.tape, hb.output, hb.size, fun k hk hp => hb.block k hk⟩ (fun k hk => by omega)
theorem RdAt.step {w : World} {g : Nat} {p : Int} (h : RdAt w g p) (v : Int) : RdAt (w.setCell ⟨g, 1, none⟩ (.int .i64 v)) g v := by
  obtain ⟨A, n, c, z, h1, h2, h3, h4⟩ := h
  refine ⟨A, n, c, z, h1.put 1 _, h2, fun hn => ?_, h4⟩
  obtain ⟨g', o, ha, hg, hc⟩ := h3 hn
  exact ⟨g', o, ha, hg, fun i hi => (World.cell?_setCell_other _ _ _ _ (by simp [show ¬ g = g' by omega])).trans (hc i hi)⟩
theorem RdAt.drewN {w : World} {g : Nat} {p : Int} (h : RdAt w g p) (m : Nat) : RdAt (w.drewN m) g p := by
  obtain ⟨A, n, c, z, h1, h2, h3, h4⟩ := h
  exact ⟨A, n, c, z, h1.drewN m, h2, h3, h4⟩
/-- What a pick leaves: a number from 0 to m - 1; only the reader's place has changed. -/
def PickP (g : Nat) (p m : Int) (w : World) (e : Ending) (w' : World) : Prop := ∃ v : Int, e = .returned (.int .i64 v) ∧ 0 ≤ v ∧ v < m ∧ RdAt w' g (p + 1) ∧ Kept (isG g) w w'
theorem PickP.mk' {g : Nat} {p m v : Int} {w w' : World} (h1 : 0 ≤ v) (h2 : v < m) (h3 : RdAt w' g (p + 1)) (h4 : Kept (isG g) w w') : PickP g p m w (.returned (.int .i64 v)) w' := ⟨v, rfl, h1, h2, h3, h4⟩
theorem xor_i64 (a b : Nat) (ha : a < 2 ^ 40) (hb : b < 2 ^ 40) : bits .xor .i64 (a : Int) (b : Int) = ((a ^^^ b : Nat) : Int) := by
  have hx : a ^^^ b < 2 ^ 40 := Nat.xor_lt_two_pow ha hb
  have h1 : (BitVec.ofInt 64 (a : Int)).toNat = a := by
    rw [BitVec.ofInt_natCast, BitVec.toNat_ofNat]; exact Nat.mod_eq_of_lt (by omega)
  have h2 : (BitVec.ofInt 64 (b : Int)).toNat = b := by
    rw [BitVec.ofInt_natCast, BitVec.toNat_ofNat]; exact Nat.mod_eq_of_lt (by omega)
  show IntKind.i64.wrap ((BitVec.ofInt 64 (a : Int) ^^^ BitVec.ofInt 64 (b : Int)).toNat : Int) = _
  rw [BitVec.toNat_xor, h1, h2, IntKind.wrap_i64]
  omega
theorem xor_b (a b : Int) (h0 : 0 ≤ a) (h1 : a ≤ 1000000000000) (h2 : 0 ≤ b) (h3 : b ≤ 1000000000000) : 0 ≤ bits .xor .i64 a b ∧ bits .xor .i64 a b ≤ 1099511627776 := by
  have := xor_i64 a.toNat b.toNat (by omega) (by omega)
  rw [show ((a.toNat : Nat) : Int) = a by omega, show ((b.toNat : Nat) : Int) = b by omega] at this
  have hx : a.toNat ^^^ b.toNat < 2 ^ 40 := Nat.xor_lt_two_pow (by omega) (by omega)
  rw [this]
  omega
theorem emod_b (a m : Int) (hm : 1 ≤ m) : 0 ≤ a % m ∧ a % m < m := ⟨Int.emod_nonneg _ (by omega), Int.emod_lt_of_pos _ (by omega)⟩
set_option maxRecDepth 100000 in
set_option maxHeartbeats 2000000 in
theorem pick_any (g : Nat) (p m : Int) (hp0 : 0 ≤ p) (hp : p ≤ 1000000000) (hm0 : 1 ≤ m) (hm : m ≤ 1000000) (w : World) (h : RdAt w g p) :
    Calls Tryd.prog 25 #[.pointer (some ⟨g, 0, none⟩), .int .i64 m] w (PickP g p m w) := by
  have HR := Lib.hid (h.step (p + 1))
  have HK : Hid (Kept (isG g) w (w.setCell ⟨g, 1, none⟩ (.int .i64 (p + 1)))) := Kept.setCell (p := isG g) (Kept.refl _ w) (q := ⟨g, 1, none⟩) (show isG g g from rfl) _
  obtain ⟨A, n, c, z, h1, h2, h3, h4⟩ := h
  have b0 := h1.cell 0
  have b1 := h1.cell 1
  simp only [List.getElem?_toArray, List.getElem?_cons_zero, List.getElem?_cons_succ] at b0 b1
  have bf := h1.frees
  clear h1
  rcases Nat.eq_zero_or_pos n with hn | hn
  · subst hn
    go_enter Tryd.func25, Tryd.ntmps25
    go_wp2
    go_ret
    exact PickP.mk' (by omega) (by omega) HR.out HK.out
  obtain ⟨ga, oa, rfl, hga, hc⟩ := h3 hn
  have hne : ((n : Int) == 0) = false := by simp; omega
  by_cases hk : p < (n : Int)
  · have d0 : w.cell? ⟨ga, oa + p.toNat, none⟩ = some (.int .u8 (z p.toNat)) := hc p.toNat (by omega)
    obtain ⟨z0, z1⟩ := h4 p.toNat (by omega)
    generalize z p.toNat = zz at *
    obtain ⟨m0, m1⟩ := emod_b zz m hm0
    clear h4 hc
    go_enter Tryd.func25, Tryd.ntmps25
    go_wp2
    go_ret
    exact PickP.mk' m0 m1 HR.out HK.out
  · have hk' : decide (p < (n : Int)) = false := by simpa using hk
    have nn0 : 1 ≤ (n : Int) := by omega
    have nn1 : (n : Int) ≤ 2000 := by omega
    obtain ⟨i1, e1⟩ : ∃ i1, i1 = p % (n : Int) := ⟨_, rfl⟩
    obtain ⟨i2, e2⟩ : ∃ i2, i2 = (p * 7 + 3) % (n : Int) := ⟨_, rfl⟩
    obtain ⟨q1, e3⟩ : ∃ q1, q1 = p / (n : Int) := ⟨_, rfl⟩
    obtain ⟨u0, u1⟩ := emod_b p n nn0
    obtain ⟨u2, u3⟩ := emod_b (p * 7 + 3) n nn0
    have u4 : 0 ≤ p / (n : Int) := Int.ediv_nonneg hp0 (by omega)
    have u5 : p / (n : Int) ≤ p := Int.ediv_le_self _ hp0
    rw [← e1] at u0 u1
    rw [← e2] at u2 u3
    rw [← e3] at u4 u5
    have d1 : w.cell? ⟨ga, oa + i1.toNat, none⟩ = some (.int .u8 (z i1.toNat)) := hc i1.toNat (by omega)
    have d2 : w.cell? ⟨ga, oa + i2.toNat, none⟩ = some (.int .u8 (z i2.toNat)) := hc i2.toNat (by omega)
    obtain ⟨z0, z1⟩ := h4 i1.toNat (by omega)
    obtain ⟨z2, z3⟩ := h4 i2.toNat (by omega)
    generalize z i1.toNat = y1 at *
    generalize z i2.toNat = y2 at *
    have t1 : p.tmod (n : Int) = i1 := by rw [e1]; exact Int.tmod_eq_emod_of_nonneg hp0
    have t2 : (p * 7 + 3).tmod (n : Int) = i2 := by rw [e2]; exact Int.tmod_eq_emod_of_nonneg (by omega)
    have t3 : p.tdiv (n : Int) = q1 := by rw [e3]; exact Int.tdiv_eq_ediv_of_nonneg hp0
    clear e1 e2 e3 h4 hc hk
    go_enter Tryd.func25, Tryd.ntmps25
    go_wp2
    go_quiet (fail)
    obtain ⟨X, hX⟩ : ∃ X, X = y1 * 131 + y2 * 1117 + p * 29 + q1 * 53 := ⟨_, rfl⟩
    have x0 : 0 ≤ X := by omega
    have x1 : X ≤ 1000000000000 := by omega
    rw [← hX]
    clear hX t1 t2 t3 d1 d2 b0 b1 bf
    obtain ⟨v0, v1⟩ := xor_b X (X / 64) x0 x1 (by omega) (by omega)
    go_wp2
    go_ret
    obtain ⟨m0, m1⟩ := emod_b (bits .xor .i64 X (X / 64)) m hm0
    exact PickP.mk' m0 m1 (HR.out.drewN _) (HK.out.drewN _)
set_option maxHeartbeats 400000 in
theorem l20Open_any (A : Option Addr) (n c : Nat) (hn : (n : Int) ≤ 1048576) (hc : n ≤ c) (hc2 : (c : Int) ≤ 9223372036854775807) (z : Nat → Int) (w W : World) (hb : Below W.heap.size W w) (hA : Rw W W.heap.size A n (fun i => .int .u8 (z i))) (hz : ∀ i, i < n → 0 ≤ z i ∧ z i ≤ 255) :
    Calls Tryd.prog 24 #[.slice A n c] w fun e w' => e = .returned (.pointer (some ⟨w.heap.size, 0, none⟩)) ∧ RdAt w' w.heap.size 0 ∧ Below w.heap.size w w' := by
  have HA := Lib.hid (hA.at_ hb)
  have HZ := Lib.hid hz
  clear hA hz
  by_cases h1 : (n : Int) > 2000
  · obtain ⟨g, o, rfl, hg, hcc⟩ := HA.out (by omega)
    have h2 : (2000 : Int) ≤ (c : Int) := by omega
    have HC := Lib.hid hcc
    clear hcc
    go_enter Tryd.func24, Tryd.ntmps24
    go_wp2
    go_ret
    refine ⟨rfl, ⟨_, 2000, c, z, Bk.new w _ _, Nat.le_refl _, fun _ => ⟨g, o, rfl, hg, fun i hi => ?_⟩, fun i hi => HZ.out i (by omega)⟩, (Below.refl _ w).alloc (Nat.le_refl _) _⟩
    exact (Below.cell (p := ⟨g, o + i, none⟩) ((Below.refl _ w).alloc (Nat.le_refl _) _) hg).trans (HC.out i (by omega))
  · go_enter Tryd.func24, Tryd.ntmps24
    go_wp2
    go_ret
    exact ⟨rfl, ⟨A, n, c, z, Bk.new w _ _, by omega, HA.out.below ((Below.refl _ w).alloc (Nat.le_refl _) _), HZ.out⟩, (Below.refl _ w).alloc (Nat.le_refl _) _⟩
end Go.Proofs.YtclepnpdkmcaeaaDoor

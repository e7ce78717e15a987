/- Trees: what is used, how deep: the reference's. -/
import Derived.Test.YtclloljigdmdnaaG5Base
import Derived.Test.YtclloljigdmdnaaS5Base
import Derived.Test.YtclloljigdmdnaaGPPlain
namespace Go.Proofs.Ytclloljigdmdnaa
open Go.RowKit
/-- The slice with head A and n groups: which are used, whose kids they are, how they are called. -/
def TRd (w : World) (B : Nat) (A : Option Addr) (n : Nat) (us : Nat → Bool) (pa : Nat → Int) (nm : Nat → ByteArray) : Prop :=
  0 < n → ∃ g o, A = some ⟨g, o, none⟩ ∧ g < B ∧ ∀ i, i < n → w.cell? ⟨g, o + i * 14, none⟩ = some (.bool (us i)) ∧ w.cell? ⟨g, o + i * 14 + 1, none⟩ = some (.int .i64 (pa i)) ∧ w.cell? ⟨g, o + i * 14 + 2, none⟩ = some (.string (nm i))
theorem TRd.below {w w' : World} {B n : Nat} {A : Option Addr} {us : Nat → Bool} {pa : Nat → Int} {nm : Nat → ByteArray} (r : TRd w B A n us pa nm) (hb : Below B w w') : TRd w' B A n us pa nm := fun hn => by
  obtain ⟨g, o, ha, hg, hc⟩ := r hn
  refine ⟨g, o, ha, hg, fun i hi => ?_⟩
  obtain ⟨h0, h1, h2⟩ := hc i hi
  exact ⟨(hb.cell (p := ⟨g, _, none⟩) hg).trans h0, (hb.cell (p := ⟨g, _, none⟩) hg).trans h1, (hb.cell (p := ⟨g, _, none⟩) hg).trans h2⟩
theorem TRd.more {w : World} {B B' n : Nat} {A : Option Addr} {us : Nat → Bool} {pa : Nat → Int} {nm : Nat → ByteArray} (r : TRd w B A n us pa nm) (hB : B ≤ B') : TRd w B' A n us pa nm := fun hn => by
  obtain ⟨g, o, ha, hg, hc⟩ := r hn
  exact ⟨g, o, ha, by omega, hc⟩
theorem TRd.at_ {W w : World} {n : Nat} {A : Option Addr} {us : Nat → Bool} {pa : Nat → Int} {nm : Nat → ByteArray} (r : TRd W W.heap.size A n us pa nm) (hb : Below W.heap.size W w) : TRd w w.heap.size A n us pa nm := (r.below hb).more hb.size
theorem GsRd.trd {w : World} {B n : Nat} {A : Option Addr} {g : Nat → GV} {h : Nat → GH} (r : GsRd w B A n g h) : TRd w B A n (fun i => (g i).us) (fun i => (g i).pa) (fun i => (g i).nm) := fun hn => by
  obtain ⟨b, o, ha, hg, hc⟩ := r.r hn
  exact ⟨b, o, ha, hg, fun i hi => ⟨hc i hi 0 _ rfl, hc i hi 1 _ rfl, hc i hi 2 _ rfl⟩⟩
theorem sUsed_any (A : Option Addr) (n c : Nat) (hn : n ≤ 1048576) (us : Nat → Bool) (pa : Nat → Int) (nm : Nat → ByteArray) (g : Int) (w : World) (hT : TRd w w.heap.size A n us pa nm) :
    Calls Try.prog 32 #[.slice A n c, .int .i64 g] w fun e w' => e = .returned (.bool (usedB us n g)) ∧ w = w' := by
  by_cases h1 : 0 ≤ g
  · by_cases h2 : g < n
    · obtain ⟨k, rfl⟩ := Int.eq_ofNat_of_zero_le h1
      have hk : k < n := by omega
      obtain ⟨ga, oa, rfl, hga, hc⟩ := hT (by omega)
      obtain ⟨c0, _, _⟩ := hc k hk
      clear hc hT
      rw [usedB_nat hk]
      go_enter Try.func32, Try.ntmps32
      go_wp2
      go_ret
      exact ⟨rfl, rfl⟩
    · have : usedB us n g = false := by simp [usedB]; omega
      rw [this]
      clear this hT
      go_enter Try.func32, Try.ntmps32
      go_wp2
      go_ret
      exact ⟨rfl, rfl⟩
  · have : usedB us n g = false := by simp [usedB]; omega
    rw [this]
    clear this hT
    go_enter Try.func32, Try.ntmps32
    go_wp2
    go_ret
    exact ⟨rfl, rfl⟩
theorem depEnd {us : Nat → Bool} {pa : Nat → Int} {n : Nat} {D : Int} {k : Nat} {x : Int} (h : D = if dep us pa n (n + 1 - k) x < 0 then -1 else k + dep us pa n (n + 1 - k) x) (hk : k = n + 1) : D = -1 := by
  subst hk
  simpa [dep] using h
theorem depNo {us : Nat → Bool} {pa : Nat → Int} {n : Nat} {D : Int} {k : Nat} {x : Int} (h : D = if dep us pa n (n + 1 - k) x < 0 then -1 else k + dep us pa n (n + 1 - k) x) (hu : usedB us n x = false) : D = -1 := by
  rw [dep_unused hu] at h
  simpa using h
theorem depRoot {us : Nat → Bool} {pa : Nat → Int} {n : Nat} {D : Int} {k : Nat} (h : D = if dep us pa n (n + 1 - k) 0 < 0 then -1 else k + dep us pa n (n + 1 - k) 0) (hk : k < n + 1) (hu : usedB us n 0 = true) : D = k := by
  rw [dep_zero hu _ (by omega)] at h
  simpa using h
theorem depGo {us : Nat → Bool} {pa : Nat → Int} {n : Nat} {D : Int} {k : Nat} {x : Int} (h : D = if dep us pa n (n + 1 - k) x < 0 then -1 else k + dep us pa n (n + 1 - k) x) (hk : k < n + 1) (hu : usedB us n x = true) (hx : x ≠ 0) :
    D = if dep us pa n (n + 1 - (k + 1)) (pa x.toNat) < 0 then -1 else ((k + 1 : Nat) : Int) + dep us pa n (n + 1 - (k + 1)) (pa x.toNat) := by
  rw [show n + 1 - k = (n + 1 - (k + 1)) + 1 by omega, dep_step hu hx] at h
  rw [h]
  have := (dep_lt (u := us) (p := pa) (n := n) (n + 1 - (k + 1)) (pa x.toNat)).2
  split
  · rfl
  · rw [if_neg (by omega)]; omega
set_option maxHeartbeats 1000000 in
theorem sDepth_any (A : Option Addr) (n c : Nat) (hn : n ≤ 1048576) (us : Nat → Bool) (pa : Nat → Int) (nm : Nat → ByteArray) (g : Int) (w : World) (hT : TRd w w.heap.size A n us pa nm) :
    Calls Try.prog 28 #[.slice A n c, .int .i64 g] w fun e w' => e = .returned (.int .i64 (dep us pa n (n + 1) g)) ∧ w = w' := by
  have HT := Lib.hid hT
  clear hT
  have h0 : dep us pa n (n + 1) g = if dep us pa n (n + 1 - 0) g < 0 then -1 else ((0 : Nat) : Int) + dep us pa n (n + 1 - 0) g := by
    have := (dep_lt (u := us) (p := pa) (n := n) (n + 1) g).2
    simp only [Nat.sub_zero]
    split <;> omega
  obtain ⟨D, hD0⟩ : ∃ D, D = dep us pa n (n + 1) g := ⟨_, rfl⟩
  rw [← hD0]
  have h0 : D = if dep us pa n (n + 1 - 0) g < 0 then -1 else ((0 : Nat) : Int) + dep us pa n (n + 1 - 0) g := hD0.trans h0
  clear hD0
  have H0 := Lib.hid h0
  clear h0
  go_enter Try.func28, Try.ntmps28
  go_wp2
  go_loop [1, 5] (fun j i => ∃ (k : Nat) (x : Int), k ≤ n + 1 ∧ i = .int .i64 k ∧ j = .int .i64 x ∧ Hid (D = if dep us pa n (n + 1 - k) x < 0 then -1 else k + dep us pa n (n + 1 - k) x)) (fun _ i => n + 1 - (intOf i).toNat)
  case atStart => exact ⟨0, g, by omega, rfl, rfl, H0⟩
  case round =>
    obtain ⟨k, x, hk, rfl, rfl, HD⟩ := hrel
    clear H0
    by_cases hlt : k < n + 1
    · cases hu : usedB us n x
      · have hD := Lib.hid (depNo HD.out hu)
        go_wp2_with (go_at_call 32; refine (sUsed_any A n c hn us pa nm x w HT.out).mono ?_; rintro e w' ⟨rfl, rfl⟩)
        go_ret
        exact ⟨ret_intB hD.out.symm, rfl⟩
      · by_cases hx : x = 0
        · subst hx
          have hD := Lib.hid (depRoot HD.out hlt hu)
          go_wp2_with (go_at_call 32; refine (sUsed_any A n c hn us pa nm 0 w HT.out).mono ?_; rintro e w' ⟨rfl, rfl⟩)
          go_ret
          exact ⟨ret_intB hD.out.symm, rfl⟩
        · have hD := Lib.hid (depGo HD.out hlt hu hx)
          obtain ⟨h1, h2, _⟩ := usedB_iff.1 hu
          obtain ⟨j, rfl⟩ := Int.eq_ofNat_of_zero_le h1
          obtain ⟨ga, oa, rfl, hga, hc⟩ := HT.out (by omega)
          obtain ⟨_, c1, _⟩ := hc j (by omega)
          clear hc
          go_wp2_with (go_at_call 32; refine (sUsed_any _ n c hn us pa nm j w HT.out).mono ?_; rintro e w' ⟨rfl, rfl⟩)
          go_round
          case rel => exact ⟨k + 1, pa j, by omega, by go_num, rfl, hD⟩
          case measure => simp [intOf]; omega
    · have hD := Lib.hid (depEnd HD.out (by omega))
      go_wp2
      go_ret
      exact ⟨ret_intB hD.out.symm, rfl⟩
end Go.Proofs.Ytclloljigdmdnaa

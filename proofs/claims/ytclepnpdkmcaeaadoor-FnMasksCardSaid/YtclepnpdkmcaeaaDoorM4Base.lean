/- Masks: the draws; what the law of masks says, plainly. -/
import Derived.Test.YtclepnpdkmcaeaaDoorM3Base
import Derived.Test.YtclepnpdkmcaeaaDoorD2Base
namespace Go.Proofs.YtclepnpdkmcaeaaDoor
open Go.RowKit
def drawnTexts : List ByteArray := [⟨#[]⟩, ⟨#[48]⟩, ⟨#[51]⟩, ⟨#[52]⟩, ⟨#[48, 45, 51]⟩, ⟨#[48, 45, 49, 44, 51]⟩, ⟨#[48, 44, 49]⟩, ⟨#[49, 45, 48]⟩, ⟨#[48, 45, 48]⟩, ⟨#[32, 48]⟩, ⟨#[48, 44]⟩, ⟨#[50, 45, 51]⟩, ⟨#[48, 44, 50]⟩, ⟨#[48, 45, 49, 44, 50, 45, 51]⟩, ⟨#[45, 49]⟩, ⟨#[49, 44, 51]⟩]
theorem textAt (L : List ByteArray) (i : Nat) (h : i < L.length) : ∃ t, (L.map Value.string).toArray[i]? = some (.string t) :=
  ⟨L[i], by simp [h]⟩
theorem l20Open_m (A : Option Addr) (n c : Nat) (hn : (n : Int) ≤ 1048576) (hc : n ≤ c) (hc2 : (c : Int) ≤ 9223372036854775807) (z : Nat → Int) (w W : World) (hb : Below W.heap.size W w) (hA : Rw W W.heap.size A n (fun i => .int .u8 (z i))) (hz : ∀ i, i < n → 0 ≤ z i ∧ z i ≤ 255) :
    Calls Tryd.prog 24 #[.slice A n c] w fun e w' => ∃ g, e = .returned (.pointer (some ⟨g, 0, none⟩)) ∧ w.heap.size ≤ g ∧ RdAt w' g 0 ∧ Below w.heap.size w w' := by
  refine (l20Open_any A n c hn hc hc2 z w W hb hA hz).mono ?_
  rintro e w' ⟨rfl, h1, h2⟩
  exact ⟨_, rfl, Nat.le_refl _, h1, h2⟩
set_option maxHeartbeats 1000000 in
theorem drawMaskAnd_any (A : Option Addr) (n c : Nat) (hn : (n : Int) ≤ 1048576) (hc : n ≤ c) (hc2 : (c : Int) ≤ 9223372036854775807) (z : Nat → Int) (w W : World) (hb : Below W.heap.size W w) (hA : Rw W W.heap.size A n (fun i => .int .u8 (z i))) (hz : ∀ i, i < n → 0 ≤ z i ∧ z i ≤ 255) :
    Calls Tryd.prog 10 #[.slice A n c] w fun e w' => ∃ a b : Int, e = .returned (.tuple #[.int .i64 a, .int .i64 b]) ∧ -2 ≤ a ∧ a ≤ 17 ∧ -2 ≤ b ∧ b ≤ 17 ∧ Below w.heap.size w w' := by
  have HA := Lib.hid hA
  have HZ := Lib.hid hz
  clear hA hz
  go_enter Tryd.func10, Tryd.ntmps10
  go_wp2_with fail
  refine (l20Open_m A n c hn hc hc2 z w W hb HA.out HZ.out).mono ?_
  rintro e w1 ⟨g, rfl, hg, hr1, hb1⟩
  have HB1 := Lib.hid hb1
  have HR1 := Lib.hid hr1
  have hz1 := hb1.size
  clear hb1 hr1 HA HZ
  go_wp2_with fail
  refine (pick_any g 0 20 (by omega) (by omega) (by omega) (by omega) w1 HR1.out).mono ?_
  rintro e w2 ⟨v, rfl, v0, v1, hr2, hk2⟩
  have HB2 := Lib.hid (HB1.out.trans (hk2.below (B := w.heap.size) hz1 (fun k e => by unfold isG at e; omega)))
  have HR2 := Lib.hid hr2
  have hz2 := hk2.size
  clear hr2 hk2 HB1 HR1
  go_wp2_with fail
  refine (pick_any g (0 + 1) 20 (by omega) (by omega) (by omega) (by omega) w2 HR2.out).mono ?_
  rintro e w3 ⟨x, rfl, x0, x1, hr3, hk3⟩
  have HB3 := Lib.hid (HB2.out.trans (hk3.below (B := w.heap.size) (by omega) (fun k e => by unfold isG at e; omega)))
  clear hr3 hk3 HB2 HR2
  go_wp2
  refine bodyPost_ret (v := .tuple #[.int .i64 (v - 2), .int .i64 (x - 2)]) (by simp [results, Tryd.results10, go_sem]) rfl ?_
  exact ⟨v - 2, x - 2, rfl, by omega, by omega, by omega, by omega, HB3.out⟩
set_option maxHeartbeats 1000000 in
theorem drawMaskRead_any (A : Option Addr) (n c : Nat) (hn : (n : Int) ≤ 1048576) (hc : n ≤ c) (hc2 : (c : Int) ≤ 9223372036854775807) (z : Nat → Int) (w W : World) (hb : Below W.heap.size W w) (hA : Rw W W.heap.size A n (fun i => .int .u8 (z i))) (hz : ∀ i, i < n → 0 ≤ z i ∧ z i ≤ 255) :
    Calls Tryd.prog 17 #[.slice A n c] w fun e w' => ∃ t : ByteArray, e = .returned (.string t) ∧ Below w.heap.size w w' := by
  have HA := Lib.hid hA
  have HZ := Lib.hid hz
  clear hA hz
  go_enter Tryd.func17, Tryd.ntmps17
  go_wp2_with fail
  refine (l20Open_m A n c hn hc hc2 z w W hb HA.out HZ.out).mono ?_
  rintro e w1 ⟨g, rfl, hg, hr1, hb1⟩
  have HB1 := Lib.hid hb1
  have HR1 := Lib.hid hr1
  have hz1 := hb1.size
  clear hb1 hr1 HA HZ
  go_wp2_with fail
  refine (pick_any g 0 2 (by omega) (by omega) (by omega) (by omega) w1 HR1.out).mono ?_
  rintro e w2 ⟨v, rfl, v0, v1, hr2, hk2⟩
  have HB2 := Lib.hid (HB1.out.trans (hk2.below (B := w.heap.size) hz1 (fun k e => by unfold isG at e; omega)))
  have HR2 := Lib.hid hr2
  have hz2 := hk2.size
  clear hr2 hk2 HB1 HR1
  by_cases hv : v = 0
  · subst hv
    go_wp2_with fail
    refine (pick_any g (0 + 1) 16 (by omega) (by omega) (by omega) (by omega) w2 HR2.out).mono ?_
    rintro e w3 ⟨x, rfl, x0, x1, hr3, hk3⟩
    have HB3 := Lib.hid (HB2.out.trans (hk3.below (B := w.heap.size) (by omega) (fun k e => by unfold isG at e; omega)))
    clear hr3 hk3 HB2 HR2
    go_wp2_with fail
    refine (sMaskText_any x w3 w3 (Below.refl _ _)).mono ?_
    rintro e w4 ⟨rfl, hb4⟩
    have HB4 := Lib.hid (HB3.out.trans (hb4.mono HB3.out.size))
    clear hb4 HB3
    go_wp2
    go_ret
    exact ⟨_, rfl, HB4.out⟩
  · obtain rfl : v = 1 := by omega
    have HK : Hid (Bk (w2.alloc (.cells (drawnTexts.map Value.string).toArray 9)) w2.heap.size 9 (drawnTexts.map Value.string).toArray) := Bk.new _ _ _
    have HR : Hid (RdAt (w2.alloc (.cells (drawnTexts.map Value.string).toArray 9)) g (0 + 1)) := HR2.out.below ((Below.refl _ _).alloc (Nat.le_refl _) _)
    have HBa : Hid (Below w.heap.size w (w2.alloc (.cells (drawnTexts.map Value.string).toArray 9))) := HB2.out.alloc (by omega) _
    have hgz : g < w2.heap.size := by obtain ⟨_, _, _, _, h1, _⟩ := HR2.out; exact h1.lt
    clear HR2 HB2
    go_wp2_with fail
    refine (pick_any g (0 + 1) 16 (by omega) (by omega) (by omega) (by omega) _ HR.out).mono ?_
    rintro e w3 ⟨x, rfl, x0, x1, hr3, hk3⟩
    have HB3 := Lib.hid (HBa.out.trans (hk3.below (B := w.heap.size) (by simp; omega) (fun k e => by unfold isG at e; omega)))
    have hk := HK.out.kept hk3 (fun e => by unfold isG at e; omega)
    obtain ⟨t, ht⟩ := textAt drawnTexts x.toNat (by show x.toNat < 16; omega)
    have hc := (hk.cell x.toNat).trans ht
    have hlt : x < 16 := by omega
    clear hr3 hk3 HBa HR HK hk ht
    go_wp2
    go_ret
    exact ⟨_, rfl, HB3.out⟩
theorem readUp_text (s : ByteArray) : ∀ (n : Nat) (k : Int), 0 < readUp s n k → 1 ≤ k → maskText (readUp s n k) = s
  | 0, k, h, _ => by simp [readUp] at h
  | n + 1, k, h, hk => by
    by_cases e : maskText k = s
    · rw [readUp_yes e]; exact e
    · rw [readUp_no e] at h ⊢
      exact readUp_text s n (k + 1) h (by omega)
theorem all20 {p : Int → Prop} (h : ∀ i : Fin 20, p ((i.val : Int) - 2)) (a : Int) (h0 : -2 ≤ a) (h1 : a ≤ 17) : p a := by
  have e : (((a + 2).toNat : Nat) : Int) - 2 = a := by omega
  rw [← e]
  exact h ⟨(a + 2).toNat, by omega⟩
theorem and_facts (a b : Int) (a0 : -2 ≤ a) (a1 : a ≤ 17) (b0 : -2 ≤ b) (b1 : b ≤ 17) : maskCount (maskAnd a b) ≤ maskCount a ∧ maskAnd b a = maskAnd a b :=
  all20 (p := fun a => maskCount (maskAnd a b) ≤ maskCount a ∧ maskAnd b a = maskAnd a b) (fun i => all20 (p := fun b => maskCount (maskAnd ((i.val : Int) - 2) b) ≤ maskCount ((i.val : Int) - 2) ∧ maskAnd b ((i.val : Int) - 2) = maskAnd ((i.val : Int) - 2) b) (by revert i; decide +kernel) b b0 b1) a a0 a1
theorem read_facts (a : Int) (a0 : -2 ≤ a) (a1 : a ≤ 17) : (decide (0 < maskRead (maskText a)) = (decide (0 < a) && inR a 0 15)) ∧ (0 < maskRead (maskText a) → maskRead (maskText a) = a) ∧ (decide (0 ≤ maskFirst a) = (decide (0 < a) && inR a 0 15)) ∧ (0 < maskRead (maskText a) → maskHas a (maskFirst a) = true) :=
  all20 (p := fun a => (decide (0 < maskRead (maskText a)) = (decide (0 < a) && inR a 0 15)) ∧ (0 < maskRead (maskText a) → maskRead (maskText a) = a) ∧ (decide (0 ≤ maskFirst a) = (decide (0 < a) && inR a 0 15)) ∧ (0 < maskRead (maskText a) → maskHas a (maskFirst a) = true)) (by decide +kernel) a a0 a1
end Go.Proofs.YtclepnpdkmcaeaaDoor

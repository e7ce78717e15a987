/- DrawDecayBeats: three numbers. Printed by mkdd.py. -/
import Derived.Test.YtbpggefdcpemkaaR0Base
import Derived.RegionTactic
import Derived.ProofKit
import Derived.Deep.RegionWith
import Derived.Deep.DeepCutAuto
namespace Go.Proofs.Ytbpggefdcpemkaa
open Go.RowKit
def ddS (j : Nat) : Nat := if j < 23 then j + 8 else j - 21
def ddT (j : Nat) : Ty := [.P, .I 0 99, .P, .I 0 72057594037927935, .I 0 7999999, .R 4 0 8000001, .P, .I 0 3, .A 0 8000001, .I 0 8000001, .P, .I 0 199, .P, .I 0 72057594037927935, .I 0 999999, .R 4 0 1000000, .P, .I 0 3, .A 0 1000000, .I 0 1000000, .P, .I 0 23, .I (-1) 22, .I 0 8000001, .I 0 1000000, .I (-1) 22].getD j .P
def DDP (w : World) (e : Ending) (w' : World) : Prop := ∃ a b c : Int, e = .returned (.tuple #[.int .i64 a, .int .i64 b, .int .i64 c]) ∧ 0 ≤ a ∧ a ≤ 8000001 ∧ 0 ≤ b ∧ b ≤ 1000000 ∧ -1 ≤ c ∧ c ≤ 22 ∧ Below w.heap.size w w'
set_option maxRecDepth 100000 in
set_option maxHeartbeats 4000000 in
theorem drawDecayBeats_any (A : Option Addr) (n c : Nat) (hn : (n : Int) ≤ 1048576) (hc : n ≤ c) (hc2 : (c : Int) ≤ 9223372036854775807) (z : Nat → Int) (w W : World) (hb : Below W.heap.size W w) (hA : Rw W W.heap.size A n (fun i => .int .u8 (z i))) (hz : ∀ i, i < n → 0 ≤ z i ∧ z i ≤ 255) :
    Calls Try.prog 4 #[.slice A n c] w (DDP w) := by
  have HA := Lib.hid hA
  have HZ := Lib.hid hz
  clear hA hz
  go_enter Try.func4, Try.ntmps4
  go_wp2_with fail
  refine (l20Open_any A n c hn hc hc2 z w W hb HA.out HZ.out).mono ?_
  rintro e w1 ⟨rfl, hr1, hb1⟩
  have HR1 := Lib.hid hr1
  have HB1 := Lib.hid hb1
  clear hr1 hb1
  go_upto_region 2 with fail
  refine region_fr (by kernel_rfl) [8, 9, 10, 11, 12, 13, 14, 15, 16, 17, 18, 19, 20, 21, 22, 23, 24, 25, 26, 27, 28, 29, 30, 2, 3, 4] (fun a0 => a0.tmps.size = 31 ∧ a0.tmps[5]? = some (.pointer (some ⟨w.heap.size, 0, none⟩))) (fun l xs w' => DI w.heap.size 26 w ddS (fun j v x => (ddT j).holds w.heap.size v x) l xs w') ⟨by rfl, by rfl⟩ ?_ ?_ (by kernel_rfl) ?_
  · exact fun xs => DI.start HB1.out (by omega) (by omega) HR1.out
  · rintro a0 b xs l wc ⟨e0, e5⟩ fr d i hi
    have hlt := ready_lt hi
    have hnl := (mem_ready.1 hi).1
    have t5 := fr.ex (s := 5) (by decide) e5
    have hst : ∀ (x : World), Kept (isG w.heap.size) wc x → ∀ j v, j < 26 → (ddT j).holds w.heap.size v wc → (ddT j).holds w.heap.size v x := fun x hx j v _ h => Ty.keep h hx
    have hcs : i = 0 ∨ i = 1 ∨ i = 2 ∨ i = 3 ∨ i = 4 ∨ i = 5 ∨ i = 6 ∨ i = 7 ∨ i = 8 ∨ i = 9 ∨ i = 10 ∨ i = 11 ∨ i = 12 ∨ i = 13 ∨ i = 14 ∨ i = 15 ∨ i = 16 ∨ i = 17 ∨ i = 18 ∨ i = 19 ∨ i = 20 ∨ i = 21 ∨ i = 22 ∨ i = 23 ∨ i = 24 ∨ i = 25 := by have : i < 26 := hlt; omega
    clear hlt
    rcases hcs with rfl | rfl | rfl | rfl | rfl | rfl | rfl | rfl | rfl | rfl | rfl | rfl | rfl | rfl | rfl | rfl | rfl | rfl | rfl | rfl | rfl | rfl | rfl | rfl | rfl | rfl
    · refine wpOp_step rfl (fun K hK => ?_)
      go_simp
      refine hK _ _ ⟨_, fr.put (s := 8) (by decide) _, d.same (i := 0) (Nat.le_refl _) (hst _ (Kept.refl _ _)) hnl (by decide) (Kept.refl _ _) (fun _ h => h) (v := _) (show (ddT 0).holds _ _ _ from rfl)⟩
    · refine wpOp_step rfl (fun K hK => ?_)
      have h8 : (.P : Ty).holds w.heap.size (xs 8) wc := d.at_ 0 (by decide) (ready_seen (k := 0) hi (by kernel_rfl))
      have t8 : b.tmps[8]? = some (xs 8) := fr.in_ (s := 8) (by decide) (by omega)
      rw [show xs 8 = _ from h8] at t8
      obtain ⟨p, p0, p1, p2, hr⟩ := d.room
      go_simp
      refine (pick_any w.heap.size p 100 (by omega) (by omega) (by omega) (by omega) wc hr).mono ?_
      rintro e w2 ⟨v, rfl, v0, v1, hr2, hk2⟩
      refine hK _ _ ⟨_, fr.put (s := 9) (by decide) _, d.put (i := 1) (Nat.le_refl _) (hst _ hk2) hnl (by decide) hk2 p0 p2 (by omega) (by omega) hr2 (v := _) (show (ddT 1).holds _ _ _ from ⟨v, rfl, by omega, by omega⟩)⟩
    · refine wpOp_step rfl (fun K hK => ?_)
      go_simp
      refine hK _ _ ⟨_, fr.put (s := 10) (by decide) _, d.same (i := 2) (Nat.le_refl _) (hst _ (Kept.refl _ _)) hnl (by decide) (Kept.refl _ _) (fun _ h => h) (v := _) (show (ddT 2).holds _ _ _ from rfl)⟩
    · refine wpOp_step rfl (fun K hK => ?_)
      have h10 : (.P : Ty).holds w.heap.size (xs 10) wc := d.at_ 2 (by decide) (ready_seen (k := 2) hi (by kernel_rfl))
      have t10 : b.tmps[10]? = some (xs 10) := fr.in_ (s := 10) (by decide) (by omega)
      rw [show xs 10 = _ from h10] at t10
      obtain ⟨p, p0, p1, p2, hr⟩ := d.room
      go_simp
      refine (big_any w.heap.size p (by omega) (by omega) wc hr).mono ?_
      rintro e w2 ⟨v, rfl, v0, v1, hr2, hk2⟩
      refine hK _ _ ⟨_, fr.put (s := 11) (by decide) _, d.put (i := 3) (Nat.le_refl _) (hst _ hk2) hnl (by decide) hk2 p0 p2 (by omega) (by omega) hr2 (v := _) (show (ddT 3).holds _ _ _ from ⟨v, rfl, by omega, by omega⟩)⟩
    · refine wpOp_step rfl (fun K hK => ?_)
      have h11 : (.I 0 72057594037927935 : Ty).holds w.heap.size (xs 11) wc := d.at_ 3 (by decide) (ready_seen (k := 3) hi (by kernel_rfl))
      have t11 : b.tmps[11]? = some (xs 11) := fr.in_ (s := 11) (by decide) (by omega)
      obtain ⟨x11, hx11, l11, u11⟩ := h11
      rw [hx11] at t11
      obtain ⟨m0, m1⟩ := rem_t x11 8000000 l11 (by omega)
      go_simp
      refine hK _ _ ⟨_, fr.put (s := 12) (by decide) _, d.same (i := 4) (Nat.le_refl _) (hst _ (Kept.refl _ _)) hnl (by decide) (Kept.refl _ _) (fun _ h => h) (v := _) (show (ddT 4).holds _ _ _ from ⟨_, rfl, by omega, by omega⟩)⟩
    · refine wpOp_step rfl (fun K hK => ?_)
      have h9 : (.I 0 99 : Ty).holds w.heap.size (xs 9) wc := d.at_ 1 (by decide) (ready_seen (k := 1) hi (by kernel_rfl))
      have t9 : b.tmps[9]? = some (xs 9) := fr.in_ (s := 9) (by decide) (by omega)
      obtain ⟨x9, hx9, l9, u9⟩ := h9
      rw [hx9] at t9
      have h12 : (.I 0 7999999 : Ty).holds w.heap.size (xs 12) wc := d.at_ 4 (by decide) (ready_seen (k := 4) hi (by kernel_rfl))
      have t12 : b.tmps[12]? = some (xs 12) := fr.in_ (s := 12) (by decide) (by omega)
      obtain ⟨x12, hx12, l12, u12⟩ := h12
      rw [hx12] at t12
      have hgl : w.heap.size < wc.heap.size := by obtain ⟨p, _, _, hr⟩ := d.rd; exact hr.lt'
      go_simp
      refine hK _ _ ⟨_, fr.put (s := 13) (by decide) _, d.same (i := 5) (Nat.le_refl _) (hst _ ((Kept.refl _ _).alloc _)) hnl (by decide) ((Kept.refl _ _).alloc _) (fun _ h => h.below ((Below.refl _ _).alloc (Nat.le_refl _) _)) (v := _) (show (ddT 5).holds _ _ _ from ⟨_, rfl, by omega, row4 _ _ (by omega) (by omega) (by omega) (by omega) (by omega) (by omega) (by omega) (by omega)⟩)⟩
    · refine wpOp_step rfl (fun K hK => ?_)
      go_simp
      refine hK _ _ ⟨_, fr.put (s := 14) (by decide) _, d.same (i := 6) (Nat.le_refl _) (hst _ (Kept.refl _ _)) hnl (by decide) (Kept.refl _ _) (fun _ h => h) (v := _) (show (ddT 6).holds _ _ _ from rfl)⟩
    · refine wpOp_step rfl (fun K hK => ?_)
      have h14 : (.P : Ty).holds w.heap.size (xs 14) wc := d.at_ 6 (by decide) (ready_seen (k := 6) hi (by kernel_rfl))
      have t14 : b.tmps[14]? = some (xs 14) := fr.in_ (s := 14) (by decide) (by omega)
      rw [show xs 14 = _ from h14] at t14
      obtain ⟨p, p0, p1, p2, hr⟩ := d.room
      go_simp
      refine (pick_any w.heap.size p 4 (by omega) (by omega) (by omega) (by omega) wc hr).mono ?_
      rintro e w2 ⟨v, rfl, v0, v1, hr2, hk2⟩
      refine hK _ _ ⟨_, fr.put (s := 15) (by decide) _, d.put (i := 7) (Nat.le_refl _) (hst _ hk2) hnl (by decide) hk2 p0 p2 (by omega) (by omega) hr2 (v := _) (show (ddT 7).holds _ _ _ from ⟨v, rfl, by omega, by omega⟩)⟩
    · refine wpOp_step rfl (fun K hK => ?_)
      have h13 : (.R 4 0 8000001 : Ty).holds w.heap.size (xs 13) wc := d.at_ 5 (by decide) (ready_seen (k := 5) hi (by kernel_rfl))
      have t13 : b.tmps[13]? = some (xs 13) := fr.in_ (s := 13) (by decide) (by omega)
      obtain ⟨g13, hx13, ne13, cs13⟩ := h13
      rw [hx13] at t13
      have h15 : (.I 0 3 : Ty).holds w.heap.size (xs 15) wc := d.at_ 7 (by decide) (ready_seen (k := 7) hi (by kernel_rfl))
      have t15 : b.tmps[15]? = some (xs 15) := fr.in_ (s := 15) (by decide) (by omega)
      obtain ⟨x15, hx15, l15, u15⟩ := h15
      rw [hx15] at t15
      obtain ⟨y, y0, y1, hy⟩ := cs13 x15.toNat (by omega)
      have hlt : x15 < 4 := by omega
      go_simp
      refine hK _ _ ⟨_, fr.put (s := 16) (by decide) _, d.same (i := 8) (Nat.le_refl _) (hst _ (Kept.refl _ _)) hnl (by decide) (Kept.refl _ _) (fun _ h => h) (v := _) (show (ddT 8).holds _ _ _ from ⟨_, _, y, rfl, ne13, by omega, by omega, by simpa using hy⟩)⟩
    · refine wpOp_step rfl (fun K hK => ?_)
      have h16 : (.A 0 8000001 : Ty).holds w.heap.size (xs 16) wc := d.at_ 8 (by decide) (ready_seen (k := 8) hi (by kernel_rfl))
      have t16 : b.tmps[16]? = some (xs 16) := fr.in_ (s := 16) (by decide) (by omega)
      obtain ⟨g16, o16, x16, hx16, ne16, l16, u16, cs16⟩ := h16
      rw [hx16] at t16
      go_simp
      refine hK _ _ ⟨_, fr.put (s := 17) (by decide) _, d.same (i := 9) (Nat.le_refl _) (hst _ (Kept.refl _ _)) hnl (by decide) (Kept.refl _ _) (fun _ h => h) (v := _) (show (ddT 9).holds _ _ _ from ⟨_, rfl, by omega, by omega⟩)⟩
    · refine wpOp_step rfl (fun K hK => ?_)
      go_simp
      refine hK _ _ ⟨_, fr.put (s := 18) (by decide) _, d.same (i := 10) (Nat.le_refl _) (hst _ (Kept.refl _ _)) hnl (by decide) (Kept.refl _ _) (fun _ h => h) (v := _) (show (ddT 10).holds _ _ _ from rfl)⟩
    · refine wpOp_step rfl (fun K hK => ?_)
      have h18 : (.P : Ty).holds w.heap.size (xs 18) wc := d.at_ 10 (by decide) (ready_seen (k := 10) hi (by kernel_rfl))
      have t18 : b.tmps[18]? = some (xs 18) := fr.in_ (s := 18) (by decide) (by omega)
      rw [show xs 18 = _ from h18] at t18
      obtain ⟨p, p0, p1, p2, hr⟩ := d.room
      go_simp
      refine (pick_any w.heap.size p 200 (by omega) (by omega) (by omega) (by omega) wc hr).mono ?_
      rintro e w2 ⟨v, rfl, v0, v1, hr2, hk2⟩
      refine hK _ _ ⟨_, fr.put (s := 19) (by decide) _, d.put (i := 11) (Nat.le_refl _) (hst _ hk2) hnl (by decide) hk2 p0 p2 (by omega) (by omega) hr2 (v := _) (show (ddT 11).holds _ _ _ from ⟨v, rfl, by omega, by omega⟩)⟩
    · refine wpOp_step rfl (fun K hK => ?_)
      go_simp
      refine hK _ _ ⟨_, fr.put (s := 20) (by decide) _, d.same (i := 12) (Nat.le_refl _) (hst _ (Kept.refl _ _)) hnl (by decide) (Kept.refl _ _) (fun _ h => h) (v := _) (show (ddT 12).holds _ _ _ from rfl)⟩
    · refine wpOp_step rfl (fun K hK => ?_)
      have h20 : (.P : Ty).holds w.heap.size (xs 20) wc := d.at_ 12 (by decide) (ready_seen (k := 12) hi (by kernel_rfl))
      have t20 : b.tmps[20]? = some (xs 20) := fr.in_ (s := 20) (by decide) (by omega)
      rw [show xs 20 = _ from h20] at t20
      obtain ⟨p, p0, p1, p2, hr⟩ := d.room
      go_simp
      refine (big_any w.heap.size p (by omega) (by omega) wc hr).mono ?_
      rintro e w2 ⟨v, rfl, v0, v1, hr2, hk2⟩
      refine hK _ _ ⟨_, fr.put (s := 21) (by decide) _, d.put (i := 13) (Nat.le_refl _) (hst _ hk2) hnl (by decide) hk2 p0 p2 (by omega) (by omega) hr2 (v := _) (show (ddT 13).holds _ _ _ from ⟨v, rfl, by omega, by omega⟩)⟩
    · refine wpOp_step rfl (fun K hK => ?_)
      have h21 : (.I 0 72057594037927935 : Ty).holds w.heap.size (xs 21) wc := d.at_ 13 (by decide) (ready_seen (k := 13) hi (by kernel_rfl))
      have t21 : b.tmps[21]? = some (xs 21) := fr.in_ (s := 21) (by decide) (by omega)
      obtain ⟨x21, hx21, l21, u21⟩ := h21
      rw [hx21] at t21
      obtain ⟨m0, m1⟩ := rem_t x21 1000000 l21 (by omega)
      go_simp
      refine hK _ _ ⟨_, fr.put (s := 22) (by decide) _, d.same (i := 14) (Nat.le_refl _) (hst _ (Kept.refl _ _)) hnl (by decide) (Kept.refl _ _) (fun _ h => h) (v := _) (show (ddT 14).holds _ _ _ from ⟨_, rfl, by omega, by omega⟩)⟩
    · refine wpOp_step rfl (fun K hK => ?_)
      have h19 : (.I 0 199 : Ty).holds w.heap.size (xs 19) wc := d.at_ 11 (by decide) (ready_seen (k := 11) hi (by kernel_rfl))
      have t19 : b.tmps[19]? = some (xs 19) := fr.in_ (s := 19) (by decide) (by omega)
      obtain ⟨x19, hx19, l19, u19⟩ := h19
      rw [hx19] at t19
      have h22 : (.I 0 999999 : Ty).holds w.heap.size (xs 22) wc := d.at_ 14 (by decide) (ready_seen (k := 14) hi (by kernel_rfl))
      have t22 : b.tmps[22]? = some (xs 22) := fr.in_ (s := 22) (by decide) (by omega)
      obtain ⟨x22, hx22, l22, u22⟩ := h22
      rw [hx22] at t22
      have hgl : w.heap.size < wc.heap.size := by obtain ⟨p, _, _, hr⟩ := d.rd; exact hr.lt'
      go_simp
      refine hK _ _ ⟨_, fr.put (s := 23) (by decide) _, d.same (i := 15) (Nat.le_refl _) (hst _ ((Kept.refl _ _).alloc _)) hnl (by decide) ((Kept.refl _ _).alloc _) (fun _ h => h.below ((Below.refl _ _).alloc (Nat.le_refl _) _)) (v := _) (show (ddT 15).holds _ _ _ from ⟨_, rfl, by omega, row4 _ _ (by omega) (by omega) (by omega) (by omega) (by omega) (by omega) (by omega) (by omega)⟩)⟩
    · refine wpOp_step rfl (fun K hK => ?_)
      go_simp
      refine hK _ _ ⟨_, fr.put (s := 24) (by decide) _, d.same (i := 16) (Nat.le_refl _) (hst _ (Kept.refl _ _)) hnl (by decide) (Kept.refl _ _) (fun _ h => h) (v := _) (show (ddT 16).holds _ _ _ from rfl)⟩
    · refine wpOp_step rfl (fun K hK => ?_)
      have h24 : (.P : Ty).holds w.heap.size (xs 24) wc := d.at_ 16 (by decide) (ready_seen (k := 16) hi (by kernel_rfl))
      have t24 : b.tmps[24]? = some (xs 24) := fr.in_ (s := 24) (by decide) (by omega)
      rw [show xs 24 = _ from h24] at t24
      obtain ⟨p, p0, p1, p2, hr⟩ := d.room
      go_simp
      refine (pick_any w.heap.size p 4 (by omega) (by omega) (by omega) (by omega) wc hr).mono ?_
      rintro e w2 ⟨v, rfl, v0, v1, hr2, hk2⟩
      refine hK _ _ ⟨_, fr.put (s := 25) (by decide) _, d.put (i := 17) (Nat.le_refl _) (hst _ hk2) hnl (by decide) hk2 p0 p2 (by omega) (by omega) hr2 (v := _) (show (ddT 17).holds _ _ _ from ⟨v, rfl, by omega, by omega⟩)⟩
    · refine wpOp_step rfl (fun K hK => ?_)
      have h23 : (.R 4 0 1000000 : Ty).holds w.heap.size (xs 23) wc := d.at_ 15 (by decide) (ready_seen (k := 15) hi (by kernel_rfl))
      have t23 : b.tmps[23]? = some (xs 23) := fr.in_ (s := 23) (by decide) (by omega)
      obtain ⟨g23, hx23, ne23, cs23⟩ := h23
      rw [hx23] at t23
      have h25 : (.I 0 3 : Ty).holds w.heap.size (xs 25) wc := d.at_ 17 (by decide) (ready_seen (k := 17) hi (by kernel_rfl))
      have t25 : b.tmps[25]? = some (xs 25) := fr.in_ (s := 25) (by decide) (by omega)
      obtain ⟨x25, hx25, l25, u25⟩ := h25
      rw [hx25] at t25
      obtain ⟨y, y0, y1, hy⟩ := cs23 x25.toNat (by omega)
      have hlt : x25 < 4 := by omega
      go_simp
      refine hK _ _ ⟨_, fr.put (s := 26) (by decide) _, d.same (i := 18) (Nat.le_refl _) (hst _ (Kept.refl _ _)) hnl (by decide) (Kept.refl _ _) (fun _ h => h) (v := _) (show (ddT 18).holds _ _ _ from ⟨_, _, y, rfl, ne23, by omega, by omega, by simpa using hy⟩)⟩
    · refine wpOp_step rfl (fun K hK => ?_)
      have h26 : (.A 0 1000000 : Ty).holds w.heap.size (xs 26) wc := d.at_ 18 (by decide) (ready_seen (k := 18) hi (by kernel_rfl))
      have t26 : b.tmps[26]? = some (xs 26) := fr.in_ (s := 26) (by decide) (by omega)
      obtain ⟨g26, o26, x26, hx26, ne26, l26, u26, cs26⟩ := h26
      rw [hx26] at t26
      go_simp
      refine hK _ _ ⟨_, fr.put (s := 27) (by decide) _, d.same (i := 19) (Nat.le_refl _) (hst _ (Kept.refl _ _)) hnl (by decide) (Kept.refl _ _) (fun _ h => h) (v := _) (show (ddT 19).holds _ _ _ from ⟨_, rfl, by omega, by omega⟩)⟩
    · refine wpOp_step rfl (fun K hK => ?_)
      go_simp
      refine hK _ _ ⟨_, fr.put (s := 28) (by decide) _, d.same (i := 20) (Nat.le_refl _) (hst _ (Kept.refl _ _)) hnl (by decide) (Kept.refl _ _) (fun _ h => h) (v := _) (show (ddT 20).holds _ _ _ from rfl)⟩
    · refine wpOp_step rfl (fun K hK => ?_)
      have h28 : (.P : Ty).holds w.heap.size (xs 28) wc := d.at_ 20 (by decide) (ready_seen (k := 20) hi (by kernel_rfl))
      have t28 : b.tmps[28]? = some (xs 28) := fr.in_ (s := 28) (by decide) (by omega)
      rw [show xs 28 = _ from h28] at t28
      obtain ⟨p, p0, p1, p2, hr⟩ := d.room
      go_simp
      refine (pick_any w.heap.size p 24 (by omega) (by omega) (by omega) (by omega) wc hr).mono ?_
      rintro e w2 ⟨v, rfl, v0, v1, hr2, hk2⟩
      refine hK _ _ ⟨_, fr.put (s := 29) (by decide) _, d.put (i := 21) (Nat.le_refl _) (hst _ hk2) hnl (by decide) hk2 p0 p2 (by omega) (by omega) hr2 (v := _) (show (ddT 21).holds _ _ _ from ⟨v, rfl, by omega, by omega⟩)⟩
    · refine wpOp_step rfl (fun K hK => ?_)
      have h29 : (.I 0 23 : Ty).holds w.heap.size (xs 29) wc := d.at_ 21 (by decide) (ready_seen (k := 21) hi (by kernel_rfl))
      have t29 : b.tmps[29]? = some (xs 29) := fr.in_ (s := 29) (by decide) (by omega)
      obtain ⟨x29, hx29, l29, u29⟩ := h29
      rw [hx29] at t29
      go_simp
      rw [IntKind.wrap_i64]
      refine hK _ _ ⟨_, fr.put (s := 30) (by decide) _, d.same (i := 22) (Nat.le_refl _) (hst _ (Kept.refl _ _)) hnl (by decide) (Kept.refl _ _) (fun _ h => h) (v := _) (show (ddT 22).holds _ _ _ from ⟨_, rfl, by omega, by omega⟩)⟩
    · refine wpOp_step rfl (fun K hK => ?_)
      have h17 : (.I 0 8000001 : Ty).holds w.heap.size (xs 17) wc := d.at_ 9 (by decide) (ready_seen (k := 9) hi (by kernel_rfl))
      have t17 : b.tmps[17]? = some (xs 17) := fr.in_ (s := 17) (by decide) (by omega)
      obtain ⟨x17, hx17, l17, u17⟩ := h17
      rw [hx17] at t17
      go_simp
      refine hK _ _ ⟨_, fr.put (s := 2) (by decide) _, d.same (i := 23) (Nat.le_refl _) (hst _ (Kept.refl _ _)) hnl (by decide) (Kept.refl _ _) (fun _ h => h) (v := _) (show (ddT 23).holds _ _ _ from ⟨_, rfl, by omega, by omega⟩)⟩
    · refine wpOp_step rfl (fun K hK => ?_)
      have h27 : (.I 0 1000000 : Ty).holds w.heap.size (xs 27) wc := d.at_ 19 (by decide) (ready_seen (k := 19) hi (by kernel_rfl))
      have t27 : b.tmps[27]? = some (xs 27) := fr.in_ (s := 27) (by decide) (by omega)
      obtain ⟨x27, hx27, l27, u27⟩ := h27
      rw [hx27] at t27
      go_simp
      refine hK _ _ ⟨_, fr.put (s := 3) (by decide) _, d.same (i := 24) (Nat.le_refl _) (hst _ (Kept.refl _ _)) hnl (by decide) (Kept.refl _ _) (fun _ h => h) (v := _) (show (ddT 24).holds _ _ _ from ⟨_, rfl, by omega, by omega⟩)⟩
    · refine wpOp_step rfl (fun K hK => ?_)
      have h30 : (.I (-1) 22 : Ty).holds w.heap.size (xs 30) wc := d.at_ 22 (by decide) (ready_seen (k := 22) hi (by kernel_rfl))
      have t30 : b.tmps[30]? = some (xs 30) := fr.in_ (s := 30) (by decide) (by omega)
      obtain ⟨x30, hx30, l30, u30⟩ := h30
      rw [hx30] at t30
      go_simp
      refine hK _ _ ⟨_, fr.put (s := 4) (by decide) _, d.same (i := 25) (Nat.le_refl _) (hst _ (Kept.refl _ _)) hnl (by decide) (Kept.refl _ _) (fun _ h => h) (v := _) (show (ddT 25).holds _ _ _ from ⟨_, rfl, by omega, by omega⟩)⟩
  · rintro xs l wc d hall
    obtain ⟨x2, hx2, l2, u2⟩ : (.I 0 8000001 : Ty).holds w.heap.size (xs 2) wc := d.at_ 23 (by decide) (hall 23 (by decide))
    obtain ⟨x3, hx3, l3, u3⟩ : (.I 0 1000000 : Ty).holds w.heap.size (xs 3) wc := d.at_ 24 (by decide) (hall 24 (by decide))
    obtain ⟨x4, hx4, l4, u4⟩ : (.I (-1) 22 : Ty).holds w.heap.size (xs 4) wc := d.at_ 25 (by decide) (hall 25 (by decide))
    have HB := Lib.hid d.bel
    clear d hall
    simp only [List.foldl_cons, List.foldl_nil, List.setIfInBounds_toArray, List.set_cons_succ, List.set_cons_zero, hx2, hx3, hx4]
    go_wp2_with fail
    go_ret3
    exact ⟨_, _, _, rfl, by omega, by omega, by omega, by omega, by omega, by omega, HB.out⟩
end Go.Proofs.Ytbpggefdcpemkaa

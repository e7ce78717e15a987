/- GoodBand: a new band, and operations. Printed by mkgb.py. -/
import Derived.Test.YtbgmjcfnehnicaaT2Base
import Derived.Laws.AppendOwn
import Derived.Deep.AppendLies
namespace Go.Proofs.Ytbgmjcfnehnicaa
open Go.RowKit
theorem keptB {B : Nat} {w w' : World} (h : Below B w w') : Kept (fun k => B ≤ k) w w' := ⟨h.os, h.tape, h.output, h.size, fun k _ hp => h.block k (by omega)⟩
theorem infoOp : (Try.prog.info? 44).map (fun i => (i.zero, i.size, i.bytes)) = some (some (.agg #[.int .i64 0, .int .i64 0, .int .i64 0]), 3, 24) := by kernel_rfl
theorem grown_belowT {w w' : World} {row : Option Nat} {B : Nat} (h : w.grownBy w' row) (hB : B ≤ w.heap.size) (hr : ∀ k, row = some k → B ≤ k) : Below B w w' :=
  ⟨h.os, h.tape, h.output, h.size, fun k hk => h.block k (Nat.lt_of_lt_of_le hk hB) (fun e => absurd (hr k e.symm) (by omega))⟩
/-- Operations of numbers in bounds. -/
def OpsIn (m : Nat) (el : Nat → List Value) : Prop := (∀ i, (el i).length = 3) ∧ ∀ i, i < m → ∃ a b c : Int, el i = [.int .i64 a, .int .i64 b, .int .i64 c] ∧ -1 ≤ a ∧ a ≤ 5 ∧ -1 ≤ b ∧ b ≤ 3 ∧ -1 ≤ c ∧ c ≤ 21
theorem OpsIn.add {m : Nat} {el : Nat → List Value} (h : OpsIn m el) (a b c : Int) (a0 : -1 ≤ a) (a1 : a ≤ 5) (b0 : -1 ≤ b) (b1 : b ≤ 3) (c0 : -1 ≤ c) (c1 : c ≤ 21) : OpsIn (m + 1) (fun i => if i = m then [.int .i64 a, .int .i64 b, .int .i64 c] else el i) := by
  refine ⟨fun i => ?_, fun i hi => ?_⟩
  · show (if i = m then [Value.int .i64 a, .int .i64 b, .int .i64 c] else el i).length = 3
    split
    · rfl
    · exact h.1 i
  · show ∃ a' b' c' : Int, (if i = m then [Value.int .i64 a, .int .i64 b, .int .i64 c] else el i) = _ ∧ _
    split
    · exact ⟨a, b, c, rfl, a0, a1, b0, b1, c0, c1⟩
    · exact h.2 i (by omega)
theorem flat_put (m : Nat) (el : Nat → List Value) (v : List Value) : flat (m + 1) (fun i => if i = m then v else el i) = flat m el ++ v := by
  rw [flat_succ]
  congr 1
  · unfold flat
    rw [List.flatMap_def, List.flatMap_def]
    congr 1
    refine List.map_congr_left fun i hi => ?_
    rw [if_neg (by have := List.mem_range.1 hi; omega)]
  · simp
/-- What GoodBand returns, and what of it lies in memory. -/
def GBP (w : World) (e : Ending) (w' : World) : Prop :=
  ∃ (q : Int) (n gl cl gd cd m c : Nat) (A : Option Addr) (el : Nat → List Value), e = .returned (.tuple #[.agg #[.int .i64 q, .int .i64 q, .int .i64 0, .slice (some ⟨gl, 0, none⟩) n cl, .slice (some ⟨gd, 0, none⟩) n cd], .slice A m c]) ∧ 1 ≤ q ∧ q ≤ 10000 ∧ 1 ≤ n ∧ n ≤ 4 ∧ m ≤ 60 ∧
    OwnV w' gl n (fun _ => .int .i64 0) ∧ OwnV w' gd n (fun _ => .bool false) ∧ gl ≠ gd ∧ w.heap.size ≤ gl ∧ w.heap.size ≤ gd ∧ Rs w' w'.heap.size A m 3 el ∧ OpsIn m el ∧ Below w.heap.size w w'
theorem l20Open_g (A : Option Addr) (n c : Nat) (hn : (n : Int) ≤ 1048576) (hc : n ≤ c) (hc2 : (c : Int) ≤ 9223372036854775807) (z : Nat → Int) (w W : World) (hb : Below W.heap.size W w) (hA : Rw W W.heap.size A n (fun i => .int .u8 (z i))) (hz : ∀ i, i < n → 0 ≤ z i ∧ z i ≤ 255) :
    Calls Try.prog 38 #[.slice A n c] w fun e w' => ∃ g, e = .returned (.pointer (some ⟨g, 0, none⟩)) ∧ w.heap.size ≤ g ∧ RdAt w' g 0 ∧ Below w.heap.size w w' := by
  refine (l20Open_any A n c hn hc hc2 z w W hb hA hz).mono ?_
  rintro e w' ⟨rfl, h1, h2⟩
  exact ⟨_, rfl, Nat.le_refl _, h1, h2⟩
set_option maxRecDepth 100000 in
set_option maxHeartbeats 4000000 in
theorem goodBand_any (A : Option Addr) (n c : Nat) (hn : (n : Int) ≤ 1048576) (hc : n ≤ c) (hc2 : (c : Int) ≤ 9223372036854775807) (z : Nat → Int) (w W : World) (hb : Below W.heap.size W w) (hA : Rw W W.heap.size A n (fun i => .int .u8 (z i))) (hz : ∀ i, i < n → 0 ≤ z i ∧ z i ≤ 255) :
    Calls Try.prog 20 #[.slice A n c] w (GBP w) := by
  have HA := Lib.hid hA
  have HZ := Lib.hid hz
  clear hA hz
  obtain ⟨wa, hwa⟩ : ∃ wa : World, wa = w.alloc (.cells zB 25) := ⟨_, rfl⟩
  have HBa : Hid (Below w.heap.size w wa) := by rw [hwa]; exact (Below.refl _ _).alloc (Nat.le_refl _) _
  have HKa : Hid (Bk wa w.heap.size 25 zB) := by rw [hwa]; exact Bk.new _ _ _
  have hza : wa.heap.size = w.heap.size + 1 := by rw [hwa]; simp
  go_enter Try.func20, Try.ntmps20
  go_wp2_with fail
  refine (l20Open_g A n c hn hc hc2 z _ W (hb.alloc hb.size _) HA.out HZ.out).mono ?_
  rintro e w1 ⟨g, rfl, hg, hr1, hb1⟩
  have HR1 := Lib.hid hr1
  have HB1 : Hid (Below wa.heap.size wa w1) := by rw [hwa]; exact hb1
  have hg : wa.heap.size ≤ g := by rw [hwa]; exact hg
  clear hr1 hb1 HA HZ
  clear hwa
  go_upto_region 2 with fail
  refine region_fr (by kernel_rfl) [13, 14, 15, 16, 17, 18, 19, 20, 21, 12, 22, 23, 5, 6] (fun a0 => a0.tmps.size = 38 ∧ a0.tmps[4]? = some (.pointer (some ⟨g, 0, none⟩))) (fun l xs w' => ∃ hv, DV g 15 wa gbS gbT 12 13 10 hv l xs w') ⟨by rfl, by rfl⟩ ?_ ?_ (by kernel_rfl) ?_
  · exact fun xs => ⟨none, DV.start HB1.out (by omega) (by omega) HR1.out⟩
  · rintro a0 b xs l wc ⟨e0, e5⟩ fr ⟨hv, d⟩ i hi
    have hlt := ready_lt hi
    have hnl := (mem_ready.1 hi).1
    have t4 := fr.ex (s := 4) (by decide) e5
    have hcs : i = 0 ∨ i = 1 ∨ i = 2 ∨ i = 3 ∨ i = 4 ∨ i = 5 ∨ i = 6 ∨ i = 7 ∨ i = 8 ∨ i = 9 ∨ i = 10 ∨ i = 11 ∨ i = 12 ∨ i = 13 ∨ i = 14 := by have : i < 15 := hlt; omega
    clear hlt
    rcases hcs with rfl | rfl | rfl | rfl | rfl | rfl | rfl | rfl | rfl | rfl | rfl | rfl | rfl | rfl | rfl
    · refine wpOp_step rfl (fun K hK => ?_)
      have hgl : g < wc.heap.size := by obtain ⟨p, _, _, hr⟩ := d.rd; exact hr.lt'
      have hgv : ¬ gv g hv wc.heap.size := by
        rintro (e | e)
        · omega
        · have := (d.yes _ e).2.1
          omega
      go_simp
      refine hK _ _ ⟨_, fr.put (s := 13) (by decide) _, hv, d.same (i := 0) hg hnl (by decide) (by decide) (by decide) (by decide) (by decide) ((Kept.refl _ _).alloc _) (fun _ h => h.below ((Below.refl _ _).alloc (Nat.le_refl _) _)) (v := _) (show (gbT 0).holds _ _ _ _ _ from ⟨_, rfl, hgv, by simp, row6 _ _⟩)⟩
    · refine wpOp_step rfl (fun K hK => ?_)
      go_simp
      refine hK _ _ ⟨_, fr.put (s := 14) (by decide) _, hv, d.same (i := 1) hg hnl (by decide) (by decide) (by decide) (by decide) (by decide) ((Kept.refl _ _)) (fun _ h => h) (v := _) (show (gbT 1).holds _ _ _ _ _ from rfl)⟩
    · refine wpOp_step rfl (fun K hK => ?_)
      have h14 : (.P : TyB).holds wa.heap.size g hv (xs 14) wc := d.at_ 1 (by decide) (by decide) (ready_seen (k := 1) hi (by kernel_rfl))
      have t14 : b.tmps[14]? = some (xs 14) := fr.in_ (s := 14) (by decide) (by omega)
      rw [show xs 14 = _ from h14] at t14
      obtain ⟨p, p0, p1, p2, hr⟩ := d.room
      go_simp
      refine (pick_any g p 6 (by omega) (by omega) (by omega) (by omega) wc hr).mono ?_
      rintro e w2 ⟨v, rfl, v0, v1, hr2, hk2⟩
      refine hK _ _ ⟨_, fr.put (s := 15) (by decide) _, hv, d.put (i := 2) hg hnl (by decide) (by decide) (by decide) (by decide) (by decide) hk2 p0 p2 (by omega) (by omega) hr2 (v := _) (show (gbT 2).holds _ _ _ _ _ from ⟨v, rfl, by omega, by omega⟩)⟩
    · refine wpOp_step rfl (fun K hK => ?_)
      have h13 : (.R 6 1 10000 : TyB).holds wa.heap.size g hv (xs 13) wc := d.at_ 0 (by decide) (by decide) (ready_seen (k := 0) hi (by kernel_rfl))
      have t13 : b.tmps[13]? = some (xs 13) := fr.in_ (s := 13) (by decide) (by omega)
      obtain ⟨g13, hx13, ne13, lt13, cs13⟩ := h13
      rw [hx13] at t13
      have h15 : (.I 0 5 : TyB).holds wa.heap.size g hv (xs 15) wc := d.at_ 2 (by decide) (by decide) (ready_seen (k := 2) hi (by kernel_rfl))
      have t15 : b.tmps[15]? = some (xs 15) := fr.in_ (s := 15) (by decide) (by omega)
      obtain ⟨x15, hx15, l15, u15⟩ := h15
      rw [hx15] at t15
      obtain ⟨y, y0, y1, hy⟩ := cs13 x15.toNat (by omega)
      have hlt : x15 < 6 := by omega
      go_simp
      refine hK _ _ ⟨_, fr.put (s := 16) (by decide) _, hv, d.same (i := 3) hg hnl (by decide) (by decide) (by decide) (by decide) (by decide) ((Kept.refl _ _)) (fun _ h => h) (v := _) (show (gbT 3).holds _ _ _ _ _ from ⟨_, _, y, rfl, ne13, lt13, by omega, by omega, by simpa using hy⟩)⟩
    · refine wpOp_step rfl (fun K hK => ?_)
      have h16 : (.A 1 10000 : TyB).holds wa.heap.size g hv (xs 16) wc := d.at_ 3 (by decide) (by decide) (ready_seen (k := 3) hi (by kernel_rfl))
      have t16 : b.tmps[16]? = some (xs 16) := fr.in_ (s := 16) (by decide) (by omega)
      obtain ⟨g16, o16, x16, hx16, ne16, lt16, l16, u16, cs16⟩ := h16
      rw [hx16] at t16
      go_simp
      refine hK _ _ ⟨_, fr.put (s := 17) (by decide) _, hv, d.same (i := 4) hg hnl (by decide) (by decide) (by decide) (by decide) (by decide) ((Kept.refl _ _)) (fun _ h => h) (v := _) (show (gbT 4).holds _ _ _ _ _ from ⟨_, rfl, by omega, by omega⟩)⟩
    · refine wpOp_step rfl (fun K hK => ?_)
      go_simp
      refine hK _ _ ⟨_, fr.put (s := 18) (by decide) _, hv, d.same (i := 5) hg hnl (by decide) (by decide) (by decide) (by decide) (by decide) ((Kept.refl _ _)) (fun _ h => h) (v := _) (show (gbT 5).holds _ _ _ _ _ from rfl)⟩
    · refine wpOp_step rfl (fun K hK => ?_)
      have h18 : (.P : TyB).holds wa.heap.size g hv (xs 18) wc := d.at_ 5 (by decide) (by decide) (ready_seen (k := 5) hi (by kernel_rfl))
      have t18 : b.tmps[18]? = some (xs 18) := fr.in_ (s := 18) (by decide) (by omega)
      rw [show xs 18 = _ from h18] at t18
      obtain ⟨p, p0, p1, p2, hr⟩ := d.room
      go_simp
      refine (pick_any g p 4 (by omega) (by omega) (by omega) (by omega) wc hr).mono ?_
      rintro e w2 ⟨v, rfl, v0, v1, hr2, hk2⟩
      refine hK _ _ ⟨_, fr.put (s := 19) (by decide) _, hv, d.put (i := 6) hg hnl (by decide) (by decide) (by decide) (by decide) (by decide) hk2 p0 p2 (by omega) (by omega) hr2 (v := _) (show (gbT 6).holds _ _ _ _ _ from ⟨v, rfl, by omega, by omega⟩)⟩
    · refine wpOp_step rfl (fun K hK => ?_)
      have h19 : (.I 0 3 : TyB).holds wa.heap.size g hv (xs 19) wc := d.at_ 6 (by decide) (by decide) (ready_seen (k := 6) hi (by kernel_rfl))
      have t19 : b.tmps[19]? = some (xs 19) := fr.in_ (s := 19) (by decide) (by omega)
      obtain ⟨x19, hx19, l19, u19⟩ := h19
      rw [hx19] at t19
      go_simp
      rw [IntKind.wrap_i64]
      refine hK _ _ ⟨_, fr.put (s := 20) (by decide) _, hv, d.same (i := 7) hg hnl (by decide) (by decide) (by decide) (by decide) (by decide) ((Kept.refl _ _)) (fun _ h => h) (v := _) (show (gbT 7).holds _ _ _ _ _ from ⟨_, rfl, by omega, by omega⟩)⟩
    · refine wpOp_step rfl (fun K hK => ?_)
      have h17 : (.I 1 10000 : TyB).holds wa.heap.size g hv (xs 17) wc := d.at_ 4 (by decide) (by decide) (ready_seen (k := 4) hi (by kernel_rfl))
      have t17 : b.tmps[17]? = some (xs 17) := fr.in_ (s := 17) (by decide) (by omega)
      obtain ⟨x17, hx17, l17, u17⟩ := h17
      rw [hx17] at t17
      have h20 : (.I 1 4 : TyB).holds wa.heap.size g hv (xs 20) wc := d.at_ 7 (by decide) (by decide) (ready_seen (k := 7) hi (by kernel_rfl))
      have t20 : b.tmps[20]? = some (xs 20) := fr.in_ (s := 20) (by decide) (by omega)
      obtain ⟨x20, hx20, l20, u20⟩ := h20
      rw [hx20] at t20
      go_simp
      refine (sBandNewR_any x17 x20 wc).mono ?_
      rintro e w2 ⟨⟨Al, cl, Ad, cd, rfl, o1, o2, o3, hb2⟩, orm⟩
      have hok : newBOk x17 x20 = true := by rw [newBOk, inR_iff.2 ⟨l17, u17⟩, inR_iff.2 ⟨l20, u20⟩]; rfl
      rw [hok] at o1 o2 o3 orm ⊢
      obtain ⟨gl, rfl, s1, s2⟩ := o1 (show 0 < x20.toNat by omega)
      obtain ⟨gd, rfl, s3, s4⟩ := o2 (show 0 < x20.toNat by omega)
      have s5 : gl ≠ gd := fun e => o3 (show 0 < x20.toNat by omega) gl ⟨0, rfl⟩ ⟨0, by rw [e]⟩
      have hgl : g < wc.heap.size := by obtain ⟨p, _, _, hr⟩ := d.rd; exact hr.lt'
      have hbs := d.bel.size
      have hgv : ∀ k, wc.heap.size ≤ k → ¬ gv g hv k := by
        rintro k hk (e | e)
        · omega
        · have := (d.yes _ e).2.1
          omega
      refine hK _ _ ⟨_, fr.put (s := 21) (by decide) _, hv, d.same (i := 8) hg hnl (by decide) (by decide) (by decide) (by decide) (by decide) (Kept.of hb2) (fun _ h => h.below hb2) (v := _) (show (gbT 8).holds _ _ _ _ _ from ⟨_, rfl, _, _, gl, cl, gd, cd, rfl, l17, u17, by show 1 ≤ x20.toNat; omega, by show x20.toNat ≤ 4; omega, .of s2 (orm _ _ _ _ _ _ _ _ rfl), s4, s5, by omega, by omega, hgv gl s1, hgv gd s3⟩)⟩
    · refine wpOp_step rfl (fun K hK => ?_)
      have h21 : (.N : TyB).holds wa.heap.size g hv (xs 21) wc := d.at_ 8 (by decide) (by decide) (ready_seen (k := 8) hi (by kernel_rfl))
      have t21 : b.tmps[21]? = some (xs 21) := fr.in_ (s := 21) (by decide) (by omega)
      obtain ⟨b21, hx21, hb21⟩ := h21
      rw [hx21] at t21
      go_simp
      refine hK _ _ ⟨_, fr.put (s := 12) (by decide) _, hv, d.same (i := 9) hg hnl (by decide) (by decide) (by decide) (by decide) (by decide) ((Kept.refl _ _)) (fun _ h => h) (v := _) (show (gbT 9).holds _ _ _ _ _ from ⟨_, rfl, hb21⟩)⟩
    · refine wpOp_step rfl (fun K hK => ?_)
      have h12 : (.N : TyB).holds wa.heap.size g hv (xs 12) wc := d.at_ 9 (by decide) (by decide) (ready_seen (k := 9) hi (by kernel_rfl))
      have t12 : b.tmps[12]? = some (xs 12) := fr.in_ (s := 12) (by decide) (by omega)
      obtain ⟨b12, hx12, hb12⟩ := h12
      rw [hx12] at t12
      go_simp
      refine hK _ _ ⟨_, fr.put (s := 22) (by decide) _, hv, d.same (i := 10) hg hnl (by decide) (by decide) (by decide) (by decide) (by decide) ((Kept.refl _ _)) (fun _ h => h) (v := _) (show (gbT 10).holds _ _ _ _ _ from hb12)⟩
    · refine wpOp_step rfl (fun K hK => ?_)
      have h12 : (.N : TyB).holds wa.heap.size g hv (xs 12) wc := d.at_ 9 (by decide) (by decide) (ready_seen (k := 9) hi (by kernel_rfl))
      have t12 : b.tmps[12]? = some (xs 12) := fr.in_ (s := 12) (by decide) (by omega)
      obtain ⟨b12, hx12, hb12⟩ := h12
      rw [hx12] at t12
      go_simp
      refine hK _ _ ⟨_, fr.put (s := 23) (by decide) _, hv, d.same (i := 11) hg hnl (by decide) (by decide) (by decide) (by decide) (by decide) ((Kept.refl _ _)) (fun _ h => h) (v := _) (show (gbT 11).holds _ _ _ _ _ from rfl)⟩
    · refine wpOp_step rfl (fun K hK => ?_)
      go_simp
      refine hK _ _ ⟨_, fr.put (s := 5) (by decide) _, _, d.var hg hnl (by decide) (by decide) rfl⟩
    · refine wpOp_step rfl (fun K hK => ?_)
      have h5 : (.V : TyB).holds wa.heap.size g hv (xs 5) wc := d.at_ 12 (by decide) (by decide) (ready_seen (k := 12) hi (by kernel_rfl))
      have t5 : b.tmps[5]? = some (xs 5) := fr.in_ (s := 5) (by decide) (by omega)
      obtain ⟨v5, hx5, hv5⟩ := h5
      rw [hx5] at t5
      have h22 : (.B : TyB).holds wa.heap.size g hv (xs 22) wc := d.at_ 10 (by decide) (by decide) (ready_seen (k := 10) hi (by kernel_rfl))
      have t22 : b.tmps[22]? = some (xs 22) := fr.in_ (s := 22) (by decide) (by omega)
      obtain ⟨y1, y2, y3, y4, y5, y6⟩ := d.yes v5 hv5
      have kz := y5 (not_seen hnl)
      obtain ⟨z0, z1, z2, z3, z4⟩ := kz.five
      have zf := kz.frees
      obtain ⟨q, n', gl, cl, gd, cd, hx22, a1, a2, a3, a4, a5, a6, a7, a8, a9, a10, a11⟩ := h22
      have hx22' := hx22
      rw [hx22] at t22
      go_simp
      refine hK _ _ ⟨xs, fr, hv, d.stored hg hnl (by decide) (by decide) hv5 (ready_seen (k := 10) hi (by kernel_rfl)) hx22' kz⟩
    · refine wpOp_step rfl (fun K hK => ?_)
      have h23 : (.Y : TyB).holds wa.heap.size g hv (xs 23) wc := d.at_ 11 (by decide) (by decide) (ready_seen (k := 11) hi (by kernel_rfl))
      have t23 : b.tmps[23]? = some (xs 23) := fr.in_ (s := 23) (by decide) (by omega)
      rw [show xs 23 = _ from h23] at t23
      go_simp
      refine hK _ _ ⟨_, fr.put (s := 6) (by decide) _, hv, d.same (i := 14) hg hnl (by decide) (by decide) (by decide) (by decide) (by decide) ((Kept.refl _ _)) (fun _ h => h) (v := _) (show (gbT 14).holds _ _ _ _ _ from rfl)⟩
  · rintro xs l wc ⟨hv, d⟩ hall
    obtain ⟨h, hx5, rfl⟩ : TyB.V.holds wa.heap.size g hv (xs 5) wc := d.at_ 12 (by decide) (by decide) (hall 12 (by decide))
    obtain ⟨y1, y2, y3, y4, y5, y6⟩ := d.yes h rfl
    obtain ⟨_, cs, y7, y8⟩ := y6 (hall 13 (by decide))
    obtain ⟨q, n', gl, cl, gd, cd, x22, q0, q1, n0, n1, o1, o2, o3, o4, o5, o6, o7⟩ : TyB.B.holds wa.heap.size g (some h) (xs 22) wc := d.at_ 10 (by decide) (by decide) (hall 10 (by decide))
    rw [show xs (gbS 10) = xs 22 from rfl, x22, Value.agg.injEq] at y7
    subst y7
    have hx6 : xs 6 = .bool true := d.at_ 14 (by decide) (by decide) (hall 14 (by decide))
    obtain ⟨p, p0, _, p1, hr⟩ := d.room
    have hc : 10 * (l.toList.count false : Nat) ≥ 0 := by omega
    have p2 : p ≤ 150 := by omega
    have HR := Lib.hid hr
    have HK := Lib.hid y8
    have o1 := o1.own
    have HL := Lib.hid o1
    have HD := Lib.hid o2
    have HB := Lib.hid (HBa.out.trans (d.bel.mono (by omega)))
    have HZ := Lib.hid (HKa.out.below d.bel (by omega))
    have e1 : gl < wc.heap.size := o1.1
    have e2 : gd < wc.heap.size := o2.1
    have e3 : g ≠ gl := fun e => o6 (.inl e.symm)
    have e4 : g ≠ gd := fun e => o7 (.inl e.symm)
    have e5 : h ≠ gl := fun e => o6 (.inr (by rw [e]))
    have e6 : h ≠ gd := fun e => o7 (.inr (by rw [e]))
    have hz := d.bel.size
    clear d hall hr y8 o1 o2 y5 y6 x22 y1 p1 hc o6 o7 HR1 HB1 HKa HBa
    simp only [List.foldl_cons, List.foldl_nil, List.setIfInBounds_toArray, List.set_cons_succ, List.set_cons_zero, hx5, hx6]
    go_wp2_with fail
    refine (pick_any g p 60 (by omega) (by omega) (by omega) (by omega) wc HR.out).mono ?_
    rintro e w2 ⟨m, rfl, m0, m1, hr2, hk2⟩
    have hgg : ∀ k, k ≠ g → ¬ isG g k := fun k hk e => hk e
    have HR2 := Lib.hid hr2
    have HK2 := Lib.hid (HK.out.kept hk2 (hgg _ (by omega)))
    have HL2 := Lib.hid (HL.out.kept hk2 (hgg _ (by omega)))
    have HD2 := Lib.hid (HD.out.kept hk2 (hgg _ (by omega)))
    have HB2 := Lib.hid (HB.out.trans (hk2.below (B := w.heap.size) (by omega) (fun k e => by unfold isG at e; omega)))
    have HZ2 := Lib.hid (HZ.out.kept hk2 (hgg _ (by omega)))
    have hz2 := hk2.size
    have hgl := HR.out.lt
    clear hr2 hk2 HR HK HL HD HB HZ
    obtain ⟨B, hB1, hB2, hB3, hB4, hB5, hB6⟩ : ∃ B, B ≤ w2.heap.size ∧ g < B ∧ gl < B ∧ gd < B ∧ h < B ∧ w.heap.size < B := ⟨w2.heap.size, by omega, by omega, by omega, by omega, by omega, by omega⟩
    obtain ⟨i0, hi, hi0, hi1, hi2⟩ := info_parts infoOp
    go_wp2_with fail
    go_loopw [7, 9] (fun t i wr => ∃ (lv : Value) (k : Nat) (el : Nat → List Value) (p : Int), lv = t ∧ (k : Int) ≤ m ∧ i = .int .i64 k ∧ Hid (wr.ownsRow B 44 3 lv k (flat k el)) ∧ Hid (OpsIn k el) ∧ 0 ≤ p ∧ p ≤ 200 + 10 * k ∧ Hid (RdAt wr g p) ∧
      Hid (Bk wr h 25 #[.int .i64 q, .int .i64 q, .int .i64 0, .slice (some ⟨gl, 0, none⟩) n' cl, .slice (some ⟨gd, 0, none⟩) n' cd]) ∧ Hid (OwnV wr gl n' (fun _ => .int .i64 0)) ∧ Hid (OwnV wr gd n' (fun _ => .bool false)) ∧ Hid (Bk wr w.heap.size 25 zB) ∧ Hid (Below w.heap.size w wr) ∧ B ≤ wr.heap.size) (fun _ i _ => (m - intOf i).toNat)
    case atStart => exact ⟨_, 0, fun _ => [.int .i64 0, .int .i64 0, .int .i64 0], p + 1, rfl, by omega, rfl, Lib.hid (World.ownsRow_nil _ _ _ _), Lib.hid ⟨fun _ => rfl, fun i hi => by omega⟩, by omega, by omega, HR2, HK2, HL2, HD2, HZ2, HB2, by omega⟩
    case round =>
      obtain ⟨lv, k, el, p', rfl, hkm, rfl, HO, HE, p3, p4, HRr, HKr, HLr, HDr, HZr, HBr, hzr⟩ := hrel
      by_cases hlt : (k : Int) < m
      · go_wp2_with fail
        refine (bandOp_any g p' (by omega) (by omega) wr HRr.out).mono ?_
        rintro e w3 ⟨kind, cpu, kk, p5, rfl, b0, b1, b2, b3, b4, b5, b6, b7, hr3, hk3⟩
        have HO3 : Hid (w3.ownsRow B 44 3 lv k (flat k el)) := HO.out.kept (row := some g) ⟨hk3.os, hk3.tape, hk3.output, hk3.size, fun j hj hne => hk3.block j hj (fun e => hne (by rw [show j = g from e]))⟩ (by
          cases hob : lv.ownBlock with
          | none => exact .inl rfl
          | some j => exact .inr (by have := (HO.out.lt j hob).1; simp; omega))
        have HR3 := Lib.hid hr3
        have HK3 := Lib.hid (HKr.out.kept hk3 (hgg _ (by omega)))
        have HL3 := Lib.hid (HLr.out.kept hk3 (hgg _ (by omega)))
        have HD3 := Lib.hid (HDr.out.kept hk3 (hgg _ (by omega)))
        have HB3 := Lib.hid (HBr.out.trans (hk3.below (B := w.heap.size) (by have := HBr.out.size; omega) (fun k e => by unfold isG at e; omega)))
        have HZ3 := Lib.hid (HZr.out.kept hk3 (hgg _ (by omega)))
        have hz3 := hk3.size
        clear hr3 hk3 HRr HKr HLr HDr HZr HBr HO
        go_wp2_with (at_builtin; refine wpList_append_own _ rfl _ _ 38 rfl B 44 i0 (.agg #[.int .i64 0, .int .i64 0, .int .i64 0]) 3 24 Try.underlying38 hi hi0 hi1 hi2 rfl (by decide) lv k (flat k el) rfl (HO3.out.alloc _) ⟨w3.heap.size, 0, none⟩ 1 1 [.int .i64 kind, .int .i64 cpu, .int .i64 kk] rfl rfl (World.news_of_block (cs := #[.int .i64 kind, .int .i64 cpu, .int .i64 kk]) (t := 44) (fr := (0, 0)) (heap_alloc_new w3 _)) ?c2 ?c3 ?c4 ?c5 ?_)
        case c2 => intro u hu; simp only [List.mem_cons, List.not_mem_nil, or_false] at hu; rcases hu with rfl | rfl | rfl <;> rfl
        case c3 => unfold maxLen; omega
        case c4 => omega
        case c5 => rw [World.size_alloc]; omega
        intro lv' w4 hown hgrow hnn
        have hb4 : Below B w3 w4 := ((Below.refl _ w3).alloc (by omega) _).trans (grown_belowT hgrow (by simp; omega) (fun k hk => (HO3.out.lt k hk).1))
        have HO4 : Hid (w4.ownsRow B 44 3 lv' (k + 1) (flat (k + 1) (fun i => if i = k then [.int .i64 kind, .int .i64 cpu, .int .i64 kk] else el i))) := by rw [flat_put]; exact Lib.hid hown
        have hnB : ∀ k, k < B → ¬ B ≤ k := fun k hk => by omega
        have HR4 := Lib.hid (HR3.out.kept (keptB hb4) (fun k hk => hnB k (by omega)))
        have HK4 := Lib.hid (HK3.out.below hb4 (by omega))
        have HL4 := Lib.hid (HL3.out.kept (keptB hb4) (hnB _ (by omega)))
        have HD4 := Lib.hid (HD3.out.kept (keptB hb4) (hnB _ (by omega)))
        have HB4 := Lib.hid (HB3.out.trans (hb4.mono (by omega)))
        have HZ4 := Lib.hid (HZ3.out.below hb4 (by omega))
        have hz4 := hb4.size
        have HE4 := Lib.hid (HE.out.add kind cpu kk b0 b1 b2 b3 b4 b5)
        clear hown hgrow hnn hb4 HO3 HR3 HK3 HL3 HD3 HB3 HZ3 HE
        go_wp2
        go_roundw
        case rel => exact ⟨_, k + 1, _, p5, rfl, by omega, by go_num, HO4, HE4, by omega, by omega, HR4, HK4, HL4, HD4, HZ4, HB4, by omega⟩
        case measure => simp [intOf]; omega
      · obtain rfl : m = (k : Int) := by omega
        obtain ⟨A1, c1, rfl, hq⟩ := owns_ownQ HE.out.1 HO.out
        have HQ := Lib.hid hq
        clear hq HO
        obtain ⟨r0, r1, r2, r3, r4⟩ := HZr.out.five
        have rf := HZr.out.frees
        go_wp2_with (refine wpList_load_row rfl 25 _ rfl (h) rfl 25 _ (0, 0) _ HKr.out Try.underlying25 rfl (by kernel_rfl) ?_)
        have kf := ((((HZr.out.put 0 (.int .i64 q)).put 1 (.int .i64 q)).put 2 (.int .i64 0)).put 3 (.slice (some ⟨gl, 0, none⟩) n' cl)).put 4 (.slice (some ⟨gd, 0, none⟩) n' cd)
        obtain ⟨s0, s1, s2, s3, s4⟩ := (show Bk _ w.heap.size 25 #[.int .i64 q, .int .i64 q, .int .i64 0, .slice (some ⟨gl, 0, none⟩) n' cl, .slice (some ⟨gd, 0, none⟩) n' cd] from kf).five
        have ee : ∀ o, (fun b => b = w.heap.size) (⟨w.heap.size, o, none⟩ : Addr).block := fun _ => rfl
        have hk := (((((Kept.refl (fun b => b = w.heap.size) wr).setCell (q := ⟨w.heap.size, 0, none⟩) (ee 0) (.int .i64 q)).setCell (q := ⟨w.heap.size, 1, none⟩) (ee 1) (.int .i64 q)).setCell (q := ⟨w.heap.size, 2, none⟩) (ee 2) (.int .i64 0)).setCell (q := ⟨w.heap.size, 3, none⟩) (ee 3) (.slice (some ⟨gl, 0, none⟩) n' cl)).setCell (q := ⟨w.heap.size, 4, none⟩) (ee 4) (.slice (some ⟨gd, 0, none⟩) n' cd)
        have hzz := HBr.out.size
        refine bodyPost_ret (v := .tuple #[.agg #[.int .i64 q, .int .i64 q, .int .i64 0, .slice (some ⟨gl, 0, none⟩) n' cl, .slice (some ⟨gd, 0, none⟩) n' cd], .slice A1 k c1]) (by simp [results, Try.results20, go_sem, s0, s1, s2, s3, s4]) rfl ?_
        exact ⟨q, n', gl, cl, gd, cd, k, c1, A1, el, rfl, q0, q1, n0, n1, by omega, HLr.out.kept hk (by show ¬ gl = w.heap.size; omega), HDr.out.kept hk (by show ¬ gd = w.heap.size; omega), o3, by omega, by omega, (HQ.out.kept hk (fun _ j hj _ e => by omega)).rs, HE.out, HBr.out.trans (hk.below hzz (fun j e => by omega))⟩
end Go.Proofs.Ytbgmjcfnehnicaa

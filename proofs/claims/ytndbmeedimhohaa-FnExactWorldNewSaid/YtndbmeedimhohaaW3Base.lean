/- Worlds: the marks on groups are held. -/
import Derived.Test.YtndbmeedimhohaaW2Base
import Derived.Test.YtndbmeedimhohaaG16Base
import Derived.Test.YtndbmeedimhohaaOrdInv
import Derived.Test.YtndbmeedimhohaaR0Base
import Derived.RegionTactic
import Derived.Deep.DeepCutAuto
namespace Go.Proofs.Ytndbmeedimhohaa
open Go.RowKit
/-- A region in which each operation leaves what is known of it, whatever came before, in a world that only grows. -/
structure DetI (W : World) (N : Nat) (sl : Nat → Nat) (E : Nat → Value) (l : Array Bool) (xs : Nat → Value) (w : World) : Prop where
  bel : Below W.heap.size W w
  at_ : ∀ j, j < N → seen l j → xs (sl j) = E j
section
variable {W : World} {N : Nat} {sl : Nat → Nat} {E : Nat → Value} {l : Array Bool} {xs : Nat → Value} {w w' : World}
theorem DetI.start (hb : Below W.heap.size W w) : DetI W N sl E (Array.replicate N false) xs w.drew := ⟨hb.drew, fun _ _ hs => absurd hs (seen_none _ _)⟩
theorem DetI.put (d : DetI W N sl E l xs w) {i : Nat} (hnl : l.getD i true = false) (hsl : ∀ j, j < N → j ≠ i → sl j ≠ sl i) (hb : Below W.heap.size W w') {v : Value} (hv : v = E i) : DetI W N sl E (l.setIfInBounds i true) (updX xs (sl i) v) w' := by
  refine ⟨hb, fun j hj hs => ?_⟩
  by_cases e : j = i
  · subst e
    simp only [updX, if_pos]
    exact hv
  · rw [show updX xs (sl i) v (sl j) = xs (sl j) by simp [updX, hsl j hj e]]
    exact d.at_ j hj ((seen_set hs).resolve_left e)
end
def hgS (j : Nat) : Nat := [32, 33, 34, 35, 36, 37, 38, 39].getD j 0
def hgE (ga oa n c j : Nat) (kk : Int) (i : Nat) : Value := [.slice (some ⟨ga, oa, none⟩) n c, .int .i64 j, .pointer (some ⟨ga, oa + j * 14, none⟩), .pointer (some ⟨ga, oa + j * 14 + 2, none⟩), .string (mText (kk + 1 + 1)), .int .i64 (kk + 1 + 1), .string (mText (kk + 1 + 1)), .bool false].getD i undef
theorem mod3 {kk : Int} (h : 0 ≤ kk) : kk.tmod 3 = kk % 3 := Int.tmod_eq_emod_of_nonneg h
set_option maxRecDepth 100000 in
set_option maxHeartbeats 4000000 in
theorem heldGroupS_any (A : Option Addr) (n c : Nat) (hn : n ≤ 1048576) (g : Nat → GV) (h : Nat → GH) (hL : ∀ i, i < n → GLen (g i)) (k : Int) (h0 : 0 ≤ k) (hk : k ≤ 1000000) (w W : World) (hb : Below W.heap.size W w) (hA : GsRd W W.heap.size A n (fun i => mkG (g i) (kUp g k i)) h) :
    Calls Try.prog 21 #[.slice A n c, .int .i64 k] w fun e w' => e = .returned (.int .i64 (kUp g k n)) ∧ Below w.heap.size w w' := by
  rcases Nat.eq_zero_or_pos n with h1 | h1
  · subst h1
    go_enter Try.func21, Try.ntmps21
    go_wp2
    refine wp_loop_rounds 1 ?_
    rw [rounds_succ]
    go_wp2
    go_ret
    exact ⟨rfl, Below.refl _ _⟩
  obtain ⟨ga, oa, rfl, hga, hca⟩ := (hA.at_ hb).r h1
  have HC := Lib.hid hca
  have HD := Lib.hid (hA.at_ hb).d
  have HKB := Lib.hid (kUp_b (k := k) hL)
  have HL := Lib.hid hL
  clear hca hA hL hb
  go_enter Try.func21, Try.ntmps21
  go_wp2
  go_loopw [1, 5] (fun t i wr => ∃ j : Nat, j ≤ n ∧ i = .int .i64 j ∧ t = .int .i64 (kUp g k j) ∧ Below w.heap.size w wr) (fun _ i _ => n - (intOf i).toNat)
  case atStart => exact ⟨0, Nat.zero_le _, rfl, rfl, Below.refl _ _⟩
  case round =>
    obtain ⟨j, hj, rfl, rfl, hbr⟩ := hrel
    by_cases hlt : j < n
    · have hr := rangeAt_below (HC.out j hlt) hbr hga
      have HX := Lib.hid (HD.out j hlt)
      have HE : Hid (kUp g k (j + 1) = kUp g k j + 1 + 1 + 1 + 1 + 1 + 1 + 1 + 1 + 1 + 1 + 1 + (g j).ln + (g j).dn + 5 * (g j).sn) := rfl
      have hbb := HKB.out j (by omega)
      obtain ⟨kk, hkk⟩ : ∃ kk, kk = kUp g k j := ⟨_, rfl⟩
      rw [← hkk] at hr hbb HX HE ⊢
      obtain ⟨hb1, hb2⟩ := hbb
      have hk0 : 0 ≤ kk := by omega
      have hk1 : kk ≤ 20000000000000 := by omega
      obtain ⟨g1, g2, g3, g4⟩ := HL.out j hlt
      have HG1 := Lib.hid g1
      clear g1 hb1 hb2 hkk
      have hm3 := mod3 hk0
      have c0 : wr.cell? ⟨ga, oa + j * 14 + 0, none⟩ = some (.bool (kk % 3 == 0)) := hr 0 _ rfl
      have c1 : wr.cell? ⟨ga, oa + j * 14 + 1, none⟩ = some (.int .i64 (kk + 1)) := hr 1 _ rfl
      have c2 : wr.cell? ⟨ga, oa + j * 14 + 2, none⟩ = some (.string (mText (kk + 1 + 1))) := hr 2 _ rfl
      have c3 : wr.cell? ⟨ga, oa + j * 14 + 3, none⟩ = some (.int .i64 (kk + 1 + 1 + 1)) := hr 3 _ rfl
      have c4 : wr.cell? ⟨ga, oa + j * 14 + 4, none⟩ = some (.int .i64 (kk + 1 + 1 + 1 + 1)) := hr 4 _ rfl
      have c5 : wr.cell? ⟨ga, oa + j * 14 + 5, none⟩ = some (.int .i64 (kk + 1 + 1 + 1 + 1 + 1)) := hr 5 _ rfl
      have c6 : wr.cell? ⟨ga, oa + j * 14 + 6, none⟩ = some (.int .i64 (kk + 1 + 1 + 1 + 1 + 1 + 1)) := hr 6 _ rfl
      have c7 : wr.cell? ⟨ga, oa + j * 14 + 7, none⟩ = some (.int .i64 (kk + 1 + 1 + 1 + 1 + 1 + 1 + 1)) := hr 7 _ rfl
      have c8 : wr.cell? ⟨ga, oa + j * 14 + 8, none⟩ = some (.int .i64 (kk + 1 + 1 + 1 + 1 + 1 + 1 + 1 + 1)) := hr 8 _ rfl
      have c9 : wr.cell? ⟨ga, oa + j * 14 + 9, none⟩ = some (.int .i64 (kk + 1 + 1 + 1 + 1 + 1 + 1 + 1 + 1 + 1)) := hr 9 _ rfl
      have c10 : wr.cell? ⟨ga, oa + j * 14 + 10, none⟩ = some (.int .i64 (kk + 1 + 1 + 1 + 1 + 1 + 1 + 1 + 1 + 1 + 1)) := hr 10 _ rfl
      have c11 : wr.cell? ⟨ga, oa + j * 14 + 11, none⟩ = some (.slice (h j).la (g j).ln (h j).lc) := hr 11 _ rfl
      have c12 : wr.cell? ⟨ga, oa + j * 14 + 12, none⟩ = some (.slice (h j).da (g j).dn (h j).dc) := hr 12 _ rfl
      have c13 : wr.cell? ⟨ga, oa + j * 14 + 13, none⟩ = some (.slice (h j).sa (g j).sn (h j).sc) := hr 13 _ rfl
      have HR := Lib.hid hr
      clear hr
      simp only [Nat.add_zero] at c0
      go_upto_region 10 with fail
      refine region_fr (by kernel_rfl) [32, 33, 34, 35, 36, 37, 38, 39] (fun a0 => a0.tmps.size = 147 ∧ a0.tmps[0]? = some (.slice (some ⟨ga, oa, none⟩) n c) ∧ a0.tmps[5]? = some (.int .i64 j) ∧ a0.tmps[1]? = some (.int .i64 (kk + 1 + 1))) (fun l xs w' => DetI wr 8 hgS (hgE ga oa n c j kk) l xs w') ⟨by rfl, by rfl, by rfl, by rfl⟩ ?_ ?_ (by kernel_rfl) ?_
      · exact fun xs => DetI.start (Below.refl _ _)
      · rintro a0 b xs l wc ⟨e0, f0, f5, f1⟩ fr d i hi
        have hlt' := ready_lt hi
        have hnl := (mem_ready.1 hi).1
        have t0 := fr.ex (s := 0) (by decide) f0
        have t5 := fr.ex (s := 5) (by decide) f5
        have t1 := fr.ex (s := 1) (by decide) f1
        have hcs : i = 0 ∨ i = 1 ∨ i = 2 ∨ i = 3 ∨ i = 4 ∨ i = 5 ∨ i = 6 ∨ i = 7 := by have : i < 8 := hlt'; omega
        clear hlt'
        have hjn : (j : Int) < (n : Int) := by omega
        have hgw : ga < wr.heap.size := Nat.lt_of_lt_of_le hga hbr.size
        have hc2 := (d.bel.cell (p := ⟨ga, oa + j * 14 + 2, none⟩) hgw).trans c2
        rcases hcs with rfl | rfl | rfl | rfl | rfl | rfl | rfl | rfl
        · refine wpOp_step rfl (fun K hK => ?_)
          go_simp
          refine hK _ _ ⟨_, fr.put (s := 32) (by decide) _, d.put (i := 0) hnl (by decide) d.bel rfl⟩
        · refine wpOp_step rfl (fun K hK => ?_)
          go_simp
          refine hK _ _ ⟨_, fr.put (s := 33) (by decide) _, d.put (i := 1) hnl (by decide) d.bel rfl⟩
        · refine wpOp_step rfl (fun K hK => ?_)
          have t32 : b.tmps[32]? = some (.slice (some ⟨ga, oa, none⟩) n c) := by rw [fr.in_ (s := 32) (by decide) (by omega)]; exact congrArg some (d.at_ 0 (by decide) (ready_seen (k := 0) hi (by kernel_rfl)))
          have t33 : b.tmps[33]? = some (.int .i64 j) := by rw [fr.in_ (s := 33) (by decide) (by omega)]; exact congrArg some (d.at_ 1 (by decide) (ready_seen (k := 1) hi (by kernel_rfl)))
          go_simp
          refine hK _ _ ⟨_, fr.put (s := 34) (by decide) _, d.put (i := 2) hnl (by decide) d.bel rfl⟩
        · refine wpOp_step rfl (fun K hK => ?_)
          have t34 : b.tmps[34]? = some (.pointer (some ⟨ga, oa + j * 14, none⟩)) := by rw [fr.in_ (s := 34) (by decide) (by omega)]; exact congrArg some (d.at_ 2 (by decide) (ready_seen (k := 2) hi (by kernel_rfl)))
          go_simp
          refine hK _ _ ⟨_, fr.put (s := 35) (by decide) _, d.put (i := 3) hnl (by decide) d.bel rfl⟩
        · refine wpOp_step rfl (fun K hK => ?_)
          have t35 : b.tmps[35]? = some (.pointer (some ⟨ga, oa + j * 14 + 2, none⟩)) := by rw [fr.in_ (s := 35) (by decide) (by omega)]; exact congrArg some (d.at_ 3 (by decide) (ready_seen (k := 3) hi (by kernel_rfl)))
          go_simp
          refine hK _ _ ⟨_, fr.put (s := 36) (by decide) _, d.put (i := 4) hnl (by decide) d.bel rfl⟩
        · refine wpOp_step rfl (fun K hK => ?_)
          go_simp
          refine hK _ _ ⟨_, fr.put (s := 37) (by decide) _, d.put (i := 5) hnl (by decide) d.bel rfl⟩
        · refine wpOp_step rfl (fun K hK => ?_)
          have t37 : b.tmps[37]? = some (.int .i64 (kk + 1 + 1)) := by rw [fr.in_ (s := 37) (by decide) (by omega)]; exact congrArg some (d.at_ 5 (by decide) (ready_seen (k := 5) hi (by kernel_rfl)))
          go_simp
          refine (markText_any (kk + 1 + 1) (by omega) wc wr d.bel).mono ?_
          rintro e w9 ⟨rfl, hb9⟩
          refine hK _ _ ⟨_, fr.put (s := 38) (by decide) _, d.put (i := 6) hnl (by decide) hb9 rfl⟩
        · refine wpOp_step rfl (fun K hK => ?_)
          have t36 : b.tmps[36]? = some (.string (mText (kk + 1 + 1))) := by rw [fr.in_ (s := 36) (by decide) (by omega)]; exact congrArg some (d.at_ 4 (by decide) (ready_seen (k := 4) hi (by kernel_rfl)))
          have t38 : b.tmps[38]? = some (.string (mText (kk + 1 + 1))) := by rw [fr.in_ (s := 38) (by decide) (by omega)]; exact congrArg some (d.at_ 6 (by decide) (ready_seen (k := 6) hi (by kernel_rfl)))
          have hs : ((mText (kk + 1 + 1)).toList == (mText (kk + 1 + 1)).toList) = true := by simp
          go_simp
          refine hK _ _ ⟨_, fr.put (s := 39) (by decide) _, d.put (i := 7) hnl (by decide) d.bel rfl⟩
      · intro xs l wc d hall
        have hx39 : xs 39 = .bool false := d.at_ 7 (by decide) (hall 7 (by decide))
        have hgw : ga < wr.heap.size := Nat.lt_of_lt_of_le hga hbr.size
        have hr1 := rangeAt_below HR.out d.bel hgw
        have e3 : wc.cell? ⟨ga, oa + j * 14 + 3, none⟩ = some (.int .i64 (kk + 1 + 1 + 1)) := hr1 3 _ rfl
        have e4 : wc.cell? ⟨ga, oa + j * 14 + 4, none⟩ = some (.int .i64 (kk + 1 + 1 + 1 + 1)) := hr1 4 _ rfl
        have e5 : wc.cell? ⟨ga, oa + j * 14 + 5, none⟩ = some (.int .i64 (kk + 1 + 1 + 1 + 1 + 1)) := hr1 5 _ rfl
        have e6 : wc.cell? ⟨ga, oa + j * 14 + 6, none⟩ = some (.int .i64 (kk + 1 + 1 + 1 + 1 + 1 + 1)) := hr1 6 _ rfl
        have e7 : wc.cell? ⟨ga, oa + j * 14 + 7, none⟩ = some (.int .i64 (kk + 1 + 1 + 1 + 1 + 1 + 1 + 1)) := hr1 7 _ rfl
        have e8 : wc.cell? ⟨ga, oa + j * 14 + 8, none⟩ = some (.int .i64 (kk + 1 + 1 + 1 + 1 + 1 + 1 + 1 + 1)) := hr1 8 _ rfl
        have e9 : wc.cell? ⟨ga, oa + j * 14 + 9, none⟩ = some (.int .i64 (kk + 1 + 1 + 1 + 1 + 1 + 1 + 1 + 1 + 1)) := hr1 9 _ rfl
        have e10 : wc.cell? ⟨ga, oa + j * 14 + 10, none⟩ = some (.int .i64 (kk + 1 + 1 + 1 + 1 + 1 + 1 + 1 + 1 + 1 + 1)) := hr1 10 _ rfl
        have e11 : wc.cell? ⟨ga, oa + j * 14 + 11, none⟩ = some (.slice (h j).la (g j).ln (h j).lc) := hr1 11 _ rfl
        have e12 : wc.cell? ⟨ga, oa + j * 14 + 12, none⟩ = some (.slice (h j).da (g j).dn (h j).dc) := hr1 12 _ rfl
        have e13 : wc.cell? ⟨ga, oa + j * 14 + 13, none⟩ = some (.slice (h j).sa (g j).sn (h j).sc) := hr1 13 _ rfl
        have HR1 := Lib.hid hr1
        have HB1 := Lib.hid (hbr.trans (d.bel.mono hbr.size))
        clear hr1 d hall hbr HR c0 c1 c2 c3 c4 c5 c6 c7 c8 c9 c10 c11 c12 c13
        simp only [List.foldl_cons, List.foldl_nil, List.setIfInBounds_toArray, List.set_cons_succ, List.set_cons_zero, hx39]
        go_wp2_with fail
        refine (heldIntS_any (h j).la (g j).ln (h j).lc _ (by omega) (by omega) g2 wc w HB1.out HX.out.l).mono ?_
        rintro e w2 ⟨rfl, rfl⟩
        go_wp2_with fail
        refine (heldBoolS_any (h j).da (g j).dn (h j).dc _ (by omega) (by omega) g3 wc w HB1.out HX.out.d).mono ?_
        rintro e w3 ⟨rfl, rfl⟩
        go_wp2_with fail
        refine (heldShelfS_any (h j).sa (g j).sn (h j).sc _ (by omega) (by omega) g4 wc w HB1.out HX.out.s).mono ?_
        rintro e w4 ⟨rfl, rfl⟩
        go_wp2
        go_roundw
        case rel => exact ⟨j + 1, by omega, by go_num, by rw [HE.out], HB1.out⟩
        case measure => simp [intOf]; omega
    · obtain rfl : j = n := by omega
      go_wp2
      go_ret
      exact ⟨rfl, hbr⟩
end Go.Proofs.Ytndbmeedimhohaa

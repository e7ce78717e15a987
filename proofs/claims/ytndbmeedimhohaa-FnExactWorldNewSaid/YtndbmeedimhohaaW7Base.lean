/- Worlds: impl's WorldNew. -/
import Derived.Test.YtndbmeedimhohaaW6Base
import Derived.Deep.RegionWith
namespace Go.Proofs.Ytndbmeedimhohaa
open Go.RowKit
set_option maxRecDepth 100000 in
set_option maxHeartbeats 4000000 in
theorem iWorldNew_good (n : Nat) (hn0 : 1 ≤ n) (hn : n ≤ 4) (w : World) :
    Calls Try.prog 5 #[.int .i64 n] w fun e w' => ∃ h : WH, e = .returned (.tuple #[.agg #[.int .i64 0, .slice h.ca n h.cc, .slice h.ta 12 h.tc, .slice h.ga 8 h.gc], .bool true]) ∧ WNew w' w.heap.size (nWV n) h ∧ Below w.heap.size w w' := by
  have hin : inR n 1 4 = true := inR_iff.2 ⟨by omega, by omega⟩
  obtain ⟨wa, hwa⟩ : ∃ wa : World, wa = w.alloc (.cells zWorld 26) := ⟨_, rfl⟩
  have HKa : Hid (Bk wa w.heap.size 26 zWorld) := by rw [hwa]; exact Bk.new _ _ _
  have HBa : Hid (Below w.heap.size w wa) := by rw [hwa]; exact (Below.refl _ _).alloc (Nat.le_refl _) _
  have hza : wa.heap.size = w.heap.size + 1 := by rw [hwa]; simp
  have HIN : Hid (∀ x : World, Calls Try.prog 11 #[.int .i64 n, .int .i64 1, .int .i64 4] x fun e w' => e = .returned (.bool true) ∧ x = w') := fun x => by have := inRange_any n 1 4 x; rw [hin] at this; exact this
  clear hin
  go_enter Try.func5, Try.ntmps5
  go_upto_region 3 with (go_at_call 11; refine (HIN.out _).mono ?_; rintro e w9 ⟨rfl, rfl⟩)
  rw [← show wa = w.alloc (.cells #[.int .i64 0, .slice none 0 0, .slice none 0 0, .slice none 0 0] 26) from hwa]
  clear hwa
  refine region_fr (by kernel_rfl) [10, 11, 12, 13, 14, 4] (fun a0 => a0.tmps.size = 33 ∧ a0.tmps[0]? = some (.int .i64 n)) (fun l xs w' => DM 7 wa iwS (iwT n wa) zWorld 5 6 4 l xs w') ⟨by rfl, by rfl⟩ ?_ ?_ (by kernel_rfl) ?_
  · exact fun xs => DM.start (Below.refl _ _)
  · rintro a0 b xs l wc ⟨e0, f0⟩ fr d i hi
    have hlt := ready_lt hi
    have hnl := (mem_ready.1 hi).1
    have t0 := fr.ex (s := 0) (by decide) f0
    have hcs : i = 0 ∨ i = 1 ∨ i = 2 ∨ i = 3 ∨ i = 4 ∨ i = 5 ∨ i = 6 := by have : i < 7 := hlt; omega
    clear hlt
    rcases hcs with rfl | rfl | rfl | rfl | rfl | rfl | rfl
    · refine wpOp_step rfl (fun K hK => ?_)
      go_simp
      refine hK _ _ ⟨_, fr.put (s := 10) (by decide) _, d.put (i := 0) hnl (by decide) (by decide) (by decide) (by decide) (by decide) (by decide) (by decide) (Below.refl _ _) (fun _ _ h => h) (show iwT n wa 0 _ _ from rfl)⟩
    · refine wpOp_step rfl (fun K hK => ?_)
      have h10 : iwT n wa 0 (xs 10) wc := d.at_ 0 (by decide) (by decide) (by decide) (ready_seen (k := 0) hi (by kernel_rfl))
      have t10 : b.tmps[10]? = some (.int .i64 n) := by rw [fr.in_ (s := 10) (by decide) (by omega)]; exact congrArg some h10
      have hmk := make_CpuW n hn wc
      have hmb : MKb wa (wc.alloc (.cells (madeCells zCpu.toArray (n * 5)) 34)) 34 wc.heap.size n 5 zCpu := MKb.new wa wc d.bel.size 34 zCpu n 5 rfl
      go_simp
      refine hK _ _ ⟨_, fr.put (s := 11) (by decide) _, d.put (i := 1) hnl (by decide) (by decide) (by decide) (by decide) (by decide) (by decide) (by decide) ((Below.refl _ _).alloc (Nat.le_refl _) _) (iwT.bel ((Below.refl _ _).alloc (Nat.le_refl _) _)) (show iwT n wa 1 _ _ from ⟨_, rfl, hmb⟩)⟩
    · refine wpOp_step rfl (fun K hK => ?_)
      have hmk := make_TaskW wc
      have hmb : MKb wa (wc.alloc (.cells (madeCells zTask.toArray (108)) 56)) 56 wc.heap.size 12 9 zTask := MKb.new wa wc d.bel.size 56 zTask 12 9 rfl
      go_simp
      refine hK _ _ ⟨_, fr.put (s := 12) (by decide) _, d.put (i := 2) hnl (by decide) (by decide) (by decide) (by decide) (by decide) (by decide) (by decide) ((Below.refl _ _).alloc (Nat.le_refl _) _) (iwT.bel ((Below.refl _ _).alloc (Nat.le_refl _) _)) (show iwT n wa 2 _ _ from ⟨_, rfl, hmb⟩)⟩
    · refine wpOp_step rfl (fun K hK => ?_)
      have hmk := make_GroupW wc
      have hmb : MKb wa (wc.alloc (.cells (madeCells zGroup.toArray (112)) 41)) 41 wc.heap.size 8 14 zGroup := MKb.new wa wc d.bel.size 41 zGroup 8 14 rfl
      go_simp
      refine hK _ _ ⟨_, fr.put (s := 13) (by decide) _, d.put (i := 3) hnl (by decide) (by decide) (by decide) (by decide) (by decide) (by decide) (by decide) ((Below.refl _ _).alloc (Nat.le_refl _) _) (iwT.bel ((Below.refl _ _).alloc (Nat.le_refl _) _)) (show iwT n wa 3 _ _ from ⟨_, rfl, hmb⟩)⟩
    · refine wpOp_step rfl (fun K hK => ?_)
      obtain ⟨b1, h11, m1⟩ : iwT n wa 1 (xs 11) wc := d.at_ 1 (by decide) (by decide) (by decide) (ready_seen (k := 1) hi (by kernel_rfl))
      obtain ⟨b2, h12, m2⟩ : iwT n wa 2 (xs 12) wc := d.at_ 2 (by decide) (by decide) (by decide) (ready_seen (k := 2) hi (by kernel_rfl))
      obtain ⟨b3, h13, m3⟩ : iwT n wa 3 (xs 13) wc := d.at_ 3 (by decide) (by decide) (by decide) (ready_seen (k := 3) hi (by kernel_rfl))
      have t11 : b.tmps[11]? = some (.slice (some ⟨b1, 0, none⟩) n n) := by rw [fr.in_ (s := 11) (by decide) (by omega), h11]
      have t12 : b.tmps[12]? = some (.slice (some ⟨b2, 0, none⟩) 12 12) := by rw [fr.in_ (s := 12) (by decide) (by omega), h12]
      have t13 : b.tmps[13]? = some (.slice (some ⟨b3, 0, none⟩) 8 8) := by rw [fr.in_ (s := 13) (by decide) (by omega), h13]
      go_simp
      refine hK _ _ ⟨_, fr.put (s := 14) (by decide) _, d.put (i := 4) hnl (by decide) (by decide) (by decide) (by decide) (by decide) (by decide) (by decide) (Below.refl _ _) (fun _ _ h => h) (show iwT n wa 4 _ _ from ⟨b1, b2, b3, rfl, m1, m2, m3⟩)⟩
    · refine wpOp_step rfl (fun K hK => ?_)
      go_simp
      refine hK _ _ ⟨_, fr.put (s := 4) (by decide) _, d.alloc_ hnl (by decide) (by decide) (iwT.bel ((Below.refl _ _).alloc (Nat.le_refl _) _))⟩
    · refine wpOp_step rfl (fun K hK => ?_)
      have s5 : seen l 5 := ready_seen (k := 5) hi (by kernel_rfl)
      have s4 : seen l 4 := ready_seen (k := 4) hi (by kernel_rfl)
      obtain ⟨h, hh, h2, h3, _⟩ := d.var s5
      obtain ⟨b1, b2, b3, h14, m1, m2, m3⟩ : iwT n wa 4 (xs 14) wc := d.at_ 4 (by decide) (by decide) (by decide) s4
      have t4 : b.tmps[4]? = some (.pointer (some ⟨h, 0, none⟩)) := by rw [fr.in_ (s := 4) (by decide) (by omega)]; exact congrArg some hh
      have t14 : b.tmps[14]? = some (.agg #[.int .i64 0, .slice (some ⟨b1, 0, none⟩) n n, .slice (some ⟨b2, 0, none⟩) 12 12, .slice (some ⟨b3, 0, none⟩) 8 8]) := by rw [fr.in_ (s := 14) (by decide) (by omega), h14]
      have kz := h3 (not_seen hnl)
      obtain ⟨z0, z1, z2, z3⟩ := Bk.four kz
      have zf := kz.frees
      go_simp
      refine hK _ _ ⟨xs, fr, d.stored hnl (by decide) (by decide) s5 hh s4 h14 kz (iwT.off kz _ _ _ _)⟩
  · intro xs l w1 d hall
    obtain ⟨h, hh, hh2, _, hh4⟩ := d.var (hall 5 (by decide))
    obtain ⟨_, cs, hcs1, hcs2⟩ := hh4 (hall 6 (by decide))
    obtain ⟨b1, b2, b3, h14, m1, m2, m3⟩ : iwT n wa 4 (xs 14) w1 := d.at_ 4 (by decide) (by decide) (by decide) (hall 4 (by decide))
    rw [show xs (iwS 4) = xs 14 from rfl, h14, Value.agg.injEq] at hcs1
    subst hcs1
    have hx4 : xs 4 = .pointer (some ⟨h, 0, none⟩) := hh
    have HX := Lib.hid hcs2
    have HB := Lib.hid (HBa.out.trans (d.bel.mono (by omega)))
    have HZ := Lib.hid (HKa.out.below d.bel HKa.out.lt)
    have n1 := m1.apart hcs2 (by decide)
    have n2 := m2.apart hcs2 (by decide)
    have n3 := m3.apart hcs2 (by decide)
    obtain ⟨cs2, hb2⟩ := m2.2.1
    obtain ⟨cs3, hb3⟩ := m3.2.1
    have n4 := m1.apart hb2 (by decide)
    have n5 := m1.apart hb3 (by decide)
    have n6 := m2.apart hb3 (by decide)
    have l1 := m1.2.2
    have l2 := m2.2.2
    have l3 := m3.2.2
    have HO1 := Lib.hid m1.1
    have HO2 := Lib.hid m2.1
    have HO3 := Lib.hid m3.1
    clear d hall hcs2 m1 m2 m3 hb2 hb3 cs2 cs3 HKa HBa h14 hh hh4
    simp only [List.foldl_cons, List.foldl_nil, List.setIfInBounds_toArray, List.set_cons_succ, List.set_cons_zero, hx4]
    obtain ⟨z0, z1, z2, z3⟩ := Bk.four HX.out
    go_wp2
    clear z0 z1 z2 z3
    go_loopw [18] (fun i wr => ∃ k : Nat, k ≤ n ∧ i = .int .i64 k ∧ Hid (OwnS wr b1 n 5 (fun i => if i < k then nCpu else zCpu)) ∧ Hid (Kept (fun x => x = b1) w1 wr)) (fun i _ => n - (intOf i).toNat)
    case atStart => exact ⟨0, Nat.zero_le _, rfl, HO1.out.congr (fun i _ => by simp), Kept.refl _ _⟩
    case round =>
      obtain ⟨k, hk, rfl, HO, HK⟩ := hrel
      by_cases hlt : k < n
      · have hel : ∀ m, ((fun i => if i < k then nCpu else zCpu) m).length = 5 := fun m => by simp only; split <;> rfl
        obtain ⟨_, z1, _, _⟩ := Bk.four (HX.out.kept HK.out (by omega))
        have c0 : wr.cell? ⟨b1, k * 5 + 0, none⟩ = some (.bool false) := HO.out.cell k hlt 0 _ (by simp only [Nat.lt_irrefl, if_false]; rfl)
        have c1 : wr.cell? ⟨b1, k * 5 + 1, none⟩ = some (.int .i64 0) := HO.out.cell k hlt 1 _ (by simp only [Nat.lt_irrefl, if_false]; rfl)
        have c2 : wr.cell? ⟨b1, k * 5 + 2, none⟩ = some (.int .i64 0) := HO.out.cell k hlt 2 _ (by simp only [Nat.lt_irrefl, if_false]; rfl)
        have c3 : wr.cell? ⟨b1, k * 5 + 3, none⟩ = some (.int .i64 0) := HO.out.cell k hlt 3 _ (by simp only [Nat.lt_irrefl, if_false]; rfl)
        have c4 : wr.cell? ⟨b1, k * 5 + 4, none⟩ = some (.int .i64 0) := HO.out.cell k hlt 4 _ (by simp only [Nat.lt_irrefl, if_false]; rfl)
        have f0 := HO.out.free k hlt 0 (by omega)
        have f1 := HO.out.free k hlt 1 (by omega)
        have f2 := HO.out.free k hlt 2 (by omega)
        have f3 := HO.out.free k hlt 3 (by omega)
        have f4 := HO.out.free k hlt 4 (by omega)
        simp only [Nat.add_zero] at c0 f0
        have HO5 : Hid (OwnS (((((wr.setCell ⟨b1, k * 5, none⟩ (.bool true)).setCell ⟨b1, k * 5 + 1, none⟩ (.int .i64 (-1))).setCell ⟨b1, k * 5 + 2, none⟩ (.int .i64 0)).setCell ⟨b1, k * 5 + 3, none⟩ (.int .i64 0)).setCell ⟨b1, k * 5 + 4, none⟩ (.int .i64 0)) b1 n 5 (fun i => if i < k + 1 then nCpu else zCpu)) := (show OwnS (((((wr.setCell ⟨b1, k * 5, none⟩ (.bool true)).setCell ⟨b1, k * 5 + 1, none⟩ (.int .i64 (-1))).setCell ⟨b1, k * 5 + 2, none⟩ (.int .i64 0)).setCell ⟨b1, k * 5 + 3, none⟩ (.int .i64 0)).setCell ⟨b1, k * 5 + 4, none⟩ (.int .i64 0)) b1 n 5 _ from HO.out.putAt hlt nCpu rfl hel).congr (fun i _ => by
          by_cases e : i = k
          · subst e
            simp only [if_true]
            rw [if_pos (by omega)]
          · simp only [if_neg e]
            by_cases e2 : i < k
            · rw [if_pos e2, if_pos (by omega)]
            · rw [if_neg e2, if_neg (by omega)])
        have ee : ∀ o, (fun x => x = b1) (⟨b1, o, none⟩ : Addr).block := fun _ => rfl
        have HK5 : Hid (Kept (fun x => x = b1) w1 (((((wr.setCell ⟨b1, k * 5, none⟩ (.bool true)).setCell ⟨b1, k * 5 + 1, none⟩ (.int .i64 (-1))).setCell ⟨b1, k * 5 + 2, none⟩ (.int .i64 0)).setCell ⟨b1, k * 5 + 3, none⟩ (.int .i64 0)).setCell ⟨b1, k * 5 + 4, none⟩ (.int .i64 0))) := ((((HK.out.setCell (q := ⟨b1, k * 5, none⟩) (ee _) _).setCell (q := ⟨b1, k * 5 + 1, none⟩) (ee _) _).setCell (q := ⟨b1, k * 5 + 2, none⟩) (ee _) _).setCell (q := ⟨b1, k * 5 + 3, none⟩) (ee _) _).setCell (q := ⟨b1, k * 5 + 4, none⟩) (ee _) _
        clear HO HK
        go_wp2
        go_roundw
        case rel => exact ⟨k + 1, by omega, by go_num, HO5, HK5⟩
        case measure => simp [intOf]; omega
      · obtain rfl : k = n := by omega
        have HO1' : Hid (OwnS wr b1 k 5 (fun _ => nCpu)) := HO.out.congr (fun i hi => by simp [hi])
        have HX2 := Lib.hid (HX.out.kept HK.out (by omega))
        have HZ2 := Lib.hid (HZ.out.kept HK.out (by omega))
        have HO2' := Lib.hid (HO2.out.kept HK.out (by omega))
        have HO3' := Lib.hid (HO3.out.kept HK.out (by omega))
        have HB2 := Lib.hid (HB.out.trans (HK.out.below (B := w.heap.size) (by have := HB.out.size; omega) (fun j e => by omega)))
        clear HO HK HX HZ HO2 HO3 HB HO1
        obtain ⟨x0, x1, x2, x3⟩ := Bk.four HX2.out
        go_upto_region 9 with fail
        go_region_with (go_at_call 12; go_loud (refine (newGroup_any (-1) ⟨#[]⟩ k hn0 hn _).mono ?_; rintro e wq ⟨g9, rfl, hg9, ho9, hb9⟩; have hbq : Below wr.heap.size wr wq := ⟨hb9.os, hb9.tape, hb9.output, hb9.size, hb9.block⟩; have hg9' : wr.heap.size ≤ g9 := hg9; have kq := HX2.out.below hbq HX2.out.lt; obtain ⟨y0, y1, y2, y3⟩ := Bk.four kq; have rq := HZ2.out.below hbq HZ2.out.lt; obtain ⟨r0, r1, r2, r3⟩ := Bk.four rq; have rf := rq.frees; have oq := HO3'.out.below hbq HO3'.out.1; have e0 : wq.cell? ⟨b3, 0, none⟩ = some (.bool false) := oq.cell0 (by omega) 0 _ rfl; have f0 : wq.frozen? ⟨b3, 0, none⟩ = false := oq.free0 (by omega) 0 (by omega); have e1 : wq.cell? ⟨b3, 1, none⟩ = some (.int .i64 0) := oq.cell0 (by omega) 1 _ rfl; have f1 : wq.frozen? ⟨b3, 1, none⟩ = false := oq.free0 (by omega) 1 (by omega); have e2 : wq.cell? ⟨b3, 2, none⟩ = some (.string ⟨#[]⟩) := oq.cell0 (by omega) 2 _ rfl; have f2 : wq.frozen? ⟨b3, 2, none⟩ = false := oq.free0 (by omega) 2 (by omega); have e3 : wq.cell? ⟨b3, 3, none⟩ = some (.int .i64 0) := oq.cell0 (by omega) 3 _ rfl; have f3 : wq.frozen? ⟨b3, 3, none⟩ = false := oq.free0 (by omega) 3 (by omega); have e4 : wq.cell? ⟨b3, 4, none⟩ = some (.int .i64 0) := oq.cell0 (by omega) 4 _ rfl; have f4 : wq.frozen? ⟨b3, 4, none⟩ = false := oq.free0 (by omega) 4 (by omega); have e5 : wq.cell? ⟨b3, 5, none⟩ = some (.int .i64 0) := oq.cell0 (by omega) 5 _ rfl; have f5 : wq.frozen? ⟨b3, 5, none⟩ = false := oq.free0 (by omega) 5 (by omega); have e6 : wq.cell? ⟨b3, 6, none⟩ = some (.int .i64 0) := oq.cell0 (by omega) 6 _ rfl; have f6 : wq.frozen? ⟨b3, 6, none⟩ = false := oq.free0 (by omega) 6 (by omega); have e7 : wq.cell? ⟨b3, 7, none⟩ = some (.int .i64 0) := oq.cell0 (by omega) 7 _ rfl; have f7 : wq.frozen? ⟨b3, 7, none⟩ = false := oq.free0 (by omega) 7 (by omega); have e8 : wq.cell? ⟨b3, 8, none⟩ = some (.int .i64 0) := oq.cell0 (by omega) 8 _ rfl; have f8 : wq.frozen? ⟨b3, 8, none⟩ = false := oq.free0 (by omega) 8 (by omega); have e9 : wq.cell? ⟨b3, 9, none⟩ = some (.int .i64 0) := oq.cell0 (by omega) 9 _ rfl; have f9 : wq.frozen? ⟨b3, 9, none⟩ = false := oq.free0 (by omega) 9 (by omega); have e10 : wq.cell? ⟨b3, 10, none⟩ = some (.int .i64 0) := oq.cell0 (by omega) 10 _ rfl; have f10 : wq.frozen? ⟨b3, 10, none⟩ = false := oq.free0 (by omega) 10 (by omega); have e11 : wq.cell? ⟨b3, 11, none⟩ = some (.slice none 0 0) := oq.cell0 (by omega) 11 _ rfl; have f11 : wq.frozen? ⟨b3, 11, none⟩ = false := oq.free0 (by omega) 11 (by omega); have e12 : wq.cell? ⟨b3, 12, none⟩ = some (.slice none 0 0) := oq.cell0 (by omega) 12 _ rfl; have f12 : wq.frozen? ⟨b3, 12, none⟩ = false := oq.free0 (by omega) 12 (by omega); have e13 : wq.cell? ⟨b3, 13, none⟩ = some (.slice none 0 0) := oq.cell0 (by omega) 13 _ rfl; have f13 : wq.frozen? ⟨b3, 13, none⟩ = false := oq.free0 (by omega) 13 (by omega); have HQ := Lib.hid hbq; have HG9 := Lib.hid ho9; have OQ := Lib.hid oq; have RQ := Lib.hid rq; have KQ := Lib.hid kq; clear hb9 hbq kq rq ho9 oq; simp only [nGroup]))
        all_goals
          obtain ⟨wz, hwz⟩ : ∃ wz : World, wz = ((((((((((((((wq.setCell ⟨b3, 0, none⟩ (.bool true)).setCell ⟨b3, 1, none⟩ (.int .i64 (-1))).setCell ⟨b3, 2, none⟩ (.string ⟨#[]⟩)).setCell ⟨b3, 3, none⟩ (.int .i64 10)).setCell ⟨b3, 4, none⟩ (.int .i64 15)).setCell ⟨b3, 5, none⟩ (.int .i64 0)).setCell ⟨b3, 6, none⟩ (.int .i64 0)).setCell ⟨b3, 7, none⟩ (.int .i64 0)).setCell ⟨b3, 8, none⟩ (.int .i64 0)).setCell ⟨b3, 9, none⟩ (.int .i64 0)).setCell ⟨b3, 10, none⟩ (.int .i64 0)).setCell ⟨b3, 11, none⟩ (.slice none 0 0)).setCell ⟨b3, 12, none⟩ (.slice none 0 0)).setCell ⟨b3, 13, none⟩ (.slice (some ⟨g9, 0, none⟩) k k)) := ⟨_, rfl⟩
          rw [← hwz]
          have hws : wz = wq.setCells b3 0 (nGroup (-1) ⟨#[]⟩ (.slice (some ⟨g9, 0, none⟩) k k)).toList := hwz.trans rfl
          clear hwz
          clear e0 e1 e2 e3 e4 e5 e6 e7 e8 e9 e10 e11 e12 e13 f0 f1 f2 f3 f4 f5 f6 f7 f8 f9 f10 f11 f12 f13
          clear x0 x1 x2 x3 y0 y1 y2 y3 r0 r1 r2 r3 rf
          have hz : Kept (fun b => b = b3) wq wz := by rw [hws]; exact Kept.setCells (p := fun b => b = b3) b3 rfl _ 0 wq (Kept.refl _ _)
          have kz := KQ.out.kept hz n3.symm
          obtain ⟨y0, y1, y2, y3⟩ := Bk.four kz
          have rz := RQ.out.kept hz (by omega)
          obtain ⟨r0, r1, r2, r3⟩ := Bk.four rz
          have rf := rz.frees
          have RZ := Lib.hid rz
          have HKZ := Lib.hid hz
          have HWS := Lib.hid hws
          clear hz kz rz hws
          go_wp2
          have kf := (((RZ.out.put 0 (.int .i64 0)).put 1 (.slice (some ⟨b1, 0, none⟩) k k)).put 2 (.slice (some ⟨b2, 0, none⟩) 12 12)).put 3 (.slice (some ⟨b3, 0, none⟩) 8 8)
          obtain ⟨s0, s1, s2, s3⟩ := (show Bk _ w.heap.size 26 #[.int .i64 0, .slice (some ⟨b1, 0, none⟩) k k, .slice (some ⟨b2, 0, none⟩) 12 12, .slice (some ⟨b3, 0, none⟩) 8 8] from kf).four
          have hk4 := four_kept wz w.heap.size (.int .i64 0) (.slice (some ⟨b1, 0, none⟩) k k) (.slice (some ⟨b2, 0, none⟩) 12 12) (.slice (some ⟨b3, 0, none⟩) 8 8)
          refine bodyPost_ret (v := .tuple #[.agg #[.int .i64 0, .slice (some ⟨b1, 0, none⟩) k k, .slice (some ⟨b2, 0, none⟩) 12 12, .slice (some ⟨b3, 0, none⟩) 8 8], .bool true]) (by simp [results, Try.results5, go_sem, s0, s1, s2, s3]) rfl ?_
          have hwr := HB2.out.size
          have hwq := HQ.out.size
          have hB3 := HB2.out.trans ((HQ.out.mono (by omega)).trans (HKZ.out.below (B := w.heap.size) (by omega) (fun j e => by omega)))
          have hBf := hB3.trans (hk4.below (B := w.heap.size) hB3.size (fun j e => by omega))
          rw [HWS.out] at hk4 hBf ⊢
          have q1 := HO1'.out.below HQ.out HO1'.out.1
          have q2 := HO2'.out.below HQ.out HO2'.out.1
          have d1 := HO1'.out.1
          have d2 := HO2'.out.1
          have d3 := HO3'.out.1
          exact ⟨_, rfl, nWOwn hn0 hn q1 q2 OQ.out HG9.out (by omega) (by omega) (by omega) n4 n5 n6 (by omega) (by omega) (by omega) hk4, hBf⟩
end Go.Proofs.Ytndbmeedimhohaa

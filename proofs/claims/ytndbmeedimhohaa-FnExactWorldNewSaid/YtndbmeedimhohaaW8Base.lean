/- Worlds: the reference's WorldNew. -/
import Derived.Test.YtndbmeedimhohaaW7Base
namespace Go.Proofs.Ytndbmeedimhohaa
open Go.RowKit
set_option maxRecDepth 100000 in
set_option maxHeartbeats 4000000 in
theorem sWorldNew_good (n : Nat) (hn0 : 1 ≤ n) (hn : n ≤ 4) (w : World) :
    Calls Try.prog 4 #[.int .i64 n] w fun e w' => ∃ h : WH, e = .returned (.tuple #[.agg #[.int .i64 0, .slice h.ca n h.cc, .slice h.ta 12 h.tc, .slice h.ga 8 h.gc], .bool true]) ∧ WNew w' w.heap.size (nWV n) h ∧ Below w.heap.size w w' := by
  have hin : inR n 1 4 = true := inR_iff.2 ⟨by omega, by omega⟩
  obtain ⟨i0, hi, hz0, hz1, hz2⟩ := info_parts infoCpuW
  obtain ⟨wa, hwa⟩ : ∃ wa : World, wa = w.alloc (.cells zWorld 26) := ⟨_, rfl⟩
  have HKa : Hid (Bk wa w.heap.size 26 zWorld) := by rw [hwa]; exact Bk.new _ _ _
  have HBa : Hid (Below w.heap.size w wa) := by rw [hwa]; exact (Below.refl _ _).alloc (Nat.le_refl _) _
  have hza : wa.heap.size = w.heap.size + 1 := by rw [hwa]; simp
  have HIN : Hid (∀ x : World, Calls Try.prog 9 #[.int .i64 n, .int .i64 1, .int .i64 4] x fun e w' => e = .returned (.bool true) ∧ x = w') := fun x => by have := l1In_any n 1 4 x; rw [hin] at this; exact this
  clear hin
  go_enter Try.func4, Try.ntmps4
  go_upto_region 3 with (go_at_call 9; refine (HIN.out _).mono ?_; rintro e w9 ⟨rfl, rfl⟩)
  rw [← show wa = w.alloc (.cells #[.int .i64 0, .slice none 0 0, .slice none 0 0, .slice none 0 0] 26) from hwa]
  clear hwa
  refine region_fr (by kernel_rfl) [10, 11, 12, 4] (fun a0 => a0.tmps.size = 30 ∧ a0.tmps[0]? = some (.int .i64 n)) (fun l xs w' => DM 5 wa swS (swT wa) zWorld 3 4 2 l xs w') ⟨by rfl, by rfl⟩ ?_ ?_ (by kernel_rfl) ?_
  · exact fun xs => DM.start (Below.refl _ _)
  · rintro a0 b xs l wc ⟨e0, f0⟩ fr d i hi
    have hlt := ready_lt hi
    have hnl := (mem_ready.1 hi).1
    have t0 := fr.ex (s := 0) (by decide) f0
    have hcs : i = 0 ∨ i = 1 ∨ i = 2 ∨ i = 3 ∨ i = 4 := by have : i < 5 := hlt; omega
    clear hlt
    rcases hcs with rfl | rfl | rfl | rfl | rfl
    · refine wpOp_step rfl (fun K hK => ?_)
      have hmk := make_TaskW wc
      have hmb : MKb wa (wc.alloc (.cells (madeCells zTask.toArray (108)) 56)) 56 wc.heap.size 12 9 zTask := MKb.new wa wc d.bel.size 56 zTask 12 9 rfl
      go_simp
      refine hK _ _ ⟨_, fr.put (s := 10) (by decide) _, d.put (i := 0) hnl (by decide) (by decide) (by decide) (by decide) (by decide) (by decide) (by decide) ((Below.refl _ _).alloc (Nat.le_refl _) _) (swT.bel ((Below.refl _ _).alloc (Nat.le_refl _) _)) (show swT wa 0 _ _ from ⟨_, rfl, hmb⟩)⟩
    · refine wpOp_step rfl (fun K hK => ?_)
      have hmk := make_GroupW wc
      have hmb : MKb wa (wc.alloc (.cells (madeCells zGroup.toArray (112)) 41)) 41 wc.heap.size 8 14 zGroup := MKb.new wa wc d.bel.size 41 zGroup 8 14 rfl
      go_simp
      refine hK _ _ ⟨_, fr.put (s := 11) (by decide) _, d.put (i := 1) hnl (by decide) (by decide) (by decide) (by decide) (by decide) (by decide) (by decide) ((Below.refl _ _).alloc (Nat.le_refl _) _) (swT.bel ((Below.refl _ _).alloc (Nat.le_refl _) _)) (show swT wa 1 _ _ from ⟨_, rfl, hmb⟩)⟩
    · refine wpOp_step rfl (fun K hK => ?_)
      obtain ⟨b2, h12, m2⟩ : swT wa 0 (xs 10) wc := d.at_ 0 (by decide) (by decide) (by decide) (ready_seen (k := 0) hi (by kernel_rfl))
      obtain ⟨b3, h13, m3⟩ : swT wa 1 (xs 11) wc := d.at_ 1 (by decide) (by decide) (by decide) (ready_seen (k := 1) hi (by kernel_rfl))
      have t12 : b.tmps[10]? = some (.slice (some ⟨b2, 0, none⟩) 12 12) := by rw [fr.in_ (s := 10) (by decide) (by omega), h12]
      have t13 : b.tmps[11]? = some (.slice (some ⟨b3, 0, none⟩) 8 8) := by rw [fr.in_ (s := 11) (by decide) (by omega), h13]
      go_simp
      refine hK _ _ ⟨_, fr.put (s := 12) (by decide) _, d.put (i := 2) hnl (by decide) (by decide) (by decide) (by decide) (by decide) (by decide) (by decide) (Below.refl _ _) (fun _ _ h => h) (show swT wa 2 _ _ from ⟨b2, b3, rfl, m2, m3⟩)⟩
    · refine wpOp_step rfl (fun K hK => ?_)
      go_simp
      refine hK _ _ ⟨_, fr.put (s := 4) (by decide) _, d.alloc_ hnl (by decide) (by decide) (swT.bel ((Below.refl _ _).alloc (Nat.le_refl _) _))⟩
    · refine wpOp_step rfl (fun K hK => ?_)
      have s5 : seen l 3 := ready_seen (k := 3) hi (by kernel_rfl)
      have s4 : seen l 2 := ready_seen (k := 2) hi (by kernel_rfl)
      obtain ⟨h, hh, h2, h3, _⟩ := d.var s5
      obtain ⟨b2, b3, h14, m2, m3⟩ : swT wa 2 (xs 12) wc := d.at_ 2 (by decide) (by decide) (by decide) s4
      have t4 : b.tmps[4]? = some (.pointer (some ⟨h, 0, none⟩)) := by rw [fr.in_ (s := 4) (by decide) (by omega)]; exact congrArg some hh
      have t14 : b.tmps[12]? = some (.agg #[.int .i64 0, .slice none 0 0, .slice (some ⟨b2, 0, none⟩) 12 12, .slice (some ⟨b3, 0, none⟩) 8 8]) := by rw [fr.in_ (s := 12) (by decide) (by omega), h14]
      have kz := h3 (not_seen hnl)
      obtain ⟨z0, z1, z2, z3⟩ := Bk.four kz
      have zf := kz.frees
      go_simp
      refine hK _ _ ⟨xs, fr, d.stored hnl (by decide) (by decide) s5 hh s4 h14 kz (swT.off kz _ _ _ _)⟩
  · intro xs l w1 d hall
    obtain ⟨h, hh, hh2, _, hh4⟩ := d.var (hall 3 (by decide))
    obtain ⟨_, cs, hcs1, hcs2⟩ := hh4 (hall 4 (by decide))
    obtain ⟨b2, b3, h14, m2, m3⟩ : swT wa 2 (xs 12) w1 := d.at_ 2 (by decide) (by decide) (by decide) (hall 2 (by decide))
    rw [show xs (swS 2) = xs 12 from rfl, h14, Value.agg.injEq] at hcs1
    subst hcs1
    have hx4 : xs 4 = .pointer (some ⟨h, 0, none⟩) := hh
    have HX := Lib.hid hcs2
    have HB := Lib.hid (HBa.out.trans (d.bel.mono (by omega)))
    have HZ := Lib.hid (HKa.out.below d.bel HKa.out.lt)
    have n2 := m2.apart hcs2 (by decide)
    have n3 := m3.apart hcs2 (by decide)
    obtain ⟨cs3, hb3⟩ := m3.2.1
    have n6 := m2.apart hb3 (by decide)
    have l2 := m2.2.2
    have l3 := m3.2.2
    have HO2 := Lib.hid m2.1
    have HO3 := Lib.hid m3.1
    have hw1 := HB.out.size
    have hhlt := HX.out.lt
    clear d hall hcs2 m2 m3 hb3 cs3 HKa HBa h14 hh hh4
    simp only [List.foldl_cons, List.foldl_nil, List.setIfInBounds_toArray, List.set_cons_succ, List.set_cons_zero, hx4]
    go_wp2
    go_loopw [5] (fun i wr => ∃ (k : Nat) (lv : Value), k ≤ n ∧ i = .int .i64 k ∧ Hid (wr.ownsRow w1.heap.size 34 5 lv k (flat k (fun _ => nCpu))) ∧ Hid (Bk wr h 26 #[.int .i64 0, lv, .slice (some ⟨b2, 0, none⟩) 12 12, .slice (some ⟨b3, 0, none⟩) 8 8]) ∧ Hid (Kept (fun x => x = h ∨ w1.heap.size ≤ x) w1 wr)) (fun i _ => n - (intOf i).toNat)
    case atStart => exact ⟨0, _, Nat.zero_le _, rfl, World.ownsRow_nil _ _ _ _, HX.out, Kept.refl _ _⟩
    case round =>
      obtain ⟨k, lv, hk, rfl, HO, HQ, HK⟩ := hrel
      have hzr := HK.out.size
      by_cases hlt : k < n
      · obtain ⟨_, q1, _, _⟩ := Bk.four HQ.out
        have qf := HQ.out.frees
        go_wp2_with (at_builtin; refine wpList_append_own _ rfl _ _ 22 rfl w1.heap.size 34 i0 (.agg zCpu.toArray) 5 40 Try.underlying22 hi hz0 hz1 hz2 rfl (by decide) lv k (flat k (fun _ => nCpu)) rfl (HO.out.alloc _) ⟨wr.heap.size, 0, none⟩ 1 1 nCpu rfl rfl (World.news_of_block (cs := nCpu.toArray) (t := 34) (fr := (0, 0)) (heap_alloc_new wr _)) ?c2 ?c3 ?c4 ?c5 ?_)
        case c2 => intro u hu; simp only [nCpu, List.mem_cons, List.not_mem_nil, or_false] at hu; rcases hu with rfl | rfl | rfl | rfl | rfl <;> rfl
        case c3 => unfold maxLen; omega
        case c4 => omega
        case c5 => rw [World.size_alloc]; omega
        intro lv' wn hown hgrow hnn
        have hrow : ∀ k, lv.ownBlock = some k → w1.heap.size ≤ k := fun k hk => (HO.out.lt k hk).1
        have hb1 : Below w1.heap.size wr wn := ((Below.refl _ wr).alloc (by omega) _).trans (below_grownW hgrow (by simp; omega) (fun k hk => by have := hrow k hk; omega))
        have hkn : Kept (fun x => x = h ∨ w1.heap.size ≤ x) w1 wn := HK.out.trans ⟨hb1.os, hb1.tape, hb1.output, hb1.size, fun i hi' hne => hb1.block i (by simp only [not_or, Nat.not_le] at hne; exact hne.2)⟩
        have hown2 : wn.ownsRow w1.heap.size 34 5 lv' (k + 1) (flat (k + 1) (fun _ => nCpu)) := by rw [flat_succ]; exact hown
        rcases owns_slice hown2 with ⟨rfl, _⟩ | ⟨b, cap, rfl, hcap⟩
        · exact absurd rfl hnn
        have hob : w1.heap.size ≤ b := (hown2.lt b rfl).1
        have HQ1 := HQ.out.below hb1 hhlt
        obtain ⟨_, j1, _, _⟩ := Bk.four HQ1
        have jf := HQ1.frees
        have HO2 : Hid ((wn.setCell ⟨h, 1, none⟩ (.slice (some ⟨b, 0, none⟩) (k + 1) cap)).ownsRow w1.heap.size 34 5 (.slice (some ⟨b, 0, none⟩) (k + 1) cap) (k + 1) (flat (k + 1) (fun _ => nCpu))) :=
          hown2.kept (row := some h) ⟨rfl, rfl, rfl, by simp, fun i hi hne => Below.heap_setCell _ _ _ _ (by simpa using hne)⟩ (.inr (by simp [Value.ownBlock]; omega))
        have HQ2 : Hid (Bk (wn.setCell ⟨h, 1, none⟩ (.slice (some ⟨b, 0, none⟩) (k + 1) cap)) h 26 #[.int .i64 0, .slice (some ⟨b, 0, none⟩) (k + 1) cap, .slice (some ⟨b2, 0, none⟩) 12 12, .slice (some ⟨b3, 0, none⟩) 8 8]) := HQ1.put 1 _
        have HK2 := Lib.hid (hkn.setCell (q := ⟨h, 1, none⟩) (.inl rfl) (.slice (some ⟨b, 0, none⟩) (k + 1) cap))
        clear hown hgrow hnn hrow hb1 hown2 HQ1 HO HQ HK q1 qf hkn
        go_wp2
        go_roundw
        case rel => exact ⟨k + 1, _, by omega, by go_num, HO2, HQ2, HK2⟩
        case measure => simp [intOf]; omega
      · obtain rfl : k = n := by omega
        obtain ⟨A1, c1, rfl, hq⟩ := owns_ownQ (fun _ => rfl) HO.out
        obtain ⟨b1, rfl, hg1, ho1⟩ := hq (by omega)
        have HO1' := Lib.hid ho1
        clear hq ho1 HO
        have HX2 := HQ
        have HZ2 := Lib.hid (HZ.out.kept HK.out (by omega))
        have HO2' := Lib.hid (HO2.out.kept HK.out (by have := HO2.out.1; omega))
        have HO3' := Lib.hid (HO3.out.kept HK.out (by have := HO3.out.1; omega))
        have HB2 := Lib.hid (HB.out.trans (HK.out.below (B := w.heap.size) (by have := HB.out.size; omega) (fun j e => by omega)))
        have n1 : b1 ≠ h := by omega
        have n4 : b1 ≠ b2 := by have := HO2.out.1; omega
        have n5 : b1 ≠ b3 := by have := HO3.out.1; omega
        have l1 : wa.heap.size ≤ b1 := by have := HO2.out.1; omega
        clear HQ HK HX HZ HO2 HO3 HB
        obtain ⟨x0, x1, x2, x3⟩ := Bk.four HX2.out
        go_upto_region 8 with fail
        go_region_with (go_at_call 10; go_loud (refine (l8Group_any (-1) ⟨#[]⟩ k hn0 hn _).mono ?_; rintro e wq ⟨g9, c9, rfl, hg9, ho9, hb9⟩; have hbq : Below wr.heap.size wr wq := ⟨hb9.os, hb9.tape, hb9.output, hb9.size, hb9.block⟩; have hg9' : wr.heap.size ≤ g9 := hg9; have kq := HX2.out.below hbq HX2.out.lt; obtain ⟨y0, y1, y2, y3⟩ := Bk.four kq; have rq := HZ2.out.below hbq HZ2.out.lt; obtain ⟨r0, r1, r2, r3⟩ := Bk.four rq; have rf := rq.frees; have oq := HO3'.out.below hbq HO3'.out.1; have e0 : wq.cell? ⟨b3, 0, none⟩ = some (.bool false) := oq.cell0 (by omega) 0 _ rfl; have f0 : wq.frozen? ⟨b3, 0, none⟩ = false := oq.free0 (by omega) 0 (by omega); have e1 : wq.cell? ⟨b3, 1, none⟩ = some (.int .i64 0) := oq.cell0 (by omega) 1 _ rfl; have f1 : wq.frozen? ⟨b3, 1, none⟩ = false := oq.free0 (by omega) 1 (by omega); have e2 : wq.cell? ⟨b3, 2, none⟩ = some (.string ⟨#[]⟩) := oq.cell0 (by omega) 2 _ rfl; have f2 : wq.frozen? ⟨b3, 2, none⟩ = false := oq.free0 (by omega) 2 (by omega); have e3 : wq.cell? ⟨b3, 3, none⟩ = some (.int .i64 0) := oq.cell0 (by omega) 3 _ rfl; have f3 : wq.frozen? ⟨b3, 3, none⟩ = false := oq.free0 (by omega) 3 (by omega); have e4 : wq.cell? ⟨b3, 4, none⟩ = some (.int .i64 0) := oq.cell0 (by omega) 4 _ rfl; have f4 : wq.frozen? ⟨b3, 4, none⟩ = false := oq.free0 (by omega) 4 (by omega); have e5 : wq.cell? ⟨b3, 5, none⟩ = some (.int .i64 0) := oq.cell0 (by omega) 5 _ rfl; have f5 : wq.frozen? ⟨b3, 5, none⟩ = false := oq.free0 (by omega) 5 (by omega); have e6 : wq.cell? ⟨b3, 6, none⟩ = some (.int .i64 0) := oq.cell0 (by omega) 6 _ rfl; have f6 : wq.frozen? ⟨b3, 6, none⟩ = false := oq.free0 (by omega) 6 (by omega); have e7 : wq.cell? ⟨b3, 7, none⟩ = some (.int .i64 0) := oq.cell0 (by omega) 7 _ rfl; have f7 : wq.frozen? ⟨b3, 7, none⟩ = false := oq.free0 (by omega) 7 (by omega); have e8 : wq.cell? ⟨b3, 8, none⟩ = some (.int .i64 0) := oq.cell0 (by omega) 8 _ rfl; have f8 : wq.frozen? ⟨b3, 8, none⟩ = false := oq.free0 (by omega) 8 (by omega); have e9 : wq.cell? ⟨b3, 9, none⟩ = some (.int .i64 0) := oq.cell0 (by omega) 9 _ rfl; have f9 : wq.frozen? ⟨b3, 9, none⟩ = false := oq.free0 (by omega) 9 (by omega); have e10 : wq.cell? ⟨b3, 10, none⟩ = some (.int .i64 0) := oq.cell0 (by omega) 10 _ rfl; have f10 : wq.frozen? ⟨b3, 10, none⟩ = false := oq.free0 (by omega) 10 (by omega); have e11 : wq.cell? ⟨b3, 11, none⟩ = some (.slice none 0 0) := oq.cell0 (by omega) 11 _ rfl; have f11 : wq.frozen? ⟨b3, 11, none⟩ = false := oq.free0 (by omega) 11 (by omega); have e12 : wq.cell? ⟨b3, 12, none⟩ = some (.slice none 0 0) := oq.cell0 (by omega) 12 _ rfl; have f12 : wq.frozen? ⟨b3, 12, none⟩ = false := oq.free0 (by omega) 12 (by omega); have e13 : wq.cell? ⟨b3, 13, none⟩ = some (.slice none 0 0) := oq.cell0 (by omega) 13 _ rfl; have f13 : wq.frozen? ⟨b3, 13, none⟩ = false := oq.free0 (by omega) 13 (by omega); have HQ := Lib.hid hbq; have HG9 := Lib.hid ho9; have OQ := Lib.hid oq; have RQ := Lib.hid rq; have KQ := Lib.hid kq; clear hb9 hbq kq rq ho9 oq; simp only [nGroup]))
        all_goals
          obtain ⟨wz, hwz⟩ : ∃ wz : World, wz = ((((((((((((((wq.setCell ⟨b3, 0, none⟩ (.bool true)).setCell ⟨b3, 1, none⟩ (.int .i64 (-1))).setCell ⟨b3, 2, none⟩ (.string ⟨#[]⟩)).setCell ⟨b3, 3, none⟩ (.int .i64 10)).setCell ⟨b3, 4, none⟩ (.int .i64 15)).setCell ⟨b3, 5, none⟩ (.int .i64 0)).setCell ⟨b3, 6, none⟩ (.int .i64 0)).setCell ⟨b3, 7, none⟩ (.int .i64 0)).setCell ⟨b3, 8, none⟩ (.int .i64 0)).setCell ⟨b3, 9, none⟩ (.int .i64 0)).setCell ⟨b3, 10, none⟩ (.int .i64 0)).setCell ⟨b3, 11, none⟩ (.slice none 0 0)).setCell ⟨b3, 12, none⟩ (.slice none 0 0)).setCell ⟨b3, 13, none⟩ (.slice (some ⟨g9, 0, none⟩) k c9)) := ⟨_, rfl⟩
          rw [← hwz]
          have hws : wz = wq.setCells b3 0 (nGroup (-1) ⟨#[]⟩ (.slice (some ⟨g9, 0, none⟩) k c9)).toList := hwz.trans rfl
          clear hwz
          clear e0 e1 e2 e3 e4 e5 e6 e7 e8 e9 e10 e11 e12 e13 f0 f1 f2 f3 f4 f5 f6 f7 f8 f9 f10 f11 f12 f13
          clear x0 x1 x2 x3 y0 y1 y2 y3 r0 r1 r2 r3 rf
          have hz : Kept (fun b => b = b3) wq wz := by rw [hws]; exact Kept.setCells (p := fun b => b = b3) b3 rfl _ 0 wq (Kept.refl _ _)
          have kz := KQ.out.kept hz n3.symm
          obtain ⟨y0, y1, y2, y3⟩ := Bk.four kz
          have rz := RQ.out.kept hz (by omega)
          obtain ⟨r0, r1, r2, r3⟩ := Bk.four rz
          have rf := rz.frees
          have RZ := Lib.hid rz
          have HKZ := Lib.hid hz
          have HWS := Lib.hid hws
          clear hz kz rz hws
          go_wp2
          have kf := (((RZ.out.put 0 (.int .i64 0)).put 1 (.slice (some ⟨b1, 0, none⟩) k c1)).put 2 (.slice (some ⟨b2, 0, none⟩) 12 12)).put 3 (.slice (some ⟨b3, 0, none⟩) 8 8)
          obtain ⟨s0, s1, s2, s3⟩ := (show Bk _ w.heap.size 26 #[.int .i64 0, .slice (some ⟨b1, 0, none⟩) k c1, .slice (some ⟨b2, 0, none⟩) 12 12, .slice (some ⟨b3, 0, none⟩) 8 8] from kf).four
          have hk4 := four_kept wz w.heap.size (.int .i64 0) (.slice (some ⟨b1, 0, none⟩) k c1) (.slice (some ⟨b2, 0, none⟩) 12 12) (.slice (some ⟨b3, 0, none⟩) 8 8)
          refine bodyPost_ret (v := .tuple #[.agg #[.int .i64 0, .slice (some ⟨b1, 0, none⟩) k c1, .slice (some ⟨b2, 0, none⟩) 12 12, .slice (some ⟨b3, 0, none⟩) 8 8], .bool true]) (by simp [results, Try.results4, go_sem, s0, s1, s2, s3]) rfl ?_
          have hwr := HB2.out.size
          have hwq := HQ.out.size
          have hB3 := HB2.out.trans ((HQ.out.mono (by omega)).trans (HKZ.out.below (B := w.heap.size) (by omega) (fun j e => by omega)))
          have hBf := hB3.trans (hk4.below (B := w.heap.size) hB3.size (fun j e => by omega))
          rw [HWS.out] at hk4 hBf ⊢
          have q1 := HO1'.out.below HQ.out HO1'.out.1
          have q2 := HO2'.out.below HQ.out HO2'.out.1
          have d1 := HO1'.out.1
          have d2 := HO2'.out.1
          have d3 := HO3'.out.1
          exact ⟨_, rfl, nWOwn hn0 hn q1 q2 OQ.out HG9.out (by omega) (by omega) (by omega) n4 n5 n6 (by omega) (by omega) (by omega) hk4, hBf⟩
end Go.Proofs.Ytndbmeedimhohaa

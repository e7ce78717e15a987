/- Trees: groups: equality, sizes (printed by mkg5.py). -/
import Derived.Test.YtclloljigdmdnaaG4Base
namespace Go.Proofs.Ytclloljigdmdnaa
open Go.RowKit
set_option maxHeartbeats 1000000 in
theorem eqGroup_t (g : GV) (h h2 : GH) (hl : GLen g) (w W : World) (hb : Below W.heap.size W w) (hR : GRd W W.heap.size g h) (hR2 : GRd W W.heap.size g h2) :
    Calls Try.prog 31 #[.agg #[.bool g.us, .int .i64 g.pa, .string g.nm, .int .i64 g.we, .int .i64 g.cp, .int .i64 g.pe, .int .i64 g.ne, .int .i64 g.su, .int .i64 g.qu, .int .i64 g.po, .int .i64 g.sp, .slice h.la g.ln h.lc, .slice h.da g.dn h.dc, .slice h.sa g.sn h.sc], .agg #[.bool g.us, .int .i64 g.pa, .string g.nm, .int .i64 g.we, .int .i64 g.cp, .int .i64 g.pe, .int .i64 g.ne, .int .i64 g.su, .int .i64 g.qu, .int .i64 g.po, .int .i64 g.sp, .slice h2.la g.ln h2.lc, .slice h2.da g.dn h2.dc, .slice h2.sa g.sn h2.sc]] w fun e w' => e = .returned (.bool true) ∧ Below w.heap.size w w' := by
  have HR := Lib.hid (hR.at_ hb)
  have HR2 := Lib.hid (hR2.at_ hb)
  have HL := Lib.hid hl
  clear hR hR2 hl
  go_enter Try.func31, Try.ntmps31
  go_wp2_with fail
  refine (eqBand_t g.qu g.po g.sp h.la h.da h2.la h2.da g.ln g.dn h.lc h.dc h2.lc h2.dc HL.out.l HL.out.d g.lf g.df _ w (by go_grown) HR.out.l HR.out.d HR2.out.l HR2.out.d).mono ?_
  rintro e w1 ⟨rfl, hb1⟩
  have hB1 : Below w.heap.size w w1 := (by go_grown : Below w.heap.size w _).trans (hb1.mono (by simp only [World.size_alloc]; omega))
  have k1 := ((Bk.new' w w.heap.size _ _ rfl).alloc _).below hb1 (by simp only [World.size_alloc]; omega)
  have k2 := (Bk.new' _ (w.heap.size + 1) _ _ (by simp)).below hb1 (by simp only [World.size_alloc]; omega)
  clear hb1
  have c : w1.cell? ⟨w.heap.size, 13, none⟩ = some (.slice h.sa g.sn h.sc) := k1.cell 13
  have d : w1.cell? ⟨w.heap.size + 1, 13, none⟩ = some (.slice h2.sa g.sn h2.sc) := k2.cell 13
  clear k1 k2
  go_wp2_with fail
  refine (eqShelfS_t h.sa h2.sa g.sn h.sc h2.sc HL.out.s g.s0 g.s1 g.s2 g.s3 g.s4 _ w hB1 HR.out.s HR2.out.s).mono ?_
  rintro e w2 ⟨rfl, hb2⟩
  go_wp2
  go_ret
  exact ⟨rfl, hB1.trans (hb2.mono hB1.size)⟩
set_option maxHeartbeats 4000000 in
theorem eqGroupS_t (A A' : Option Addr) (n c c' : Nat) (hn : n ≤ 1048576) (g : Nat → GV) (h h2 : Nat → GH) (hL : ∀ i, i < n → GLen (g i)) (w W : World) (hb : Below W.heap.size W w) (hA : GsRd W W.heap.size A n g h) (hA' : GsRd W W.heap.size A' n g h2) :
    Calls Try.prog 12 #[.slice A n c, .slice A' n c'] w fun e w' => e = .returned (.bool true) ∧ Below w.heap.size w w' := by
  rcases Nat.eq_zero_or_pos n with h0 | h0
  · subst h0
    go_enter Try.func12, Try.ntmps12
    go_wp2
    refine wp_loop_rounds 1 ?_
    rw [rounds_succ]
    go_wp2
    go_ret
    exact ⟨rfl, Below.refl _ _⟩
  · obtain ⟨ga, oa, rfl, hga, hca⟩ := (hA.at_ hb).r h0
    obtain ⟨ga', oa', rfl, hga', hca'⟩ := (hA'.at_ hb).r h0
    have HC := Lib.hid hca
    have HC' := Lib.hid hca'
    have HD := Lib.hid (hA.at_ hb).d
    have HD' := Lib.hid (hA'.at_ hb).d
    have HL := Lib.hid hL
    clear hca hA hca' hA' hL
    go_enter Try.func12, Try.ntmps12
    go_wp2
    go_loopw [5] (fun i wr => ∃ k : Nat, k ≤ n ∧ i = .int .i64 k ∧ Below w.heap.size w wr) (fun i _ => n - (intOf i).toNat)
    case atStart => exact ⟨0, Nat.zero_le _, rfl, Below.refl _ _⟩
    case round =>
      obtain ⟨k, hk, rfl, hbr⟩ := hrel
      by_cases hlt : k < n
      · have hr := rangeAt_below (HC.out k hlt) hbr hga
        have hr' := rangeAt_below (HC'.out k hlt) hbr hga'
        have c0 : wr.cell? ⟨ga, oa + k * 14 + 0, none⟩ = some (.bool (g k).us) := hr 0 _ rfl
        have c1 : wr.cell? ⟨ga, oa + k * 14 + 1, none⟩ = some (.int .i64 (g k).pa) := hr 1 _ rfl
        have c2 : wr.cell? ⟨ga, oa + k * 14 + 2, none⟩ = some (.string (g k).nm) := hr 2 _ rfl
        have c3 : wr.cell? ⟨ga, oa + k * 14 + 3, none⟩ = some (.int .i64 (g k).we) := hr 3 _ rfl
        have c4 : wr.cell? ⟨ga, oa + k * 14 + 4, none⟩ = some (.int .i64 (g k).cp) := hr 4 _ rfl
        have c5 : wr.cell? ⟨ga, oa + k * 14 + 5, none⟩ = some (.int .i64 (g k).pe) := hr 5 _ rfl
        have c6 : wr.cell? ⟨ga, oa + k * 14 + 6, none⟩ = some (.int .i64 (g k).ne) := hr 6 _ rfl
        have c7 : wr.cell? ⟨ga, oa + k * 14 + 7, none⟩ = some (.int .i64 (g k).su) := hr 7 _ rfl
        have c8 : wr.cell? ⟨ga, oa + k * 14 + 8, none⟩ = some (.int .i64 (g k).qu) := hr 8 _ rfl
        have c9 : wr.cell? ⟨ga, oa + k * 14 + 9, none⟩ = some (.int .i64 (g k).po) := hr 9 _ rfl
        have c10 : wr.cell? ⟨ga, oa + k * 14 + 10, none⟩ = some (.int .i64 (g k).sp) := hr 10 _ rfl
        have c11 : wr.cell? ⟨ga, oa + k * 14 + 11, none⟩ = some (.slice (h k).la (g k).ln (h k).lc) := hr 11 _ rfl
        have c12 : wr.cell? ⟨ga, oa + k * 14 + 12, none⟩ = some (.slice (h k).da (g k).dn (h k).dc) := hr 12 _ rfl
        have c13 : wr.cell? ⟨ga, oa + k * 14 + 13, none⟩ = some (.slice (h k).sa (g k).sn (h k).sc) := hr 13 _ rfl
        have d0 : wr.cell? ⟨ga', oa' + k * 14 + 0, none⟩ = some (.bool (g k).us) := hr' 0 _ rfl
        have d1 : wr.cell? ⟨ga', oa' + k * 14 + 1, none⟩ = some (.int .i64 (g k).pa) := hr' 1 _ rfl
        have d2 : wr.cell? ⟨ga', oa' + k * 14 + 2, none⟩ = some (.string (g k).nm) := hr' 2 _ rfl
        have d3 : wr.cell? ⟨ga', oa' + k * 14 + 3, none⟩ = some (.int .i64 (g k).we) := hr' 3 _ rfl
        have d4 : wr.cell? ⟨ga', oa' + k * 14 + 4, none⟩ = some (.int .i64 (g k).cp) := hr' 4 _ rfl
        have d5 : wr.cell? ⟨ga', oa' + k * 14 + 5, none⟩ = some (.int .i64 (g k).pe) := hr' 5 _ rfl
        have d6 : wr.cell? ⟨ga', oa' + k * 14 + 6, none⟩ = some (.int .i64 (g k).ne) := hr' 6 _ rfl
        have d7 : wr.cell? ⟨ga', oa' + k * 14 + 7, none⟩ = some (.int .i64 (g k).su) := hr' 7 _ rfl
        have d8 : wr.cell? ⟨ga', oa' + k * 14 + 8, none⟩ = some (.int .i64 (g k).qu) := hr' 8 _ rfl
        have d9 : wr.cell? ⟨ga', oa' + k * 14 + 9, none⟩ = some (.int .i64 (g k).po) := hr' 9 _ rfl
        have d10 : wr.cell? ⟨ga', oa' + k * 14 + 10, none⟩ = some (.int .i64 (g k).sp) := hr' 10 _ rfl
        have d11 : wr.cell? ⟨ga', oa' + k * 14 + 11, none⟩ = some (.slice (h2 k).la (g k).ln (h2 k).lc) := hr' 11 _ rfl
        have d12 : wr.cell? ⟨ga', oa' + k * 14 + 12, none⟩ = some (.slice (h2 k).da (g k).dn (h2 k).dc) := hr' 12 _ rfl
        have d13 : wr.cell? ⟨ga', oa' + k * 14 + 13, none⟩ = some (.slice (h2 k).sa (g k).sn (h2 k).sc) := hr' 13 _ rfl
        simp only [Nat.add_zero] at c0 d0
        have hBr := Lib.hid hbr
        have hzr := hbr.size
        have HX := Lib.hid (HD.out k hlt)
        have HX' := Lib.hid (HD'.out k hlt)
        have HLk := Lib.hid (HL.out k hlt)
        clear HC HC' HD HD' HL hr hr' hbr
        go_wp2
        go_region_with (go_at_call 31; refine (eqGroup_t (g k) (h k) (h2 k) HLk.out _ w (by first | exact hBr.out | exact hBr.out.drew) HX.out HX'.out).mono ?_; rintro e w1 ⟨rfl, hb1⟩)
        all_goals
          go_wp2
          go_roundw
          case rel => exact ⟨k + 1, by omega, by go_num, hBr.out.trans (((Below.refl _ wr).drew.trans hb1).mono hzr)⟩
          case measure => simp [intOf]; omega
      · obtain rfl : k = n := by omega
        go_wp2
        go_ret
        exact ⟨rfl, hbr⟩
theorem szN_cases (l : Int) (n : Nat) : szN l n = -1 ∨ (0 ≤ szN l n ∧ szN l n = l - n) := by unfold szN; split <;> omega
set_option maxHeartbeats 1000000 in
theorem szGroup_any (g : GV) (h : GH) (hB : GBig g) (l : Int) (h0 : 0 ≤ l) (hl : l ≤ 1048576) (w W : World) (hb : Below W.heap.size W w) :
    Calls Try.prog 25 #[.agg #[.bool g.us, .int .i64 g.pa, .string g.nm, .int .i64 g.we, .int .i64 g.cp, .int .i64 g.pe, .int .i64 g.ne, .int .i64 g.su, .int .i64 g.qu, .int .i64 g.po, .int .i64 g.sp, .slice h.la g.ln h.lc, .slice h.da g.dn h.dc, .slice h.sa g.sn h.sc], .int .i64 l] w fun e w' => ∃ r : Int, e = .returned (.int .i64 r) ∧ Below W.heap.size W w' ∧ (r = -1 ∨ (0 ≤ r ∧ r ≤ l ∧ GLen g)) := by
  obtain ⟨b1, b2, b3, b4⟩ := hB
  have hz := hb.size
  by_cases h1 : l - g.nm.size < 0
  · go_enter Try.func25, Try.ntmps25
    go_wp2
    go_ret
    exact ⟨-1, rfl, by go_grown, .inl rfl⟩
  · by_cases h2 : l - g.nm.size - g.ln - g.dn < 0
    · have hs := szB_neg2 (l - g.nm.size) g.ln g.dn h2
      go_enter Try.func25, Try.ntmps25
      go_wp2_with fail
      refine (szBand_any g.qu g.po g.sp (l - g.nm.size) h.la h.da g.ln g.dn h.lc h.dc (by omega) (by omega) b2 b3 _ _ (Below.refl _ _)).mono ?_
      rintro e w1 ⟨rfl, hb1⟩
      rw [hs]
      have hB1 : Below W.heap.size W w1 := (by go_grown : Below W.heap.size W _).trans (hb1.mono (by simp only [World.size_alloc]; omega))
      clear hb1
      go_wp2
      go_ret
      exact ⟨-1, rfl, hB1, .inl rfl⟩
    · have hs := szB_pos (l - g.nm.size) g.ln g.dn h2
      have hs3 := szN_cases (l - g.nm.size - g.ln - g.dn) g.sn
      go_enter Try.func25, Try.ntmps25
      go_wp2_with fail
      refine (szBand_any g.qu g.po g.sp (l - g.nm.size) h.la h.da g.ln g.dn h.lc h.dc (by omega) (by omega) b2 b3 _ _ (Below.refl _ _)).mono ?_
      rintro e w1 ⟨rfl, hb1⟩
      rw [hs]
      have hB1 : Below W.heap.size W w1 := (by go_grown : Below W.heap.size W _).trans (hb1.mono (by simp only [World.size_alloc]; omega))
      have k1 := (Bk.new' w w.heap.size _ _ rfl).below hb1 (by simp only [World.size_alloc]; omega)
      have c : w1.cell? ⟨w.heap.size, 13, none⟩ = some (.slice h.sa g.sn h.sc) := k1.cell 13
      clear hb1 k1
      rcases hs3 with hs3 | ⟨hs3, hs4⟩
      · go_wp2_with (go_at_call 42; refine (szShelfS_any h.sa g.sn h.sc _ (by omega) (by omega) b4 _).mono ?_; rintro e w2 ⟨rfl, rfl⟩; rw [hs3])
        go_ret
        exact ⟨-1, rfl, hB1, .inl rfl⟩
      · go_wp2_with (go_at_call 42; refine (szShelfS_any h.sa g.sn h.sc _ (by omega) (by omega) b4 _).mono ?_; rintro e w2 ⟨rfl, rfl⟩; rw [hs4])
        go_ret
        exact ⟨_, rfl, hB1, .inr ⟨by omega, by omega, ⟨by omega, by omega, by omega, by omega⟩⟩⟩
set_option maxHeartbeats 1000000 in
theorem szGroupS_any (A : Option Addr) (n c : Nat) (hn : (n : Int) ≤ 9223372036854775807) (g : Nat → GV) (h : Nat → GH) (hB : ∀ i, i < n → GBig (g i)) (l : Int) (h0 : 0 ≤ l) (hl : l ≤ 1048576) (w W : World) (hb : Below W.heap.size W w) (hA : GsRd W W.heap.size A n g h) :
    Calls Try.prog 8 #[.slice A n c, .int .i64 l] w fun e w' => ∃ r : Int, e = .returned (.int .i64 r) ∧ Below W.heap.size W w' ∧ (r = -1 ∨ (0 ≤ r ∧ r ≤ l ∧ n ≤ 1048576 ∧ ∀ i, i < n → GLen (g i))) := by
  have hz := hb.size
  by_cases h1 : l - n < 0
  · go_enter Try.func8, Try.ntmps8
    go_wp2
    go_ret
    exact ⟨-1, rfl, by go_grown, .inl rfl⟩
  · rcases Nat.eq_zero_or_pos n with hn0 | hn0
    · subst hn0
      go_enter Try.func8, Try.ntmps8
      go_wp2
      refine wp_loop_rounds 1 ?_
      rw [rounds_succ]
      go_wp2
      go_ret
      exact ⟨_, rfl, by go_grown, .inr ⟨by omega, by omega, by omega, fun i hi => by omega⟩⟩
    · obtain ⟨ga, oa, rfl, hga, hca⟩ := (hA.at_ hb).r hn0
      have HC := Lib.hid hca
      have HBg := Lib.hid hB
      clear hca hA hB
      go_enter Try.func8, Try.ntmps8
      go_wp2
      go_loopw [1, 5] (fun j i wr => ∃ k : Nat, k ≤ n ∧ i = .int .i64 k ∧ (∃ x : Int, j = .int .i64 x ∧ 0 ≤ x ∧ x ≤ l) ∧ (∀ i, i < k → GLen (g i)) ∧ Below w.heap.size w wr) (fun _ i _ => n - (intOf i).toNat)
      case atStart => exact ⟨0, Nat.zero_le _, rfl, ⟨_, rfl, by omega, by omega⟩, fun i hi => by omega, Below.refl _ _⟩
      case round =>
        obtain ⟨k, hk, rfl, ⟨x, rfl, hx0, hx1⟩, hgl, hbr⟩ := hrel
        by_cases hlt : k < n
        · have hr : Hid (wr.rangeAt ga (oa + k * 14) [.bool (g k).us, .int .i64 (g k).pa, .string (g k).nm, .int .i64 (g k).we, .int .i64 (g k).cp, .int .i64 (g k).pe, .int .i64 (g k).ne, .int .i64 (g k).su, .int .i64 (g k).qu, .int .i64 (g k).po, .int .i64 (g k).sp, .slice (h k).la (g k).ln (h k).lc, .slice (h k).da (g k).dn (h k).dc, .slice (h k).sa (g k).sn (h k).sc]) := Lib.hid (rangeAt_below (HC.out k hlt) hbr hga)
          have HGk := Lib.hid (HBg.out k hlt)
          have HGL := Lib.hid hgl
          clear hgl
          go_wp2_with (refine wpList_load_mid rfl 44 _ rfl ga (oa + k * 14) rfl _ _ hr.out Try.underlying44 rfl (by kernel_rfl) ?_)
          refine (szGroup_any (g k) (h k) HGk.out x hx0 (by omega) _ w hbr).mono ?_
          rintro e w1 ⟨r, rfl, hb1, hr1⟩
          clear hr
          rcases hr1 with rfl | ⟨hr1, hr2, hr3⟩
          · go_wp2
            go_ret
            exact ⟨-1, rfl, hb.trans (hb1.mono hz), .inl rfl⟩
          · have HR3 := Lib.hid hr3
            clear hr3
            go_wp2
            go_roundw
            case rel => exact ⟨k + 1, by omega, by go_num, ⟨r, rfl, hr1, by omega⟩, fun i hi => by
              by_cases e : i = k
              · subst e; exact HR3.out
              · exact HGL.out i (by omega), hb1⟩
            case measure => simp [intOf]; omega
        · obtain rfl : k = n := by omega
          have HGL := Lib.hid hgl
          clear hgl
          go_wp2
          go_ret
          exact ⟨x, rfl, hb.trans (hbr.mono hz), .inr ⟨hx0, hx1, by omega, HGL.out⟩⟩
end Go.Proofs.Ytclloljigdmdnaa

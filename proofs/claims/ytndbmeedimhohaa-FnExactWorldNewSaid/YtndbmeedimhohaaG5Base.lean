/- Trees: groups: equality, sizes (printed by mkg5.py). -/
import Derived.Test.YtndbmeedimhohaaG4Base
namespace Go.Proofs.Ytndbmeedimhohaa
open Go.RowKit
set_option maxHeartbeats 1000000 in
theorem eqGroup_t (g : GV) (h h2 : GH) (hl : GLen g) (w W : World) (hb : Below W.heap.size W w) (hR : GRd W W.heap.size g h) (hR2 : GRd W W.heap.size g h2) :
    Calls Try.prog 25 #[.agg #[.bool g.us, .int .i64 g.pa, .string g.nm, .int .i64 g.we, .int .i64 g.cp, .int .i64 g.pe, .int .i64 g.ne, .int .i64 g.su, .int .i64 g.qu, .int .i64 g.po, .int .i64 g.sp, .slice h.la g.ln h.lc, .slice h.da g.dn h.dc, .slice h.sa g.sn h.sc], .agg #[.bool g.us, .int .i64 g.pa, .string g.nm, .int .i64 g.we, .int .i64 g.cp, .int .i64 g.pe, .int .i64 g.ne, .int .i64 g.su, .int .i64 g.qu, .int .i64 g.po, .int .i64 g.sp, .slice h2.la g.ln h2.lc, .slice h2.da g.dn h2.dc, .slice h2.sa g.sn h2.sc]] w fun e w' => e = .returned (.bool true) ∧ Below w.heap.size w w' := by
  have HR := Lib.hid (hR.at_ hb)
  have HR2 := Lib.hid (hR2.at_ hb)
  have HL := Lib.hid hl
  clear hR hR2 hl
  go_enter Try.func25, Try.ntmps25
  go_wp2_with fail
  refine (eqBand_t g.qu g.po g.sp h.la h.da h2.la h2.da g.ln g.dn h.lc h.dc h2.lc h2.dc HL.out.l HL.out.d g.lf g.df _ w (by go_grown) HR.out.l HR.out.d HR2.out.l HR2.out.d).mono ?_
  rintro e w1 ⟨rfl, hb1⟩
  have hB1 : Below w.heap.size w w1 := (by go_grown : Below w.heap.size w _).trans (hb1.mono (by simp only [World.size_alloc]; omega))
  have k1 := ((Bk.new' w w.heap.size _ _ rfl).alloc _).below hb1 (by simp only [World.size_alloc]; omega)
  have k2 := (Bk.new' _ (w.heap.size + 1) _ _ (by simp)).below hb1 (by simp only [World.size_alloc]; omega)
  clear hb1
  have c : w1.cell? ⟨w.heap.size, 13, none⟩ = some (.slice h.sa g.sn h.sc) := k1.cell 13
  have d : w1.cell? ⟨w.heap.size + 1, 13, none⟩ = some (.slice h2.sa g.sn h2.sc) := k2.cell 13
  clear k1 k2
  go_wp2_with fail
  refine (eqShelfS_t h.sa h2.sa g.sn h.sc h2.sc HL.out.s g.s0 g.s1 g.s2 g.s3 g.s4 _ w hB1 HR.out.s HR2.out.s).mono ?_
  rintro e w2 ⟨rfl, hb2⟩
  go_wp2
  go_ret
  exact ⟨rfl, hB1.trans (hb2.mono hB1.size)⟩
set_option maxHeartbeats 4000000 in
theorem eqGroupS_t (A A' : Option Addr) (n c c' : Nat) (hn : n ≤ 1048576) (g : Nat → GV) (h h2 : Nat → GH) (hL : ∀ i, i < n → GLen (g i)) (w W : World) (hb : Below W.heap.size W w) (hA : GsRd W W.heap.size A n g h) (hA' : GsRd W W.heap.size A' n g h2) :
    Calls Try.prog 15 #[.slice A n c, .slice A' n c'] w fun e w' => e = .returned (.bool true) ∧ Below w.heap.size w w' := by
  rcases Nat.eq_zero_or_pos n with h0 | h0
  · subst h0
    go_enter Try.func15, Try.ntmps15
    go_wp2
    refine wp_loop_rounds 1 ?_
    rw [rounds_succ]
    go_wp2
    go_ret
    exact ⟨rfl, Below.refl _ _⟩
  · obtain ⟨ga, oa, rfl, hga, hca⟩ := (hA.at_ hb).r h0
    obtain ⟨ga', oa', rfl, hga', hca'⟩ := (hA'.at_ hb).r h0
    have HC := Lib.hid hca
    have HC' := Lib.hid hca'
    have HD := Lib.hid (hA.at_ hb).d
    have HD' := Lib.hid (hA'.at_ hb).d
    have HL := Lib.hid hL
    clear hca hA hca' hA' hL
    go_enter Try.func15, Try.ntmps15
    go_wp2
    go_loopw [5] (fun i wr => ∃ k : Nat, k ≤ n ∧ i = .int .i64 k ∧ Below w.heap.size w wr) (fun i _ => n - (intOf i).toNat)
    case atStart => exact ⟨0, Nat.zero_le _, rfl, Below.refl _ _⟩
    case round =>
      obtain ⟨k, hk, rfl, hbr⟩ := hrel
      by_cases hlt : k < n
      · have hr := rangeAt_below (HC.out k hlt) hbr hga
        have hr' := rangeAt_below (HC'.out k hlt) hbr hga'
        have c0 : wr.cell? ⟨ga, oa + k * 14 + 0, none⟩ = some (.bool (g k).us) := hr 0 _ rfl
        have c1 : wr.cell? ⟨ga, oa + k * 14 + 1, none⟩ = some (.int .i64 (g k).pa) := hr 1 _ rfl
        have c2 : wr.cell? ⟨ga, oa + k * 14 + 2, none⟩ = some (.string (g k).nm) := hr 2 _ rfl
        have c3 : wr.cell? ⟨ga, oa + k * 14 + 3, none⟩ = some (.int .i64 (g k).we) := hr 3 _ rfl
        have c4 : wr.cell? ⟨ga, oa + k * 14 + 4, none⟩ = some (.int .i64 (g k).cp) := hr 4 _ rfl
        have c5 : wr.cell? ⟨ga, oa + k * 14 + 5, none⟩ = some (.int .i64 (g k).pe) := hr 5 _ rfl
        have c6 : wr.cell? ⟨ga, oa + k * 14 + 6, none⟩ = some (.int .i64 (g k).ne) := hr 6 _ rfl
        have c7 : wr.cell? ⟨ga, oa + k * 14 + 7, none⟩ = some (.int .i64 (g k).su) := hr 7 _ rfl
        have c8 : wr.cell? ⟨ga, oa + k * 14 + 8, none⟩ = some (.int .i64 (g k).qu) := hr 8 _ rfl
        have c9 : wr.cell? ⟨ga, oa + k * 14 + 9, none⟩ = some (.int .i64 (g k).po) := hr 9 _ rfl
        have c10 : wr.cell? ⟨ga, oa + k * 14 + 10, none⟩ = some (.int .i64 (g k).sp) := hr 10 _ rfl
        have c11 : wr.cell? ⟨ga, oa + k * 14 + 11, none⟩ = some (.slice (h k).la (g k).ln (h k).lc) := hr 11 _ rfl
        have c12 : wr.cell? ⟨ga, oa + k * 14 + 12, none⟩ = some (.slice (h k).da (g k).dn (h k).dc) := hr 12 _ rfl
        have c13 : wr.cell? ⟨ga, oa + k * 14 + 13, none⟩ = some (.slice (h k).sa (g k).sn (h k).sc) := hr 13 _ rfl
        have d0 : wr.cell? ⟨ga', oa' + k * 14 + 0, none⟩ = some (.bool (g k).us) := hr' 0 _ rfl
        have d1 : wr.cell? ⟨ga', oa' + k * 14 + 1, none⟩ = some (.int .i64 (g k).pa) := hr' 1 _ rfl
        have d2 : wr.cell? ⟨ga', oa' + k * 14 + 2, none⟩ = some (.string (g k).nm) := hr' 2 _ rfl
        have d3 : wr.cell? ⟨ga', oa' + k * 14 + 3, none⟩ = some (.int .i64 (g k).we) := hr' 3 _ rfl
        have d4 : wr.cell? ⟨ga', oa' + k * 14 + 4, none⟩ = some (.int .i64 (g k).cp) := hr' 4 _ rfl
        have d5 : wr.cell? ⟨ga', oa' + k * 14 + 5, none⟩ = some (.int .i64 (g k).pe) := hr' 5 _ rfl
        have d6 : wr.cell? ⟨ga', oa' + k * 14 + 6, none⟩ = some (.int .i64 (g k).ne) := hr' 6 _ rfl
        have d7 : wr.cell? ⟨ga', oa' + k * 14 + 7, none⟩ = some (.int .i64 (g k).su) := hr' 7 _ rfl
        have d8 : wr.cell? ⟨ga', oa' + k * 14 + 8, none⟩ = some (.int .i64 (g k).qu) := hr' 8 _ rfl
        have d9 : wr.cell? ⟨ga', oa' + k * 14 + 9, none⟩ = some (.int .i64 (g k).po) := hr' 9 _ rfl
        have d10 : wr.cell? ⟨ga', oa' + k * 14 + 10, none⟩ = some (.int .i64 (g k).sp) := hr' 10 _ rfl
        have d11 : wr.cell? ⟨ga', oa' + k * 14 + 11, none⟩ = some (.slice (h2 k).la (g k).ln (h2 k).lc) := hr' 11 _ rfl
        have d12 : wr.cell? ⟨ga', oa' + k * 14 + 12, none⟩ = some (.slice (h2 k).da (g k).dn (h2 k).dc) := hr' 12 _ rfl
        have d13 : wr.cell? ⟨ga', oa' + k * 14 + 13, none⟩ = some (.slice (h2 k).sa (g k).sn (h2 k).sc) := hr' 13 _ rfl
        simp only [Nat.add_zero] at c0 d0
        have hBr := Lib.hid hbr
        have hzr := hbr.size
        have HX := Lib.hid (HD.out k hlt)
        have HX' := Lib.hid (HD'.out k hlt)
        have HLk := Lib.hid (HL.out k hlt)
        clear HC HC' HD HD' HL hr hr' hbr
        go_wp2
        go_region_with (go_at_call 25; refine (eqGroup_t (g k) (h k) (h2 k) HLk.out _ w (by first | exact hBr.out | exact hBr.out.drew) HX.out HX'.out).mono ?_; rintro e w1 ⟨rfl, hb1⟩)
        all_goals
          go_wp2
          go_roundw
          case rel => exact ⟨k + 1, by omega, by go_num, hBr.out.trans (((Below.refl _ wr).drew.trans hb1).mono hzr)⟩
          case measure => simp [intOf]; omega
      · obtain rfl : k = n := by omega
        go_wp2
        go_ret
        exact ⟨rfl, hbr⟩
theorem szN_cases (l : Int) (n : Nat) : szN l n = -1 ∨ (0 ≤ szN l n ∧ szN l n = l - n) := by unfold szN; split <;> omega
end Go.Proofs.Ytndbmeedimhohaa

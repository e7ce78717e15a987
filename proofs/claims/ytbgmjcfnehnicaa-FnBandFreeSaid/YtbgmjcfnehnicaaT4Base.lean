/- stBand of equal bands; what BandDo does with a good band. -/
import Derived.Test.YtbgmjcfnehnicaaT3Base
import Derived.Test.YtbgmjcfnehnicaaB3Base
import Derived.Test.YtbgmjcfnehnicaaB20Base
import Derived.Deep.QuietTactic
import Derived.BigQuiet
namespace Go.Proofs.Ytbgmjcfnehnicaa
open Go.RowKit
set_option maxHeartbeats 1000000 in
theorem stBand_t (q p s : Int) (A A' B B' : Option Addr) (n c c' d d' : Nat) (hn0 : 0 < n) (hn : n ≤ 1048576) (f : Nat → Int) (f' : Nat → Bool) (w W : World) (hb : Below W.heap.size W w)
    (hA : Rw W W.heap.size A n fun i => .int .i64 (f i)) (hA' : Rw W W.heap.size A' n fun i => .bool (f' i)) (hB : Rw W W.heap.size B n fun i => .int .i64 (f i)) (hB' : Rw W W.heap.size B' n fun i => .bool (f' i)) :
    Calls Try.prog 23 #[.agg #[.int .i64 q, .int .i64 p, .int .i64 s, .slice A n c, .slice A' n c'], .agg #[.int .i64 q, .int .i64 p, .int .i64 s, .slice B n d, .slice B' n d']] w fun e w' => e = .returned (.bool true) ∧ Below w.heap.size w w' := by
  obtain ⟨g1, o1, rfl, hg1, hc1⟩ := (hA.at_ hb) hn0
  obtain ⟨g2, o2, rfl, hg2, hc2⟩ := (hA'.at_ hb) hn0
  obtain ⟨g3, o3, rfl, hg3, hc3⟩ := (hB.at_ hb) hn0
  obtain ⟨g4, o4, rfl, hg4, hc4⟩ := (hB'.at_ hb) hn0
  have HC1 := Lib.hid hc1
  have HC2 := Lib.hid hc2
  have HC3 := Lib.hid hc3
  have HC4 := Lib.hid hc4
  have K1 : Hid (Bk ((w.alloc (.cells #[.int .i64 q, .int .i64 p, .int .i64 s, .slice (some ⟨g1, o1, none⟩) n c, .slice (some ⟨g2, o2, none⟩) n c'] 25)).alloc (.cells #[.int .i64 q, .int .i64 p, .int .i64 s, .slice (some ⟨g3, o3, none⟩) n d, .slice (some ⟨g4, o4, none⟩) n d'] 25)) w.heap.size 25 #[.int .i64 q, .int .i64 p, .int .i64 s, .slice (some ⟨g1, o1, none⟩) n c, .slice (some ⟨g2, o2, none⟩) n c']) := (Bk.new w _ _).alloc _
  have K2 : Hid (Bk ((w.alloc (.cells #[.int .i64 q, .int .i64 p, .int .i64 s, .slice (some ⟨g1, o1, none⟩) n c, .slice (some ⟨g2, o2, none⟩) n c'] 25)).alloc (.cells #[.int .i64 q, .int .i64 p, .int .i64 s, .slice (some ⟨g3, o3, none⟩) n d, .slice (some ⟨g4, o4, none⟩) n d'] 25)) (w.heap.size + 1) 25 #[.int .i64 q, .int .i64 p, .int .i64 s, .slice (some ⟨g3, o3, none⟩) n d, .slice (some ⟨g4, o4, none⟩) n d']) := Bk.new' _ _ _ _ (by simp)
  clear hc1 hc2 hc3 hc4 hA hA' hB hB' hb
  go_enter Try.func23, Try.ntmps23
  go_wp2
  go_loopw [5] (fun i wr => ∃ k : Nat, k ≤ n ∧ i = .int .i64 k ∧ Hid (Bk wr w.heap.size 25 #[.int .i64 q, .int .i64 p, .int .i64 s, .slice (some ⟨g1, o1, none⟩) n c, .slice (some ⟨g2, o2, none⟩) n c']) ∧ Hid (Bk wr (w.heap.size + 1) 25 #[.int .i64 q, .int .i64 p, .int .i64 s, .slice (some ⟨g3, o3, none⟩) n d, .slice (some ⟨g4, o4, none⟩) n d']) ∧ Hid (Below w.heap.size w wr)) (fun i _ => n - (intOf i).toNat)
  case atStart => exact ⟨0, Nat.zero_le _, rfl, K1, K2, Lib.hid (((Below.refl _ w).alloc (Nat.le_refl _) _).alloc (by simp) _)⟩
  case round =>
    obtain ⟨k, hk, rfl, J1, J2, HB⟩ := hrel
    obtain ⟨a0, a1, a2, a3, a4⟩ := J1.out.five
    obtain ⟨b0, b1, b2, b3, b4⟩ := J2.out.five
    clear K1 K2
    by_cases hlt : k < n
    · have d1 := (HB.out.cell (p := ⟨g1, o1 + k, none⟩) hg1).trans (HC1.out k hlt)
      have d2 := (HB.out.cell (p := ⟨g2, o2 + k, none⟩) hg2).trans (HC2.out k hlt)
      have d3 := (HB.out.cell (p := ⟨g3, o3 + k, none⟩) hg3).trans (HC3.out k hlt)
      have d4 := (HB.out.cell (p := ⟨g4, o4 + k, none⟩) hg4).trans (HC4.out k hlt)
      generalize f k = x at d1 d3
      generalize f' k = y at d2 d4
      clear HC1 HC2 HC3 HC4
      go_wp2
      go_quiet (fail)
      go_wp2
      go_roundw
      case rel => exact ⟨k + 1, by omega, by go_num, Lib.hid (J1.out.drewN _), Lib.hid (J2.out.drewN _), Lib.hid ⟨HB.out.os, HB.out.tape, HB.out.output, HB.out.size, HB.out.block⟩⟩
      case measure => simp [intOf]; omega
    · obtain rfl : k = n := by omega
      go_wp2
      go_ret
      exact ⟨rfl, HB.out⟩
end Go.Proofs.Ytbgmjcfnehnicaa

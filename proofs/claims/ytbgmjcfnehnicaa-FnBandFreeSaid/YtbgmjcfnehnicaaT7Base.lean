/- DrawBandFree: a drawn band and a drawn processor. -/
import Derived.Test.YtbgmjcfnehnicaaT6Base
namespace Go.Proofs.Ytbgmjcfnehnicaa
open Go.RowKit
/-- What DrawBandFree returns. -/
def DBF (w : World) (e : Ending) (w' : World) : Prop :=
  ∃ (q P s cpu : Int) (n m c c' gl ol gd od : Nat) (f : Nat → Int) (f' : Nat → Bool), e = .returned (.tuple #[.agg #[.int .i64 q, .int .i64 P, .int .i64 s, .slice (some ⟨gl, ol, none⟩) n c, .slice (some ⟨gd, od, none⟩) m c'], .int .i64 cpu]) ∧ -1 ≤ cpu ∧ cpu ≤ 4 ∧ n ≤ 5 ∧ m ≤ 5 ∧
    RowAt w' gl ol n (fun i => .int .i64 (f i)) ∧ RowAt w' gd od m (fun i => .bool (f' i)) ∧ Below w.heap.size w w'
set_option maxRecDepth 100000 in
set_option maxHeartbeats 2000000 in
theorem drawBandFree_any (A : Option Addr) (n c : Nat) (hn : (n : Int) ≤ 1048576) (hc : n ≤ c) (hc2 : (c : Int) ≤ 9223372036854775807) (z : Nat → Int) (w W : World) (hb : Below W.heap.size W w) (hA : Rw W W.heap.size A n (fun i => .int .u8 (z i))) (hz : ∀ i, i < n → 0 ≤ z i ∧ z i ≤ 255) :
    Calls Try.prog 24 #[.slice A n c] w (DBF w) := by
  have HA := Lib.hid hA
  have HZ := Lib.hid hz
  clear hA hz
  have HK0 : Hid (Bk (w.alloc (.cells zB 25)) w.heap.size 25 zB) := Bk.new _ _ _
  go_enter Try.func24, Try.ntmps24
  go_wp2_with fail
  refine (l20Open_g A n c hn hc hc2 z _ W (hb.alloc hb.size _) HA.out HZ.out).mono ?_
  rintro e w1 ⟨g, rfl, hg, hr1, hb1⟩
  simp only [World.size_alloc] at hg
  have HK1 := Lib.hid (HK0.out.below hb1 (by simp))
  have HB1 : Hid (Below w.heap.size w w1) := ((Below.refl _ w).alloc (Nat.le_refl _) _).trans (hb1.mono (by simp))
  have HR1 := Lib.hid hr1
  have hz1 := HK1.out.lt
  clear hb1 hr1 HA HZ HK0
  go_wp2_with fail
  refine (band_any g w1 HR1.out).mono ?_
  rintro e w2 ⟨q, P, s, n1, m1, c1, c1', gl, ol, gd, od, f, f', rfl, hn1, hm1, hl, hd, l1, l2, ⟨p, p0, p1, hr2⟩, hk2⟩
  have HK2 := Lib.hid (HK1.out.kept hk2 (fun e => by unfold isG at e; omega))
  have HB2 := Lib.hid (HB1.out.trans (hk2.below (B := w.heap.size) (by omega) (fun k e => by unfold isG at e; omega)))
  have HR2 := Lib.hid hr2
  have HL2 := Lib.hid hl
  have HD2 := Lib.hid hd
  have hlt := HR1.out.lt
  have hz2 := hk2.size
  clear hl hd hr2 hk2 HK1 HB1 HR1
  go_wp2_with fail
  refine (pick_any g p 6 (by omega) (by omega) (by omega) (by omega) w2 HR2.out).mono ?_
  rintro e w3 ⟨v, rfl, v0, v1, hr3, hk3⟩
  have kz := HK2.out.kept hk3 (fun e => by unfold isG at e; omega)
  have HB3 := Lib.hid (HB2.out.trans (hk3.below (B := w.heap.size) (by omega) (fun k e => by unfold isG at e; omega)))
  have HL3 := Lib.hid (HL2.out.kept hk3 (fun e => by unfold isG at e; omega))
  have HD3 := Lib.hid (HD2.out.kept hk3 (fun e => by unfold isG at e; omega))
  have hz3 := hk3.size
  clear hk3 hr3 HK2 HB2 HR2 HL2 HD2
  obtain ⟨r0, r1, r2, r3, r4⟩ := kz.five
  have rf := kz.frees
  have HZ3 := Lib.hid kz
  clear kz
  go_wp2
  have kf := ((((HZ3.out.put 0 (.int .i64 q)).put 1 (.int .i64 P)).put 2 (.int .i64 s)).put 3 (.slice (some ⟨gl, ol, none⟩) n1 c1)).put 4 (.slice (some ⟨gd, od, none⟩) m1 c1')
  obtain ⟨s0, s1, s2, s3, s4⟩ := (show Bk _ w.heap.size 25 #[.int .i64 q, .int .i64 P, .int .i64 s, .slice (some ⟨gl, ol, none⟩) n1 c1, .slice (some ⟨gd, od, none⟩) m1 c1'] from kf).five
  have hk := five_kept w3 w.heap.size (.int .i64 q) (.int .i64 P) (.int .i64 s) (.slice (some ⟨gl, ol, none⟩) n1 c1) (.slice (some ⟨gd, od, none⟩) m1 c1')
  refine bodyPost_ret (v := .tuple #[.agg #[.int .i64 q, .int .i64 P, .int .i64 s, .slice (some ⟨gl, ol, none⟩) n1 c1, .slice (some ⟨gd, od, none⟩) m1 c1'], .int .i64 (v - 1)]) (by simp [results, Try.results24, go_sem, s0, s1, s2, s3, s4]) rfl ?_
  exact ⟨q, P, s, v - 1, n1, m1, c1, c1', gl, ol, gd, od, f, f', rfl, by omega, by omega, hn1, hm1, HL3.out.kept hk (fun e => by omega), HD3.out.kept hk (fun e => by omega), HB3.out.trans (hk.below HB3.out.size (fun j e => by omega))⟩
end Go.Proofs.Ytbgmjcfnehnicaa

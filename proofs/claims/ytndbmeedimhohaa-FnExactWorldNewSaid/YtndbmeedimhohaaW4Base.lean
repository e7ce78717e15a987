/- Worlds: marks. -/
import Derived.Test.YtndbmeedimhohaaW3Base
namespace Go.Proofs.Ytndbmeedimhohaa
open Go.RowKit
/-- The blocks of a world's groups. -/
def gTouched (v : WV) (h : WH) (b : Nat) : Prop := ∃ q, h.ga = some ⟨q, 0, none⟩ ∧ touched q v.gn v.gv h.gh b
/-- A world's rows of the call's own, none of which is another's. -/
structure WOwn (w : World) (B : Nat) (v : WV) (h : WH) : Prop where
  c : OwnQ w B h.ca v.cn 5 (fun i => cpC (v.cv i))
  t : OwnQ w B h.ta v.tn 9 (fun i => taC (v.tv i))
  g : v.gn = 0 ∨ ∃ q, h.ga = some ⟨q, 0, none⟩ ∧ OwnGs w q v.gn v.gv h.gh
  ct : ∀ b, hd h.ca b → ¬ hd h.ta b
  cg : ∀ b, hd h.ca b → ¬ gTouched v h b
  tg : ∀ b, hd h.ta b → ¬ gTouched v h b
/-- The mark behind a world's. -/
def kEnd (v : WV) (k : Int) : Int := kUp v.gv (k + 5 * v.cn + 9 * v.tn) v.gn
/-- A marked world. -/
structure WMk (w : World) (B : Nat) (v : WV) (h : WH) (k : Int) : Prop where
  c : Rs w B h.ca v.cn 5 (fun i => markECpu (k + 5 * i))
  t : Rs w B h.ta v.tn 9 (fun i => markETask (k + 5 * v.cn + 9 * i))
  g : GsRd w B h.ga v.gn (fun i => mkG (v.gv i) (kUp v.gv (k + 5 * v.cn + 9 * v.tn) i)) h.gh
theorem WMk.below {w w' : World} {B : Nat} {v : WV} {h : WH} {k : Int} (r : WMk w B v h k) (hb : Below B w w') : WMk w' B v h k := ⟨r.c.below hb, r.t.below hb, r.g.below hb⟩
theorem WMk.more {w : World} {B B' : Nat} {v : WV} {h : WH} {k : Int} (r : WMk w B v h k) (hB : B ≤ B') : WMk w B' v h k := ⟨r.c.more hB, r.t.more hB, r.g.more hB⟩
theorem WMk.at_ {W w : World} {v : WV} {h : WH} {k : Int} (r : WMk W W.heap.size v h k) (hb : Below W.heap.size W w) : WMk w w.heap.size v h k := (r.below hb).more hb.size
/-- The blocks that marking a world turns. -/
def wTouched (v : WV) (h : WH) (b : Nat) : Prop := hd h.ca b ∨ hd h.ta b ∨ gTouched v h b
theorem GsRd.none_ {w : World} {B : Nat} {A : Option Addr} {g : Nat → GV} {h : Nat → GH} : GsRd w B A 0 g h := ⟨fun hm => absurd hm (by omega), fun i hi => by omega⟩
theorem OwnGs.kept_ {p : Nat → Prop} {w w' : World} {q n : Nat} {g : Nat → GV} {h : Nat → GH} (o : OwnGs w q n g h) (hk : Kept p w w') (hp : ∀ b, touched q n g h b → ¬ p b) : OwnGs w' q n g h := by
  obtain ⟨o1, lo, h0, hm, h2⟩ := o
  refine ⟨o1.kept hk (hp q (.inl rfl)), lo, h0, hm, fun i hi => ⟨(h2 i hi).1, ?_⟩⟩
  have r := (h2 i hi).2
  exact ⟨r.l.kept hk (fun hn b _ hb => hp b (.inr ⟨i, hi, .inl ⟨hn, hb⟩⟩)), r.d.kept hk (fun hn b _ hb => hp b (.inr ⟨i, hi, .inr (.inl ⟨hn, hb⟩)⟩)), r.s.kept hk (fun hn b _ hb => hp b (.inr ⟨i, hi, .inr (.inr ⟨hn, hb⟩)⟩))⟩
set_option maxHeartbeats 1000000 in
theorem markGroupS_zero (A : Option Addr) (c : Nat) (k : Int) (w : World) :
    Calls Try.prog 18 #[.slice A 0 c, .int .i64 k] w fun e w' => e = .returned (.int .i64 k) ∧ w = w' := by
  go_enter Try.func18, Try.ntmps18
  go_wp2
  refine wp_loop_rounds 1 ?_
  rw [rounds_succ]
  go_wp2
  go_ret
  exact ⟨rfl, rfl⟩
theorem markGroupsW (A : Option Addr) (n c : Nat) (hn : n ≤ 1048576) (g : Nat → GV) (h : Nat → GH) (hL : ∀ i, i < n → GLen (g i)) (k : Int) (h0 : 0 ≤ k) (hk : k ≤ 1000000) (w : World) (ho : n = 0 ∨ ∃ q, A = some ⟨q, 0, none⟩ ∧ OwnGs w q n g h) :
    Calls Try.prog 18 #[.slice A n c, .int .i64 k] w fun e w' => e = .returned (.int .i64 (kUp g k n)) ∧ GsRd w' w'.heap.size A n (fun i => mkG (g i) (kUp g k i)) h ∧ Kept (fun b => ∃ q, A = some ⟨q, 0, none⟩ ∧ touched q n g h b) w w' := by
  rcases ho with rfl | ⟨q, rfl, ho⟩
  · refine (markGroupS_zero A c k w).mono ?_
    rintro e w' ⟨rfl, rfl⟩
    exact ⟨rfl, GsRd.none_, Kept.refl _ _⟩
  · refine (markGroupS_any q n c hn g h hL k h0 hk w ho).mono ?_
    rintro e w' ⟨rfl, h1, h2⟩
    exact ⟨rfl, h1.rd, h2.mono fun b _ hb => ⟨q, rfl, hb⟩⟩
set_option maxHeartbeats 2000000 in
theorem markWorld_any (v : WV) (h : WH) (hl : WLen v) (B : Nat) (k : Int) (h0 : 0 ≤ k) (hk : k + 5 * v.cn + 9 * v.tn ≤ 1000000) (w : World) (ho : WOwn w B v h) :
    Calls Try.prog 7 #[.agg #[.int .i64 v.now, .slice h.ca v.cn h.cc, .slice h.ta v.tn h.tc, .slice h.ga v.gn h.gc], .int .i64 k] w fun e w' => e = .returned (.int .i64 (kEnd v k)) ∧ WMk w' w'.heap.size v h k ∧ Kept (wTouched v h) w w' := by
  have hcl : ∀ b, hd h.ca b → 0 < v.cn → b < w.heap.size := fun b hb hn => by
    obtain ⟨g, e, _, o⟩ := ho.c hn
    rw [e] at hb
    obtain ⟨o', e'⟩ := hb
    simp at e'
    have := o.1
    omega
  have htl : ∀ b, hd h.ta b → 0 < v.tn → b < w.heap.size := fun b hb hn => by
    obtain ⟨g, e, _, o⟩ := ho.t hn
    rw [e] at hb
    obtain ⟨o', e'⟩ := hb
    simp at e'
    have := o.1
    omega
  have HO := Lib.hid ho
  have HL := Lib.hid hl
  have KB := Lib.hid (Bk.new w 26 #[.int .i64 v.now, .slice h.ca v.cn h.cc, .slice h.ta v.tn h.tc, .slice h.ga v.gn h.gc])
  have hal : Below w.heap.size w (w.alloc (.cells #[.int .i64 v.now, .slice h.ca v.cn h.cc, .slice h.ta v.tn h.tc, .slice h.ga v.gn h.gc] 26)) := (Below.refl _ _).alloc (Nat.le_refl _) _
  have HC0 := Lib.hid (ho.c.below hal (Nat.le_refl B))
  have HT0 := Lib.hid (ho.t.below hal (Nat.le_refl B))
  have HG0 : Hid (v.gn = 0 ∨ ∃ q, h.ga = some ⟨q, 0, none⟩ ∧ OwnGs (w.alloc (.cells #[.int .i64 v.now, .slice h.ca v.cn h.cc, .slice h.ta v.tn h.tc, .slice h.ga v.gn h.gc] 26)) q v.gn v.gv h.gh) := by
    rcases ho.g with e | ⟨q, e, o⟩
    · exact .inl e
    · exact .inr ⟨q, e, o.below hal⟩
  have HCL := Lib.hid hcl
  have HTL := Lib.hid htl
  clear ho hl hcl htl
  go_enter Try.func7, Try.ntmps7
  go_wp2_with fail
  refine (markCpuS_any h.ca v.cn h.cc B k h0 (by omega) HL.out.c _ (fun i => cpC_length _) _ HC0.out).mono ?_
  rintro e w1 ⟨rfl, hk1, hc1⟩
  have hnb : ∀ b, 0 < v.cn → hd h.ca b → b ≠ w.heap.size := fun b hn hb e => by have := HCL.out b hb hn; omega
  have hnt : ∀ b, 0 < v.tn → hd h.ta b → b ≠ w.heap.size := fun b hn hb e => by have := HTL.out b hb hn; omega
  have HNB := Lib.hid hnb
  have HNT := Lib.hid hnt
  have K1 := Lib.hid (KB.out.kept hk1 (fun e => HNB.out _ e.1 e.2.2 rfl))
  have HT1 := Lib.hid (HT0.out.kept hk1 (fun _ b _ hb e => HO.out.ct b e.2.2 hb))
  have HG1 : Hid (v.gn = 0 ∨ ∃ q, h.ga = some ⟨q, 0, none⟩ ∧ OwnGs w1 q v.gn v.gv h.gh) := by
    rcases HG0.out with e | ⟨q, e, o⟩
    · exact .inl e
    · exact .inr ⟨q, e, o.kept_ hk1 (fun b hb e' => HO.out.cg b e'.2.2 ⟨q, e, hb⟩)⟩
  have HC1 := Lib.hid hc1
  have HX1 : Hid (Kept (wTouched v h) w w1) := Lib.hid (((Kept.refl _ w).alloc _).trans (hk1.mono fun b _ hb => .inl hb.2.2))
  clear hk1 hc1 HC0 HT0 HG0 KB hnb hnt
  obtain ⟨_, _, x2, x3⟩ := K1.out.four
  go_wp2_with fail
  refine (markTaskS_any h.ta v.tn h.tc B (k + 5 * v.cn) (by omega) (by omega) HL.out.t _ (fun i => taC_length _) _ HT1.out).mono ?_
  rintro e w2 ⟨rfl, hk2, hc2⟩
  have K2 := Lib.hid (K1.out.kept hk2 (fun e => HNT.out _ e.1 e.2.2 rfl))
  have HC2 := Lib.hid (HC1.out.kept hk2 (fun _ b _ hb e => HO.out.ct b hb e.2.2))
  have HG2 : Hid (v.gn = 0 ∨ ∃ q, h.ga = some ⟨q, 0, none⟩ ∧ OwnGs w2 q v.gn v.gv h.gh) := by
    rcases HG1.out with e | ⟨q, e, o⟩
    · exact .inl e
    · exact .inr ⟨q, e, o.kept_ hk2 (fun b hb e' => HO.out.tg b e'.2.2 ⟨q, e, hb⟩)⟩
  have HT2 := Lib.hid hc2
  have HX2 : Hid (Kept (wTouched v h) w w2) := Lib.hid (HX1.out.trans (hk2.mono fun b _ hb => .inr (.inl hb.2.2)))
  clear hk2 hc2 HC1 HT1 HG1 K1 HX1 x2 x3
  obtain ⟨_, _, _, x3⟩ := K2.out.four
  go_wp2_with fail
  refine (markGroupsW h.ga v.gn h.gc HL.out.g v.gv h.gh HL.out.l (k + 5 * v.cn + 9 * v.tn) (by omega) hk _ HG2.out).mono ?_
  rintro e w3 ⟨rfl, hg3, hk3⟩
  have HC3 := Lib.hid (HC2.out.kept hk3 (fun _ b _ hb e => HO.out.cg b hb e)).rs
  have HT3 := Lib.hid (HT2.out.kept hk3 (fun _ b _ hb e => HO.out.tg b hb e)).rs
  have HG3 := Lib.hid hg3
  have HX3 : Hid (Kept (wTouched v h) w w3) := Lib.hid (HX2.out.trans (hk3.mono fun b _ hb => .inr (.inr hb)))
  clear hg3 hk3 HC2 HT2 HG2 K2 HX2
  go_wp2
  go_ret
  exact ⟨rfl, ⟨HC3.out, HT3.out, HG3.out⟩, HX3.out⟩
set_option maxHeartbeats 2000000 in
theorem heldWorld_any (v : WV) (h : WH) (hl : WLen v) (k : Int) (h0 : 0 ≤ k) (hk : k + 5 * v.cn + 9 * v.tn ≤ 1000000) (w W : World) (hb : Below W.heap.size W w) (hR : WMk W W.heap.size v h k) :
    Calls Try.prog 8 #[.agg #[.int .i64 v.now, .slice h.ca v.cn h.cc, .slice h.ta v.tn h.tc, .slice h.ga v.gn h.gc], .int .i64 k] w fun e w' => e = .returned (.int .i64 (kEnd v k)) ∧ Below w.heap.size w w' := by
  have hal : Below w.heap.size w (w.alloc (.cells #[.int .i64 v.now, .slice h.ca v.cn h.cc, .slice h.ta v.tn h.tc, .slice h.ga v.gn h.gc] 26)) := (Below.refl _ _).alloc (Nat.le_refl _) _
  have HR := Lib.hid ((hR.at_ hb).at_ hal)
  have HL := Lib.hid hl
  have hke : k ≤ kEnd v k := by have := (kUp_b (k := k + 5 * v.cn + 9 * v.tn) hl.l v.gn (Nat.le_refl _)).1; unfold kEnd; omega
  have hpos : decide (kUp v.gv (k + 5 * v.cn + 9 * v.tn) v.gn < 0) = false := by unfold kEnd at hke; simp; omega
  clear hR hl
  go_enter Try.func8, Try.ntmps8
  go_wp2_with fail
  refine (heldCpuS_any h.ca v.cn h.cc k h0 (by omega) HL.out.c _ _ (Below.refl _ _) HR.out.c).mono ?_
  rintro e w1 ⟨rfl, rfl⟩
  go_wp2_with fail
  refine (heldTaskS_any h.ta v.tn h.tc (k + 5 * v.cn) (by omega) (by omega) HL.out.t _ _ (Below.refl _ _) HR.out.t).mono ?_
  rintro e w1 ⟨rfl, rfl⟩
  go_wp2_with fail
  refine (heldGroupS_any h.ga v.gn h.gc HL.out.g v.gv h.gh HL.out.l (k + 5 * v.cn + 9 * v.tn) (by omega) hk _ _ (Below.refl _ _) HR.out.g).mono ?_
  rintro e w2 ⟨rfl, hb2⟩
  go_wp2
  go_ret
  exact ⟨rfl, hal.trans (hb2.mono (by simp))⟩
end Go.Proofs.Ytndbmeedimhohaa

/- Bands: what BandDo returns; the program's BandDo. -/
import Derived.Test.YtbgmjcfnehnicaaB9Base
namespace Go.Proofs.Ytbgmjcfnehnicaa
open Go.RowKit
def zeroB : BSt := ⟨0, 0, fun _ => 0, fun _ => false⟩
def doQ (ok : Bool) (q : Int) : Int := if ok = true then q else 0
def doN (ok : Bool) (n : Nat) : Nat := if ok = true then n else 0
def doB (ok : Bool) (r : BSt × Int) : BSt := if ok = true then r.1 else zeroB
def doC (ok : Bool) (r : BSt × Int) : Int := if ok = true then r.2 else 1
/-- What BandDo returns, and what of it lies in memory. -/
def DoPost (ok : Bool) (q : Int) (n : Nat) (r : BSt × Int) (w : World) (e : Ending) (w' : World) : Prop :=
  ∃ Al cl Ad cd, e = .returned (.tuple #[.agg #[.int .i64 (doQ ok q), .int .i64 (doB ok r).p, .int .i64 (doB ok r).s, .slice Al (doN ok n) cl, .slice Ad (doN ok n) cd], .int .i64 (doC ok r)]) ∧
    OwnR w' w.heap.size Al (doN ok n) (fun i => .int .i64 ((doB ok r).f i)) ∧ OwnR w' w.heap.size Ad (doN ok n) (fun i => .bool ((doB ok r).d i)) ∧ (0 < doN ok n → ∀ x, hd Al x → ¬ hd Ad x) ∧ Below w.heap.size w w'
theorem DoPost.no {q : Int} {n : Nat} {r : BSt × Int} {w w' : World} (hb : Below w.heap.size w w') :
    DoPost false q n r w (.returned (.tuple #[.agg #[.int .i64 0, .int .i64 0, .int .i64 0, .slice none 0 0, .slice none 0 0], .int .i64 1])) w' :=
  ⟨none, 0, none, 0, rfl, fun h => absurd h (Nat.lt_irrefl 0), fun h => absurd h (Nat.lt_irrefl 0), fun h => absurd h (Nat.lt_irrefl 0), hb⟩
theorem DoPost.yes {q : Int} {n : Nat} {r : BSt × Int} {w w' : World} {gl gd cl cd : Nat} {b' : BSt} (hp : b'.p = r.1.p) (hs : b'.s = r.1.s) (hf : ∀ i, i < n → b'.f i = r.1.f i) (hd' : ∀ i, i < n → b'.d i = r.1.d i) (hl : OwnV w' gl n (fun i => .int .i64 (b'.f i))) (hd : OwnV w' gd n (fun i => .bool (b'.d i)))
    (h1 : w.heap.size ≤ gl) (h2 : w.heap.size ≤ gd) (h3 : gl ≠ gd) (hb : Below w.heap.size w w') :
    DoPost true q n r w (.returned (.tuple #[.agg #[.int .i64 q, .int .i64 b'.p, .int .i64 b'.s, .slice (some ⟨gl, 0, none⟩) n cl, .slice (some ⟨gd, 0, none⟩) n cd], .int .i64 r.2])) w' := by
  refine ⟨_, cl, _, cd, by rw [hp, hs]; rfl, fun _ => ⟨gl, rfl, h1, hl.congr (fun i hi => ?_)⟩, fun _ => ⟨gd, rfl, h2, hd.congr (fun i hi => ?_)⟩, fun _ x hx hy => ?_, hb⟩
  · show Value.int .i64 (b'.f i) = .int .i64 (r.1.f i)
    rw [hf i hi]
  · show Value.bool (b'.d i) = .bool (r.1.d i)
    rw [hd' i hi]
  · obtain ⟨o1, e1⟩ := hx
    obtain ⟨o2, e2⟩ := hy
    simp at e1 e2
    omega
theorem BandC.new {w : World} {gb : Nat} {q : Int} {n cl cd : Nat} {b : BSt} {gl gd : Nat} (hk : Bk w gb 25 #[.int .i64 q, .int .i64 b.p, .int .i64 b.s, .slice (some ⟨gl, 0, none⟩) n cl, .slice (some ⟨gd, 0, none⟩) n cd])
    (hl : OwnV w gl n (fun i => .int .i64 (b.f i))) (hd : OwnV w gd n (fun i => .bool (b.d i))) (h1 : gb ≠ gl) (h2 : gb ≠ gd) (h3 : gl ≠ gd) : BandC w gb 0 q n cl cd b gl gd := by
  obtain ⟨c0, c1, c2, c3, c4⟩ := hk.five
  exact ⟨c0, by simpa using c1, by simpa using c2, by simpa using c3, by simpa using c4, by simpa using hk.free 1, by simpa using hk.free 2, hl, hd, h1, h2, h3⟩
set_option maxHeartbeats 1000000 in
theorem iBandDo_any (q p s : Int) (A A' : Option Addr) (n m c c' : Nat) (hn : n ≤ 1048576) (hm : m ≤ 1048576) (f : Nat → Int) (f' : Nat → Bool) (kind cpu k : Int) (w W : World) (hb : Below W.heap.size W w)
    (hA : Rw W W.heap.size A n fun i => .int .i64 (f i)) (hA' : Rw W W.heap.size A' m fun i => .bool (f' i)) :
    Calls Try.prog 21 #[.agg #[.int .i64 q, .int .i64 p, .int .i64 s, .slice A n c, .slice A' m c'], .agg #[.int .i64 kind, .int .i64 cpu, .int .i64 k]] w (DoPost (bandOk q p s n m f f') q n (bandStep q n kind cpu k ⟨p, s, f, f'⟩) w) := by
  have HA := Lib.hid (hA.at_ hb)
  have HA' := Lib.hid (hA'.at_ hb)
  clear hA hA'
  have k0 := ((Bk.new w 25 #[.int .i64 q, .int .i64 p, .int .i64 s, .slice A n c, .slice A' m c']).alloc (.cells #[.int .i64 kind, .int .i64 cpu, .int .i64 k] 44)).alloc (.cells #[.int .i64 0, .int .i64 0, .int .i64 0, .slice none 0 0, .slice none 0 0] 25)
  have k1 := (Bk.new' (w.alloc (.cells #[.int .i64 q, .int .i64 p, .int .i64 s, .slice A n c, .slice A' m c'] 25)) (w.heap.size + 1) 44 #[.int .i64 kind, .int .i64 cpu, .int .i64 k] (by simp)).alloc (.cells #[.int .i64 0, .int .i64 0, .int .i64 0, .slice none 0 0, .slice none 0 0] 25)
  have k2 := Bk.new' ((w.alloc (.cells #[.int .i64 q, .int .i64 p, .int .i64 s, .slice A n c, .slice A' m c'] 25)).alloc (.cells #[.int .i64 kind, .int .i64 cpu, .int .i64 k] 44)) (w.heap.size + 1 + 1) 25 #[.int .i64 0, .int .i64 0, .int .i64 0, .slice none 0 0, .slice none 0 0] (by simp)
  have K0 := Lib.hid k0
  have K1 := Lib.hid k1
  have K2 := Lib.hid k2
  clear k0 k1 k2
  go_enter Try.func21, Try.ntmps21
  go_wp2_with (refine wpList_load_row rfl 25 _ rfl w.heap.size rfl 25 _ (0, 0) _ K0.out Try.underlying25 rfl (by kernel_rfl) ?_)
  refine (iBandOk_any q p s A A' n m c c' (by omega) (by omega) f f' _ _ (Below.refl _ _) (HA.out.at_ (by go_grown)) (HA'.out.at_ (by go_grown))).mono ?_
  rintro e w1 ⟨rfl, hb1⟩
  have hz1 := hb1.size
  simp only [World.size_alloc] at hz1
  have hB1 : Below w.heap.size w w1 := (by go_grown : Below w.heap.size w _).trans (hb1.mono (by simp; omega))
  have k0 := K0.out.below hb1 (by simp; omega)
  have k1 := K1.out.below hb1 (by simp)
  have k2 := K2.out.below hb1 (by simp)
  clear hb1 K0 K1 K2
  cases h0 : bandOk q p s n m f f'
  · obtain ⟨r0, r1, r2, r3, r4⟩ := k2.five
    have rf := k2.frees
    have HB1 := Lib.hid hB1
    have HF := Lib.hid h0
    clear k0 k1 k2 hB1 h0
    go_wp2
    refine bodyPost_ret (v := .tuple #[.agg #[.int .i64 0, .int .i64 0, .int .i64 0, .slice none 0 0, .slice none 0 0], .int .i64 1]) (by simp [results, Try.results21, go_sem, r0, r1, r2, r3, r4]) rfl ?_
    rw [HF.out]
    refine DoPost.no ?_
    have hB := HB1.out
    go_grown
  obtain ⟨a1, a2, a3, a4, rfl, a5, a6, a7, a8, a9, a10⟩ := bandOk_facts _ _ _ _ _ _ _ h0
  have HOK : Hid (bOk q m ⟨p, s, f, f'⟩ = true) := h0
  clear a9 h0
  have K0 := Lib.hid k0
  have K1 := Lib.hid k1
  have K2 := Lib.hid k2
  have HB1 := Lib.hid hB1
  clear k0 k1 k2 hB1
  go_wp2_with (refine wpList_load_row rfl 25 _ rfl w.heap.size rfl 25 _ (0, 0) _ K0.out Try.underlying25 rfl (by kernel_rfl) ?_)
  refine (bandCopy_any q p s A A' m m c c' hn hn f f' w1 w HB1.out HA.out HA'.out).mono ?_
  rintro e w2 ⟨gl, gd, rfl, hg1, hg2, hl2, hd2, hb2⟩
  have hz2 := hb2.size
  have K1a := Lib.hid (K1.out.below hb2 (by omega))
  have K2a := Lib.hid (K2.out.below hb2 (by omega))
  have HB2 := Lib.hid (bel HB1.out hb2)
  have hlt1 := hl2.1
  have hlt2 := hd2.1
  clear hb2 K0 K1 K2 HB1
  have k3 := Bk.new w2 25 #[.int .i64 q, .int .i64 p, .int .i64 s, .slice (some ⟨gl, 0, none⟩) m m, .slice (some ⟨gd, 0, none⟩) m m]
  have hC3 := BandC.new (b := ⟨p, s, f, f'⟩) k3 (hl2.same (Below.heap_alloc _ _ _ hl2.1) (by simp)) (hd2.same (Below.heap_alloc _ _ _ hd2.1) (by simp)) (by omega) (by omega) (by omega)
  have HC3 := Lib.hid hC3
  have K1b := Lib.hid (K1a.out.alloc (.cells #[.int .i64 q, .int .i64 p, .int .i64 s, .slice (some ⟨gl, 0, none⟩) m m, .slice (some ⟨gd, 0, none⟩) m m] 25))
  have K2b := Lib.hid (K2a.out.alloc (.cells #[.int .i64 q, .int .i64 p, .int .i64 s, .slice (some ⟨gl, 0, none⟩) m m, .slice (some ⟨gd, 0, none⟩) m m] 25))
  have HB3 := Lib.hid (HB2.out.alloc HB2.out.size (.cells #[.int .i64 q, .int .i64 p, .int .i64 s, .slice (some ⟨gl, 0, none⟩) m m, .slice (some ⟨gd, 0, none⟩) m m] 25))
  clear k3 hC3 hl2 hd2 K1a K2a HB2
  go_wp2_with (refine wpList_load_row rfl 44 _ rfl (w.heap.size + 1) rfl 44 _ (0, 0) _ K1b.out Try.underlying44 rfl (by kernel_rfl) ?_)
  refine (do_any w2.heap.size 0 q m m m ⟨p, s, f, f'⟩ gl gd kind cpu k HOK.out _ HC3.out).mono ?_
  rintro e w4 ⟨rfl, hc4, hk4⟩
  have hz4 := hk4.size
  simp only [World.size_alloc] at hz4
  have k2 := K2b.out.kept hk4 (by unfold own3; omega)
  obtain ⟨r0, r1, r2, r3, r4⟩ := k2.five
  have rf := k2.frees
  have x0 := hc4.c0
  have x1 := hc4.c1
  have x2 := hc4.c2
  have x3 := hc4.c3
  have x4 := hc4.c4
  simp only [Nat.zero_add] at x1 x2 x3 x4
  have HB4 := Lib.hid (HB3.out.trans (hk4.below (by simp; omega) (fun j hj => by unfold own3 at hj; omega)))
  have HL := Lib.hid hc4.fl
  have HD := Lib.hid hc4.fd
  have hne : gl ≠ gd := by omega
  generalize bandStep q m kind cpu k ⟨p, s, f, f'⟩ = r at *
  clear hc4 hk4 k2 HC3 K1b K2b HB3
  go_wp2
  refine bodyPost_ret (v := .tuple #[.agg #[.int .i64 q, .int .i64 r.1.p, .int .i64 r.1.s, .slice (some ⟨gl, 0, none⟩) m m, .slice (some ⟨gd, 0, none⟩) m m], .int .i64 r.2]) (by simp [results, Try.results21, go_sem, r0, r1, r2, r3, r4]) rfl ?_
  rw [show bandOk q p s m m f f' = true from HOK.out]
  refine DoPost.yes (b' := r.1) rfl rfl (fun _ _ => rfl) (fun _ _ => rfl) (((((HL.out.off ?_ _).off ?_ _).off ?_ _).off ?_ _).off ?_ _) (((((HD.out.off ?_ _).off ?_ _).off ?_ _).off ?_ _).off ?_ _) (by omega) (by omega) hne ?_
  all_goals first | (simp; omega) | skip
  have hB := HB4.out
  go_grown
end Go.Proofs.Ytbgmjcfnehnicaa

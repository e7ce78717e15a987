/-
  Bands: spec's BandPlay.
-/
import Derived.Test.YtfckhpkebdpkbaaPlayL10
import Derived.Test.YtfckhpkebdpkbaaPlayL7
import Derived.Test.YtfckhpkebdpkbaaPlayL11
import Derived.RegionTactic
import Derived.StillTailTactics
import Derived.Deep.RegionWith
import Derived.Deep.Cut
import Derived.Deep.CutRange
namespace Go.Proofs.Ytfckhpkebdpkbaa
open Go.RowKit
/-- The next band in its variable, in a world that came out of wr. -/
def NextB (wr : World) (q : Int) (n : Nat) (r : BSt × Int) (a b : Value) (wx : World) : Prop :=
  ∃ g8 gl2 gd2 cl2 cd2, a = .pointer (some ⟨g8, 0, none⟩) ∧ b = .int .i64 r.2 ∧ Bk wx g8 29 #[.int .i64 q, .int .i64 r.1.p, .int .i64 r.1.s, .slice (some ⟨gl2, 0, none⟩) n cl2, .slice (some ⟨gd2, 0, none⟩) n cd2] ∧
    wr.heap.size ≤ g8 ∧ wr.heap.size ≤ gl2 ∧ wr.heap.size ≤ gd2 ∧ gl2 ≠ gd2 ∧ OwnV wx gl2 n (fun i => .int .i64 (r.1.f i)) ∧ OwnV wx gd2 n (fun i => .bool (r.1.d i)) ∧ Below wr.heap.size wr wx
theorem NextB.after {wr x w3 : World} {q : Int} {n gl2 gd2 cl2 cd2 : Nat} {r : BSt × Int} (hx : Below wr.heap.size wr x) (b1 : x.heap.size ≤ gl2) (b2 : x.heap.size ≤ gd2) (b3 : gl2 ≠ gd2) (v1 : OwnV w3 gl2 n (fun i => .int .i64 (r.1.f i))) (v2 : OwnV w3 gd2 n (fun i => .bool (r.1.d i))) (hb : Below x.heap.size x w3) :
    NextB wr q n r (.pointer (some ⟨w3.heap.size, 0, none⟩)) (.int .i64 r.2) (w3.alloc (.cells #[.int .i64 q, .int .i64 r.1.p, .int .i64 r.1.s, .slice (some ⟨gl2, 0, none⟩) n cl2, .slice (some ⟨gd2, 0, none⟩) n cd2] 29)) := by
  have h1 := hx.size
  have h2 := hb.size
  exact ⟨_, gl2, gd2, cl2, cd2, rfl, rfl, Bk.new _ _ _, by omega, by omega, by omega, b3, v1.same (Below.heap_alloc _ _ _ v1.1) (by simp), v2.same (Below.heap_alloc _ _ _ v2.1) (by simp), (bel hx hb).alloc (by omega) _⟩
theorem NextB.before {wr x w3 : World} {q : Int} {n g8 gl2 gd2 cl2 cd2 : Nat} {r : BSt × Int} (k8 : Bk w3 g8 29 #[.int .i64 0, .int .i64 0, .int .i64 0, .slice none 0 0, .slice none 0 0]) (h8 : wr.heap.size ≤ g8) (h8' : g8 < x.heap.size) (hx : Below wr.heap.size wr x) (b1 : x.heap.size ≤ gl2) (b2 : x.heap.size ≤ gd2) (b3 : gl2 ≠ gd2) (v1 : OwnV w3 gl2 n (fun i => .int .i64 (r.1.f i))) (v2 : OwnV w3 gd2 n (fun i => .bool (r.1.d i))) (hb : Below x.heap.size x w3) :
    NextB wr q n r (.pointer (some ⟨g8, 0, none⟩)) (.int .i64 r.2) (((((w3.setCell ⟨g8, 0, none⟩ (.int .i64 q)).setCell ⟨g8, 1, none⟩ (.int .i64 r.1.p)).setCell ⟨g8, 2, none⟩ (.int .i64 r.1.s)).setCell ⟨g8, 3, none⟩ (.slice (some ⟨gl2, 0, none⟩) n cl2)).setCell ⟨g8, 4, none⟩ (.slice (some ⟨gd2, 0, none⟩) n cd2)) := by
  have h1 := hx.size
  have h2 := hb.size
  have k := ((((k8.put 0 (.int .i64 q)).put 1 (.int .i64 r.1.p)).put 2 (.int .i64 r.1.s)).put 3 (.slice (some ⟨gl2, 0, none⟩) n cl2)).put 4 (.slice (some ⟨gd2, 0, none⟩) n cd2)
  have e1 : gl2 ≠ g8 := by omega
  have e2 : gd2 ≠ g8 := by omega
  exact ⟨g8, gl2, gd2, cl2, cd2, rfl, rfl, k, h8, by omega, by omega, b3, ((((v1.off e1 _).off e1 _).off e1 _).off e1 _).off e1 _, ((((v2.off e2 _).off e2 _).off e2 _).off e2 _).off e2 _,
    (((((bel hx hb).setCell (p := ⟨g8, 0, none⟩) h8 _).setCell (p := ⟨g8, 1, none⟩) h8 _).setCell (p := ⟨g8, 2, none⟩) h8 _).setCell (p := ⟨g8, 3, none⟩) h8 _).setCell (p := ⟨g8, 4, none⟩) h8 _⟩
theorem NextB.drew {wr wx : World} {q : Int} {n : Nat} {r : BSt × Int} {a b : Value} (h : NextB wr q n r a b wx) : NextB wr q n r a b wx.drew := by
  obtain ⟨g8, gl2, gd2, cl2, cd2, h1, h2, h3, h4, h5, h6, h7, h8, h9, h10⟩ := h
  exact ⟨g8, gl2, gd2, cl2, cd2, h1, h2, h3, h4, h5, h6, h7, h8.same rfl (Nat.le_refl _), h9.same rfl (Nat.le_refl _), h10.drew⟩
theorem ownV_rw {w : World} {g n : Nat} {f : Nat → Value} (h : OwnV w g n f) : Rw w w.heap.size (some ⟨g, 0, none⟩) n f := fun _ => ⟨g, 0, rfl, h.1, fun i hi => by rw [Nat.zero_add]; exact h.2.1 i hi⟩
set_option maxRecDepth 100000 in
set_option maxHeartbeats 4000000 in
theorem sBandPlay_any (q p s : Int) (A A' O : Option Addr) (n m c c' k co : Nat) (hn : n ≤ 1048576) (hm : m ≤ 1048576) (hk : k ≤ 1048576) (f : Nat → Int) (f' : Nat → Bool) (o1 o2 o3 : Nat → Int) (w W : World) (hb : Below W.heap.size W w)
    (hA : Rw W W.heap.size A n fun i => .int .i64 (f i)) (hA' : Rw W W.heap.size A' m fun i => .bool (f' i)) (hO : Rs W W.heap.size O k 3 (fun i => [.int .i64 (o1 i), .int .i64 (o2 i), .int .i64 (o3 i)])) :
    Calls Try.prog 6 #[.agg #[.int .i64 q, .int .i64 p, .int .i64 s, .slice A n c, .slice A' m c'], .slice O k co] w fun e w' => ∃ v, e = .returned v ∧
      PlayR (playOk q p s n m k f f') w.heap.size q n k (stAt q n o1 o2 o3 ⟨p, s, f, f'⟩ k) (codeAt q n o1 o2 o3 ⟨p, s, f, f'⟩) v w' ∧ Below w.heap.size w w' := by
  have HA := Lib.hid (hA.at_ hb)
  have HA' := Lib.hid (hA'.at_ hb)
  have HO := Lib.hid (hO.at_ hb)
  clear hA hA' hO
  have k0 := (Bk.new w 29 #[.int .i64 q, .int .i64 p, .int .i64 s, .slice A n c, .slice A' m c']).alloc (.cells #[.int .i64 0, .int .i64 0, .int .i64 0, .slice none 0 0, .slice none 0 0] 29)
  have k1 := Bk.new' (w.alloc (.cells #[.int .i64 q, .int .i64 p, .int .i64 s, .slice A n c, .slice A' m c'] 29)) (w.heap.size + 1) 29 #[.int .i64 0, .int .i64 0, .int .i64 0, .slice none 0 0, .slice none 0 0] (by simp)
  have K0 := Lib.hid k0
  have K1 := Lib.hid k1
  clear k0 k1
  go_enter Try.func6, Try.ntmps6
  go_wp2_with (refine wpList_load_row rfl 29 _ rfl w.heap.size rfl 29 _ (0, 0) _ K0.out Try.underlying29 rfl (by kernel_rfl) ?_)
  refine (sBandOk_any q p s A A' n m c c' (by omega) (by omega) f f' _ _ (Below.refl _ _) (HA.out.at_ (by go_grown)) (HA'.out.at_ (by go_grown))).mono ?_
  rintro e w1 ⟨rfl, hb1⟩
  have hz1 := hb1.size
  simp only [World.size_alloc] at hz1
  have hB1 : Below w.heap.size w w1 := (by go_grown : Below w.heap.size w _).trans (hb1.mono (by simp; omega))
  have k0 := K0.out.below hb1 (by simp; omega)
  have k1 := K1.out.below hb1 (by simp)
  have HB1 := Lib.hid hB1
  clear hb1 K0 K1 hB1
  cases h0 : bandOk q p s n m f f'
  · obtain ⟨r0, r1, r2, r3, r4⟩ := k1.five
    have rf := k1.frees
    have hF : playOk q p s n m k f f' = false := by unfold playOk; rw [h0]; rfl
    have HF := Lib.hid hF
    clear hF
    clear k0 k1 h0
    go_wp2
    refine bodyPost_ret (v := .tuple #[.agg #[.int .i64 0, .int .i64 0, .int .i64 0, .slice none 0 0, .slice none 0 0], .slice none 0 0]) (by simp [results, Try.results6, go_sem, r0, r1, r2, r3, r4]) rfl ?_
    rw [HF.out]
    refine ⟨_, rfl, PlayR.no, ?_⟩
    have hB := HB1.out
    go_grown
  rcases Nat.lt_or_ge 2000 k with hk3 | hk2
  · have hk2 : ¬ k ≤ 2000 := by omega
    obtain ⟨r0, r1, r2, r3, r4⟩ := k1.five
    have rf := k1.frees
    have hF : playOk q p s n m k f f' = false := by unfold playOk; rw [h0]; simp [hk2]
    have HF := Lib.hid hF
    clear hF
    have hd : decide ((2000 : Int) < (k : Int)) = true := by simp; omega
    have hd2 : (2000 : Int) < (k : Int) := by omega
    clear k0 k1 h0
    go_wp2
    refine bodyPost_ret (v := .tuple #[.agg #[.int .i64 0, .int .i64 0, .int .i64 0, .slice none 0 0, .slice none 0 0], .slice none 0 0]) (by simp [results, Try.results6, go_sem, r0, r1, r2, r3, r4]) rfl ?_
    rw [HF.out]
    refine ⟨_, rfl, PlayR.no, ?_⟩
    have hB := HB1.out
    go_grown
  have hF : playOk q p s n m k f f' = true := by unfold playOk; rw [h0]; simp [hk2]
  have HF := Lib.hid hF
  clear hF
  obtain ⟨a1, a2, a3, a4, hmn, a5, a6, a7, a8, a9, a10⟩ := bandOk_facts _ _ _ _ _ _ _ h0
  obtain rfl : n = m := hmn.symm
  have HOK : Hid (bOk q n ⟨p, s, f, f'⟩ = true) := h0
  have hd : decide ((2000 : Int) < (k : Int)) = false := by simp; omega
  have hd2 : ¬ (2000 : Int) < (k : Int) := by omega
  have HK2 := Lib.hid hk2
  clear a9 a10 h0
  have K0 := Lib.hid k0
  have K1 := Lib.hid k1
  clear k0 k1
  go_wp2_with (refine wpList_load_row rfl 29 _ rfl w.heap.size rfl 29 _ (0, 0) _ K0.out Try.underlying29 rfl (by kernel_rfl) ?_)
  refine (l5Own_any q p s A A' n c c' a3 a4 f f' w1 w HB1.out HA.out HA'.out).mono ?_
  rintro e w2 ⟨gl, gd, cl, cd, rfl, hg1, hg2, hg3, hl2, hd2', _, hb2⟩
  have hz2 := hb2.size
  have K0a := Lib.hid (K0.out.below hb2 (by omega))
  have K1a := Lib.hid (K1.out.below hb2 (by omega))
  have HB2 := Lib.hid (bel HB1.out hb2)
  have HL2 := Lib.hid hl2
  have HD2 := Lib.hid hd2'
  have hlt1 := hl2.1
  have hlt2 := hd2'.1
  clear hb2 K0 K1 HB1 hl2 hd2' HA HA'
  go_wp2_with (refine wpList_store_row rfl 29 _ _ rfl w.heap.size _ rfl rfl 29 _ K0a.out (by kernel_rfl) rfl (by kernel_rfl) ?_)
  obtain ⟨i0, hi, hi0, hi1, hi2⟩ := info_parts infoI
  have hbx : Bk (w2.setRow w.heap.size #[.int .i64 q, .int .i64 p, .int .i64 s, .slice (some ⟨gl, 0, none⟩) n cl, .slice (some ⟨gd, 0, none⟩) n cd]) w.heap.size 29 #[.int .i64 q, .int .i64 p, .int .i64 s, .slice (some ⟨gl, 0, none⟩) n cl, .slice (some ⟨gd, 0, none⟩) n cd] := setRow_heap _ _ _ _ _ _ K0a.out
  have hrx := K1a.out.rowOff (g' := w.heap.size) (by omega) #[.int .i64 q, .int .i64 p, .int .i64 s, .slice (some ⟨gl, 0, none⟩) n cl, .slice (some ⟨gd, 0, none⟩) n cd]
  go_loopw [6, 7] (fun t i wr => ∃ (lv : Value) (j gl gd cl cd : Nat), lv = t ∧ j ≤ k ∧ i = .int .i64 j ∧ Hid (wr.ownsRow (w.heap.size + 2) 3 1 lv j (flat j (fun i => [.int .i64 (codeAt q n o1 o2 o3 ⟨p, s, f, f'⟩ i)]))) ∧
      Hid (Bk wr w.heap.size 29 #[.int .i64 q, .int .i64 (stAt q n o1 o2 o3 ⟨p, s, f, f'⟩ j).p, .int .i64 (stAt q n o1 o2 o3 ⟨p, s, f, f'⟩ j).s, .slice (some ⟨gl, 0, none⟩) n cl, .slice (some ⟨gd, 0, none⟩) n cd]) ∧
      Hid (OwnV wr gl n (fun i => .int .i64 ((stAt q n o1 o2 o3 ⟨p, s, f, f'⟩ j).f i))) ∧ Hid (OwnV wr gd n (fun i => .bool ((stAt q n o1 o2 o3 ⟨p, s, f, f'⟩ j).d i))) ∧ Hid (Bk wr (w.heap.size + 1) 29 #[.int .i64 0, .int .i64 0, .int .i64 0, .slice none 0 0, .slice none 0 0]) ∧
      Hid (Below w.heap.size w wr) ∧ w.heap.size + 2 ≤ gl ∧ w.heap.size + 2 ≤ gd ∧ gl ≠ gd ∧ Hid (∀ x, lv.ownBlock = some x → x ≠ gl ∧ x ≠ gd) ∧ w.heap.size + 2 ≤ wr.heap.size) (fun _ i _ => k - (intOf i).toNat)
  case atStart =>
    refine ⟨_, 0, gl, gd, cl, cd, rfl, Nat.zero_le _, rfl, Lib.hid (World.ownsRow_nil _ _ _ _), Lib.hid hbx, ?_, ?_, Lib.hid hrx, ?_, by omega, by omega, hg3, Lib.hid (fun x h => by cases h), by simp [World.setRow]; omega⟩
    · exact HL2.out.same (setRow_other _ _ _ _ (by omega)) (by simp [World.setRow])
    · exact HD2.out.same (setRow_other _ _ _ _ (by omega)) (by simp [World.setRow])
    · exact below_setRow HB2.out (Nat.le_refl _) _
  case round =>
    clear HL2 HD2 HB2 K0a K1a hbx hrx
    obtain ⟨lv, j, gl, gd, cl, cd, rfl, hj, rfl, HC, HX, HL, HD, HR, HB, g1, g2, g3, HAp, hzr⟩ := hrel
    by_cases hlt : j < k
    · have hst : bOk q n (stAt q n o1 o2 o3 ⟨p, s, f, f'⟩ j) = true := stAt_ok HOK.out j
      have HST := Lib.hid hst
      clear hst
      obtain ⟨st, hste⟩ : ∃ st, st = stAt q n o1 o2 o3 ⟨p, s, f, f'⟩ j := ⟨_, rfl⟩
      have HSE := Lib.hid hste
      rw [← hste] at HX HL HD HST
      clear hste
      have hcall : ∀ x, Below wr.heap.size wr x → Calls Try.prog 22 #[.agg #[.int .i64 q, .int .i64 st.p, .int .i64 st.s, .slice (some ⟨gl, 0, none⟩) n cl, .slice (some ⟨gd, 0, none⟩) n cd], .agg #[.int .i64 (o1 j), .int .i64 (o2 j), .int .i64 (o3 j)]] x fun e w' => ∃ gl2 gd2 cl2 cd2,
          e = .returned (.tuple #[.agg #[.int .i64 q, .int .i64 (bandStep q n (o1 j) (o2 j) (o3 j) st).1.p, .int .i64 (bandStep q n (o1 j) (o2 j) (o3 j) st).1.s, .slice (some ⟨gl2, 0, none⟩) n cl2, .slice (some ⟨gd2, 0, none⟩) n cd2], .int .i64 (bandStep q n (o1 j) (o2 j) (o3 j) st).2]) ∧
          x.heap.size ≤ gl2 ∧ x.heap.size ≤ gd2 ∧ gl2 ≠ gd2 ∧ OwnV w' gl2 n (fun i => .int .i64 ((bandStep q n (o1 j) (o2 j) (o3 j) st).1.f i)) ∧ OwnV w' gd2 n (fun i => .bool ((bandStep q n (o1 j) (o2 j) (o3 j) st).1.d i)) ∧ Below x.heap.size x w' := by
        intro x hx
        have hn1 : 0 < n := by omega
        refine (sBandDo_any q st.p st.s _ _ n n cl cd hn hm st.f st.d (o1 j) (o2 j) (o3 j) x x (Below.refl _ _) (ownV_rw (HL.out.same (hx.block _ HL.out.1) hx.size)) (ownV_rw (HD.out.same (hx.block _ HD.out.1) hx.size))).mono ?_
        rintro e w' ⟨Al, cl2, Ad, cd2, rfl, hl, hd, hap, hb⟩
        rw [show bandOk q st.p st.s n n st.f st.d = true from HST.out] at hl hd hap ⊢
        obtain ⟨gl2, rfl, b1, v1⟩ := hl hn1
        obtain ⟨gd2, rfl, b2, v2⟩ := hd hn1
        exact ⟨gl2, gd2, cl2, cd2, rfl, b1, b2, fun e => hap hn1 gl2 ⟨0, rfl⟩ ⟨0, by rw [e]⟩, v1, v2, hb⟩
      have HCALL := Lib.hid hcall
      clear hcall
      obtain ⟨go, oo, rfl, hgo, hro⟩ := HO.out (by omega)
      have c0 := (HB.out.cell (p := ⟨go, oo + j * 3, none⟩) hgo).trans (hro j hlt 0 _ rfl)
      have c1 := (HB.out.cell (p := ⟨go, oo + j * 3 + 1, none⟩) hgo).trans (hro j hlt 1 _ rfl)
      have c2 := (HB.out.cell (p := ⟨go, oo + j * 3 + 2, none⟩) hgo).trans (hro j hlt 2 _ rfl)
      obtain ⟨x0, x1, x2, x3, x4⟩ := HX.out.five
      have hgr : go < wr.heap.size := by omega
      have c0a : ∀ o, (wr.alloc o).cell? ⟨go, oo + j * 3, none⟩ = some (.int .i64 (o1 j)) := fun o => (World.cell?_alloc_past _ _ _ hgr).trans c0
      have c1a : ∀ o, (wr.alloc o).cell? ⟨go, oo + j * 3 + 1, none⟩ = some (.int .i64 (o2 j)) := fun o => (World.cell?_alloc_past _ _ _ hgr).trans c1
      have c2a : ∀ o, (wr.alloc o).cell? ⟨go, oo + j * 3 + 2, none⟩ = some (.int .i64 (o3 j)) := fun o => (World.cell?_alloc_past _ _ _ hgr).trans c2
      have xa := fun o => (HX.out.alloc o).five
      have x0a := fun o => (xa o).1
      have x1a := fun o => (xa o).2.1
      have x2a := fun o => (xa o).2.2.1
      have x3a := fun o => (xa o).2.2.2.1
      have x4a := fun o => (xa o).2.2.2.2
      clear xa
      have hj0 : (0 : Int) ≤ (j : Int) := by omega
      have hj1 : (j : Int) < (k : Int) := by omega
      clear hro
      go_upto_region 8 with fail
      go_cut [8, 9] from 21 to 40 (fun a b wx => NextB wr q n (bandStep q n (o1 j) (o2 j) (o3 j) st) a b wx)
      case first =>
        go_region_with (first
          | (go_at_call 22; refine (HCALL.out wr.drew (Below.refl _ wr).drew).mono ?_; rintro e w3 ⟨gl2, gd2, cl2, cd2, rfl, b1, b2, b3, v1, v2, hb3⟩)
          | (go_at_call 22; refine (HCALL.out (wr.alloc (.cells #[.int .i64 0, .int .i64 0, .int .i64 0, .slice none 0 0, .slice none 0 0] 29)).drew ((Below.refl _ wr).alloc (Nat.le_refl _) _).drew).mono ?_; rintro e w3 ⟨gl2, gd2, cl2, cd2, rfl, b1, b2, b3, v1, v2, hb3⟩; have k8 : Bk w3 wr.heap.size 29 #[.int .i64 0, .int .i64 0, .int .i64 0, .slice none 0 0, .slice none 0 0] := (show Bk (wr.alloc (.cells #[.int .i64 0, .int .i64 0, .int .i64 0, .slice none 0 0, .slice none 0 0] 29)).drew wr.heap.size 29 #[.int .i64 0, .int .i64 0, .int .i64 0, .slice none 0 0, .slice none 0 0] from Bk.new wr _ _).below hb3 (by simp); obtain ⟨z0, z1, z2, z3, z4⟩ := k8.five; have zf := k8.frees))
        all_goals
          go_wp2_with fail
          go_meet
          case rel => (first | with_reducible exact NextB.after (Below.refl _ wr).drew b1 b2 b3 v1 v2 hb3 | with_reducible exact NextB.before k8 (Nat.le_refl _) (by simp) ((Below.refl _ wr).alloc (Nat.le_refl _) _).drew b1 b2 b3 v1 v2 hb3)
      case rest =>
        rename World => w4
        have hnext : stAt q n o1 o2 o3 ⟨p, s, f, f'⟩ (j + 1) = (bandStep q n (o1 j) (o2 j) (o3 j) st).1 := by rw [HSE.out]; rfl
        have hcode : codeAt q n o1 o2 o3 ⟨p, s, f, f'⟩ j = (bandStep q n (o1 j) (o2 j) (o3 j) st).2 := by rw [HSE.out]; rfl
        generalize bandStep q n (o1 j) (o2 j) (o3 j) st = r at hcut hnext hcode
        have HN := Lib.hid hnext
        have HCo := Lib.hid hcode
        clear HCALL x0 x1 x2 x3 x4 x0a x1a x2a x3a x4a c0 c1 c2 c0a c1a c2a hnext hcode
        obtain ⟨g8, gl2, gd2, cl2, cd2, rfl, rfl, k8, h8, hgl, hgd, hne, v1, v2, hb4⟩ := hcut
        have hz4 := hb4.size
        have hcl : ∀ x, lv.ownBlock = some x → w.heap.size + 2 ≤ x ∧ x < wr.heap.size := fun x hx => HC.out.lt x hx
        have hC4 : w4.ownsRow (w.heap.size + 2) 3 1 lv j (flat j (fun i => [.int .i64 (codeAt q n o1 o2 o3 ⟨p, s, f, f'⟩ i)])) := HC.out.kept (row := none) ⟨hb4.os, hb4.tape, hb4.output, hb4.size, fun i hi _ => hb4.block i hi⟩ (by
          cases lv.ownBlock with
          | none => exact .inl rfl
          | some x => exact .inr (by simp))
        have HC4 := Lib.hid hC4
        have HX4 := Lib.hid (HX.out.below hb4 HX.out.lt)
        have HR4 := Lib.hid (HR.out.below hb4 HR.out.lt)
        have HB4 := Lib.hid (bel HB.out (hb4.mono (by omega)))
        have HV1 := Lib.hid v1
        have HV2 := Lib.hid v2
        have HK8 := Lib.hid k8
        clear hC4 HC HX HR HB HL HD v1 v2 k8 hb4
        go_wp2_with (at_builtin; refine wpList_append_lies _ rfl _ _ 22 rfl (w.heap.size + 2) 3 i0 (.int .i64 0) 1 8 Try.underlying22 hi hi0 hi1 hi2 rfl (by decide) lv j (flat j (fun i => [.int .i64 (codeAt q n o1 o2 o3 ⟨p, s, f, f'⟩ i)])) rfl (HC4.out.alloc _) ⟨w4.heap.size, 0, none⟩ 1 1 [.int .i64 r.2] rfl rfl (World.news_of_block (cs := #[.int .i64 r.2]) (t := 3) (fr := (0, 0)) (heap_alloc_new w4 _)) (by simp [Value.oneCell']) (by omega) (by unfold maxLen; omega) (by omega) (by simp; omega) (w4.heap.size + 1) (by simp) ?_)
        intro bl cc w5 hown hgrow hat hbl
        have hkw : Kept (fun x => lv.ownBlock = some x) w4 w5 := ((Kept.refl (fun x => lv.ownBlock = some x) w4).alloc (.cells #[.int .i64 r.2] 3)).trans ⟨hgrow.os, hgrow.tape, hgrow.output, hgrow.size, fun i hi hne => hgrow.block i hi (fun e => hne e.symm)⟩
        have hown2 : w5.ownsRow (w.heap.size + 2) 3 1 (.slice (some ⟨bl, 0, none⟩) (j + 1) cc) (j + 1) (flat (j + 1) (fun i => [.int .i64 (codeAt q n o1 o2 o3 ⟨p, s, f, f'⟩ i)])) := by
          rw [flat_succ, HCo.out]
          exact hown
        have hbg : bl ≠ gl2 ∧ bl ≠ gd2 := by
          have l1 := HV1.out.1
          have l2 := HV2.out.1
          rcases hat with e | e
          · have := hcl bl e
            omega
          · omega
        have hno : ∀ x, wr.heap.size ≤ x → ¬ lv.ownBlock = some x := fun x hx e => by have := (hcl x e).2; omega
        have hno2 : ∀ x, x < w.heap.size + 2 → ¬ lv.ownBlock = some x := fun x hx e => by have := (hcl x e).1; omega
        have HX5 := Lib.hid (HX4.out.kept hkw (hno2 _ (by omega)))
        have HR5 := Lib.hid (HR4.out.kept hkw (hno2 _ (by omega)))
        have HV1' := Lib.hid (HV1.out.kept hkw (hno _ hgl))
        have HV2' := Lib.hid (HV2.out.kept hkw (hno _ hgd))
        have HK8' := Lib.hid (HK8.out.kept hkw (hno _ h8))
        have HB5 := Lib.hid (HB4.out.trans (hkw.below (B := w.heap.size) (by omega) (fun x hx => by have := (hcl x hx).1; omega)))
        have HO5 := Lib.hid hown2
        have hz5 := hkw.size
        have hob := (hown2.lt bl rfl).1
        clear HC4 HX4 HR4 HV1 HV2 HK8 HB4 hown hgrow hat hbl hkw hown2
        go_wp2_with (first
          | refine wpList_load_row rfl 29 _ rfl g8 rfl 29 _ (0, 0) _ HK8'.out Try.underlying29 rfl (by kernel_rfl) ?_
          | refine wpList_store_row rfl 29 _ _ rfl w.heap.size _ rfl rfl 29 _ HX5.out (by kernel_rfl) rfl (by kernel_rfl) ?_)
        go_roundw
        case rel =>
          have hl6 : OwnV (w5.setRow w.heap.size #[.int .i64 q, .int .i64 r.1.p, .int .i64 r.1.s, .slice (some ⟨gl2, 0, none⟩) n cl2, .slice (some ⟨gd2, 0, none⟩) n cd2]) gl2 n (fun i => .int .i64 ((stAt q n o1 o2 o3 ⟨p, s, f, f'⟩ (j + 1)).f i)) := by
            rw [HN.out]
            exact HV1'.out.same (setRow_other _ _ _ _ (by omega)) (by simp [World.setRow])
          have hd6 : OwnV (w5.setRow w.heap.size #[.int .i64 q, .int .i64 r.1.p, .int .i64 r.1.s, .slice (some ⟨gl2, 0, none⟩) n cl2, .slice (some ⟨gd2, 0, none⟩) n cd2]) gd2 n (fun i => .bool ((stAt q n o1 o2 o3 ⟨p, s, f, f'⟩ (j + 1)).d i)) := by
            rw [HN.out]
            exact HV2'.out.same (setRow_other _ _ _ _ (by omega)) (by simp [World.setRow])
          have hx6 : Bk (w5.setRow w.heap.size #[.int .i64 q, .int .i64 r.1.p, .int .i64 r.1.s, .slice (some ⟨gl2, 0, none⟩) n cl2, .slice (some ⟨gd2, 0, none⟩) n cd2]) w.heap.size 29 #[.int .i64 q, .int .i64 (stAt q n o1 o2 o3 ⟨p, s, f, f'⟩ (j + 1)).p, .int .i64 (stAt q n o1 o2 o3 ⟨p, s, f, f'⟩ (j + 1)).s, .slice (some ⟨gl2, 0, none⟩) n cl2, .slice (some ⟨gd2, 0, none⟩) n cd2] := by
            rw [HN.out]
            exact setRow_heap _ _ _ _ _ _ HX5.out
          have hc6 := HO5.out.kept (w' := w5.setRow w.heap.size #[.int .i64 q, .int .i64 r.1.p, .int .i64 r.1.s, .slice (some ⟨gl2, 0, none⟩) n cl2, .slice (some ⟨gd2, 0, none⟩) n cd2]) (row := some w.heap.size) ⟨rfl, rfl, rfl, by simp [World.setRow], fun i _ hi => setRow_other _ _ _ _ (fun e => hi (by rw [e]))⟩ (.inr (by simp [Value.ownBlock]; omega))
          have hz6 : (w5.setRow w.heap.size #[.int .i64 q, .int .i64 r.1.p, .int .i64 r.1.s, .slice (some ⟨gl2, 0, none⟩) n cl2, .slice (some ⟨gd2, 0, none⟩) n cd2]).heap.size = w5.heap.size := by simp [World.setRow]
          exact ⟨_, j + 1, gl2, gd2, cl2, cd2, rfl, by omega, by go_num, Lib.hid hc6, Lib.hid hx6, Lib.hid hl6, Lib.hid hd6, Lib.hid (HR5.out.rowOff (by omega) _), Lib.hid (below_setRow HB5.out (Nat.le_refl _) _), by omega, by omega, hne, Lib.hid (fun x hx => by cases hx; exact hbg), by omega⟩
        case measure => simp [intOf]; omega
    · obtain rfl : j = k := by omega
      have hC := HC.out
      obtain ⟨Ac, cc, rfl, hq⟩ := owns_ownQ (sz := 1) (el := fun i => [.int .i64 (codeAt q n o1 o2 o3 ⟨p, s, f, f'⟩ i)]) (fun _ => rfl) hC
      have HQ := Lib.hid hq
      have HAq := Lib.hid HAp.out
      clear hC hq HC HAp
      obtain ⟨st, hst⟩ : ∃ st, st = stAt q n o1 o2 o3 ⟨p, s, f, f'⟩ j := ⟨_, rfl⟩
      have HE := Lib.hid hst
      rw [← hst] at HX HL HD
      clear hst
      go_wp2_with (first
        | refine wpList_load_row rfl 29 _ rfl w.heap.size rfl 29 _ (0, 0) _ HX.out Try.underlying29 rfl (by kernel_rfl) ?_
        | refine wpList_store_row rfl 29 _ _ rfl (w.heap.size + 1) _ rfl rfl 29 _ HR.out (by kernel_rfl) rfl (by kernel_rfl) ?_)
      obtain ⟨s0, s1, s2, s3, s4⟩ := (show Bk (wr.setRow (w.heap.size + 1) #[.int .i64 q, .int .i64 st.p, .int .i64 st.s, .slice (some ⟨gl, 0, none⟩) n cl, .slice (some ⟨gd, 0, none⟩) n cd]) (w.heap.size + 1) 29 #[.int .i64 q, .int .i64 st.p, .int .i64 st.s, .slice (some ⟨gl, 0, none⟩) n cl, .slice (some ⟨gd, 0, none⟩) n cd] from setRow_heap _ _ _ _ _ _ HR.out).five
      refine bodyPost_ret (v := .tuple #[.agg #[.int .i64 q, .int .i64 st.p, .int .i64 st.s, .slice (some ⟨gl, 0, none⟩) n cl, .slice (some ⟨gd, 0, none⟩) n cd], .slice Ac j cc]) (by simp [results, Try.results6, go_sem, s0, s1, s2, s3, s4]) rfl ?_
      rw [HF.out, ← HE.out]
      refine ⟨_, rfl, ⟨_, cl, _, cd, Ac, cc, rfl, fun _ => ⟨gl, rfl, by omega, HL.out.same (setRow_other wr (w.heap.size + 1) gl _ (by omega)) (by simp [World.setRow])⟩, fun _ => ⟨gd, rfl, by omega, HD.out.same (setRow_other wr (w.heap.size + 1) gd _ (by omega)) (by simp [World.setRow])⟩, fun hj0 => ?_, fun _ x hx hy => by rw [hd_some hx] at hy; exact g3 (hd_some hy), fun _ hj0 x hx => ?_⟩, below_setRow HB.out (by omega) _⟩
      · obtain ⟨g, rfl, hg, ho⟩ := HQ.out hj0
        exact ⟨g, rfl, by omega, ho.one.same (setRow_other wr (w.heap.size + 1) g _ (by omega)) (by simp [World.setRow])⟩
      · obtain ⟨g, rfl, hg, ho⟩ := HQ.out hj0
        have := HAq.out g rfl
        rw [hd_some hx]
        exact ⟨fun hy => this.1 (hd_some hy), fun hy => this.2 (hd_some hy)⟩
end Go.Proofs.Ytfckhpkebdpkbaa

/-
  Bands: the program's copy and BandDo.
-/
import Derived.Test.YtfckhpkebdpkbaaPlayL6
import Derived.Laws.CopyOwn
import Derived.Test.YtfckhpkebdpkbaaPlayL1
namespace Go.Proofs.Ytfckhpkebdpkbaa
open Go.RowKit
/-- Nothing is asked of what lies ahead of a band at its block's head. -/
instance preNone : Pre := ⟨fun _ => none⟩
theorem made_list (v : Value) (n : Nat) : madeCells #[v] n = (List.replicate n v).toArray := by
  apply Array.ext'
  rw [toList_madeCells_one]
theorem Bk.made (w : World) (g : Nat) (t : TypeId) (v : Value) (n : Nat) (hg : w.heap.size = g) : Bk (w.alloc (.cells (madeCells #[v] n) t)) g t (List.replicate n v).toArray := by
  rw [made_list]
  exact Bk.new' w g t _ hg
def vals (n : Nat) (f : Nat → Value) : List Value := (List.range n).map f
theorem vals_len (n : Nat) (f : Nat → Value) : (vals n f).length = n := by simp [vals]
theorem vals_get (n : Nat) (f : Nat → Value) (i : Nat) (h : i < n) : (vals n f)[i]? = some (f i) := by simp [vals, h]
theorem splice_vals (n : Nat) (v : Value) (f : Nat → Value) : splice (List.replicate n v) 0 (vals n f) = vals n f := by
  unfold splice
  simp [vals_len]
theorem ownV_vals {w : World} {g n : Nat} {t : TypeId} {f : Nat → Value} (h : Bk w g t (vals n f).toArray) : OwnV w g n f :=
  ⟨h.lt, fun i hi => by rw [h.cell]; simpa using vals_get n f i hi, fun i _ => h.free i⟩
theorem vals_src {w : World} {B n : Nat} {A : Option Addr} {f : Nat → Value} (h : Rw w B A n f) (hp : 0 < (vals n f).length) : ∃ ad, A = some ad ∧ ∀ j v, (vals n f)[j]? = some v → w.cell? (ad.add j) = some v := by
  rw [vals_len] at hp
  obtain ⟨g, o, ha, _, hc⟩ := h hp
  refine ⟨_, ha, fun j v hj => ?_⟩
  have hjn : j < n := by
    have := (List.getElem?_eq_some_iff.1 hj).1
    rwa [vals_len] at this
  rw [vals_get n f j hjn] at hj
  cases hj
  have : (⟨g, o, none⟩ : Addr).add j = ⟨g, o + j, none⟩ := by unfold Addr.add; split <;> simp_all
  rw [this]
  exact hc j hjn
theorem copySize_int : (Try.prog.info? 3).map (·.size) = some 1 := by kernel_rfl
theorem copySize_bool : (Try.prog.info? 4).map (·.size) = some 1 := by kernel_rfl
set_option maxHeartbeats 1000000 in
theorem bandCopy_any (q p s : Int) (A A' : Option Addr) (n m c c' : Nat) (hn : n ≤ 1048576) (hm : m ≤ 1048576) (f : Nat → Int) (f' : Nat → Bool) (w W : World) (hb : Below W.heap.size W w)
    (hA : Rw W W.heap.size A n fun i => .int .i64 (f i)) (hA' : Rw W W.heap.size A' m fun i => .bool (f' i)) :
    Calls Try.prog 27 #[.agg #[.int .i64 q, .int .i64 p, .int .i64 s, .slice A n c, .slice A' m c']] w fun e w' => ∃ g g', e = .returned (.agg #[.int .i64 q, .int .i64 p, .int .i64 s, .slice (some ⟨g, 0, none⟩) n n, .slice (some ⟨g', 0, none⟩) m m]) ∧
      w.heap.size ≤ g ∧ g < g' ∧ OwnV w' g n (fun i => .int .i64 (f i)) ∧ OwnV w' g' m (fun i => .bool (f' i)) ∧ Below w.heap.size w w' := by
  have HA := Lib.hid (hA.at_ hb)
  have HA' := Lib.hid (hA'.at_ hb)
  have hmk := fun w => make_toIntS n hn w
  have hmk' := fun w => make_toBoolS m hm w
  have hcl : Nat.min n n = n := Nat.min_self n
  clear hA hA'
  go_enter Try.func27, Try.ntmps27
  obtain ⟨X1, hX1⟩ : ∃ X1, X1 = vals n (fun i => .int .i64 (f i)) := ⟨_, rfl⟩
  obtain ⟨X2, hX2⟩ : ∃ X2, X2 = vals m (fun i => .bool (f' i)) := ⟨_, rfl⟩
  have hl1 : X1.length = Nat.min n n := by rw [hX1, vals_len]; exact (Nat.min_self n).symm
  have hl2 : X2.length = Nat.min m m := by rw [hX2, vals_len]; exact (Nat.min_self m).symm
  have HL1 := Lib.hid hl1
  have HL2 := Lib.hid hl2
  have HE1 := Lib.hid hX1
  have HE2 := Lib.hid hX2
  have hc1 : ∀ v ∈ X1, v.oneCell' = true := by
    rw [hX1]; intro v hv; unfold vals at hv; rw [List.mem_map] at hv; obtain ⟨i, _, rfl⟩ := hv; rfl
  have hc2 : ∀ v ∈ X2, v.oneCell' = true := by
    rw [hX2]; intro v hv; unfold vals at hv; rw [List.mem_map] at hv; obtain ⟨i, _, rfl⟩ := hv; rfl
  have HC1 := Lib.hid hc1
  have HC2 := Lib.hid hc2
  have hr1 : ∀ x : World, Below w.heap.size w x → 0 < X1.length → ∃ ad, A = some ad ∧ ∀ j v, X1[j]? = some v → x.cell? (ad.add j) = some v := fun x hx hp => by rw [hX1] at hp ⊢; exact vals_src (HA.out.at_ hx) hp
  have hr2 : ∀ x : World, Below w.heap.size w x → 0 < X2.length → ∃ ad, A' = some ad ∧ ∀ j v, X2[j]? = some v → x.cell? (ad.add j) = some v := fun x hx hp => by rw [hX2] at hp ⊢; exact vals_src (HA'.out.at_ hx) hp
  have HR1 := Lib.hid hr1
  have HR2 := Lib.hid hr2
  clear hl1 hl2 hX1 hX2 hc1 hc2 hr1 hr2
  have k0 := ((Bk.new w 29 #[.int .i64 q, .int .i64 p, .int .i64 s, .slice A n c, .slice A' m c']).alloc (.cells #[.int .i64 0, .int .i64 0, .int .i64 0, .slice none 0 0, .slice none 0 0] 29)).alloc (.cells (madeCells #[.int .i64 0] n) 3)
  have k1 := (Bk.new' (w.alloc (.cells #[.int .i64 q, .int .i64 p, .int .i64 s, .slice A n c, .slice A' m c'] 29)) (w.heap.size + 1) 29 #[.int .i64 0, .int .i64 0, .int .i64 0, .slice none 0 0, .slice none 0 0] (by simp)).alloc (.cells (madeCells #[.int .i64 0] n) 3)
  have k2 := Bk.made ((w.alloc (.cells #[.int .i64 q, .int .i64 p, .int .i64 s, .slice A n c, .slice A' m c'] 29)).alloc (.cells #[.int .i64 0, .int .i64 0, .int .i64 0, .slice none 0 0, .slice none 0 0] 29)) (w.heap.size + 1 + 1) 3 (.int .i64 0) n (by simp)
  have K0 := Lib.hid k0
  have K1 := Lib.hid k1
  have K2 := Lib.hid k2
  have hB3 : Below w.heap.size w (((w.alloc (.cells #[.int .i64 q, .int .i64 p, .int .i64 s, .slice A n c, .slice A' m c'] 29)).alloc (.cells #[.int .i64 0, .int .i64 0, .int .i64 0, .slice none 0 0, .slice none 0 0] 29)).alloc (.cells (madeCells #[.int .i64 0] n) 3)) := by go_grown
  have HB3 := Lib.hid hB3
  have hz3 : (((w.alloc (.cells #[.int .i64 q, .int .i64 p, .int .i64 s, .slice A n c, .slice A' m c'] 29)).alloc (.cells #[.int .i64 0, .int .i64 0, .int .i64 0, .slice none 0 0, .slice none 0 0] 29)).alloc (.cells (madeCells #[.int .i64 0] n) 3)).heap.size = w.heap.size + 1 + 1 + 1 := by simp
  have HZ3 := Lib.hid hz3
  clear k0 k1 k2 hB3 hz3
  go_wp2_with (refine wpList_copy_splice rfl (.tmp 9) (.tmp 11) 22 22 rfl 3 Try.underlying22 copySize_int (some ⟨w.heap.size + 1 + 1, 0, none⟩) A n n n c rfl rfl (w.heap.size + 1 + 1) 0 (List.replicate n (.int .i64 0)) 3 K2.out X1 HL1.out (fun hp => ⟨rfl, HR1.out _ HB3.out hp⟩) (by rw [HL1.out]; simp) HC1.out (w.heap.size + 1 + 1) _ (Below.refl _ _) (Nat.le_refl _) ?_)
  intro w4 hg4 hb4
  have hz4 := hb4.size
  rw [HZ3.out] at hz4
  have k0 := K0.out.below hb4 (by omega)
  have k1 := K1.out.below hb4 (by omega)
  have hO4 : OwnV w4 (w.heap.size + 1 + 1) n (fun i => .int .i64 (f i)) := ownV_vals (t := 3) (by
    have h := hg4.out
    rw [HE1.out, splice_vals] at h
    exact h)
  have hB4 := HB3.out.trans (hb4.mono (by omega))
  have c4 := k0.five.2.2.2.2
  have c4a := fun o => (k0.alloc o).five.2.2.2.2
  have K0a := Lib.hid (k0.alloc (.cells (madeCells #[.bool false] m) 4))
  have K1a := Lib.hid (k1.alloc (.cells (madeCells #[.bool false] m) 4))
  have HO4 := Lib.hid (hO4.same (Below.heap_alloc w4 (.cells (madeCells #[.bool false] m) 4) _ hO4.1) (by simp))
  have K2b := Lib.hid (Bk.made w4 w4.heap.size 4 (.bool false) m rfl)
  have HB5 := Lib.hid (hB4.alloc (by omega) (.cells (madeCells #[.bool false] m) 4))
  clear hg4 hb4 hO4 hB4 k0 k1 K0 K1 K2 HB3 HZ3 HR1 HC1 HE1 HL1
  go_wp2_with (refine wpList_copy_splice rfl (.tmp 17) (.tmp 19) 23 23 rfl 4 Try.underlying23 copySize_bool (some ⟨w4.heap.size, 0, none⟩) A' m m m c' rfl rfl w4.heap.size 0 (List.replicate m (.bool false)) 4 K2b.out X2 HL2.out (fun hp => ⟨rfl, HR2.out _ HB5.out hp⟩) (by rw [HL2.out]; simp) HC2.out w4.heap.size _ (Below.refl _ _) (Nat.le_refl _) ?_)
  intro w6 hg6 hb6
  have hz6 := hb6.size
  simp only [World.size_alloc] at hz6
  have k0 := K0a.out.below hb6 (by omega)
  have k1 := K1a.out.below hb6 (by omega)
  have hO6 : OwnV w6 w4.heap.size m (fun i => .bool (f' i)) := ownV_vals (t := 4) (by
    have h := hg6.out
    rw [HE2.out, splice_vals] at h
    exact h)
  have hO4' : OwnV w6 (w.heap.size + 1 + 1) n (fun i => .int .i64 (f i)) := HO4.out.same (hb6.block _ (by omega)) hb6.size
  have hB6 := HB5.out.trans (hb6.mono (by omega))
  obtain ⟨c0, c1, c2, c3, c4'⟩ := k0.five
  have cf := k0.frees
  have d1 := (k0.put 3 (.slice (some ⟨w.heap.size + 1 + 1, 0, none⟩) n n)).put 4 (.slice (some ⟨w4.heap.size, 0, none⟩) m m)
  have d2 := (k1.off (p := ⟨w.heap.size, 3, none⟩) (by simp) (.slice (some ⟨w.heap.size + 1 + 1, 0, none⟩) n n)).off (p := ⟨w.heap.size, 4, none⟩) (by simp) (.slice (some ⟨w4.heap.size, 0, none⟩) m m)
  have D1 : Hid (Bk ((w6.setCell ⟨w.heap.size, 3, none⟩ (.slice (some ⟨w.heap.size + 1 + 1, 0, none⟩) n n)).setCell ⟨w.heap.size, 4, none⟩ (.slice (some ⟨w4.heap.size, 0, none⟩) m m)) w.heap.size 29 #[.int .i64 q, .int .i64 p, .int .i64 s, .slice (some ⟨w.heap.size + 1 + 1, 0, none⟩) n n, .slice (some ⟨w4.heap.size, 0, none⟩) m m]) := d1
  have D2 := Lib.hid d2
  have HO6 := Lib.hid hO6
  have HO4a := Lib.hid hO4'
  have HB6 := Lib.hid hB6
  clear hg6 hb6 hO6 hO4' hB6 k0 k1 d1 d2 K0a K1a K2b HB5 HR2 HC2 HE2 HL2 HO4 c4 c4a
  go_wp2_with (first
    | refine wpList_load_row rfl 29 _ rfl w.heap.size rfl 29 _ (0, 0) _ D1.out Try.underlying29 rfl (by kernel_rfl) ?_
    | refine wpList_store_row rfl 29 _ _ rfl (w.heap.size + 1) _ rfl rfl 29 _ D2.out (by kernel_rfl) rfl (by kernel_rfl) ?_)
  refine bodyPost_ret (results_cell_row rfl _ _ (w.heap.size + 1) 29 _ (0, 0) _ rfl (setRow_heap _ _ _ _ _ _ D2.out) Try.underlying29 rfl (by kernel_rfl)) rfl ⟨_, _, rfl, by omega, by omega, ?_, ?_, ?_⟩
  · exact ((HO4a.out.off (by simp; omega) _).off (by simp; omega) _).same (setRow_other _ _ _ _ (by omega)) (by simp [World.setRow])
  · exact ((HO6.out.off (by simp; omega) _).off (by simp; omega) _).same (setRow_other _ _ _ _ (by omega)) (by simp [World.setRow])
  · exact below_setRow ((HB6.out.setCell (by simp) _).setCell (by simp) _) (by omega) _
end Go.Proofs.Ytfckhpkebdpkbaa

/- Bands: what BandDo returns; the program's BandDo. -/
namespace Go.Proofs.Ytfckhpkebdpkbaa
open Go.RowKit
def zeroB : BSt := ⟨0, 0, fun _ => 0, fun _ => false⟩
def doQ (ok : Bool) (q : Int) : Int := if ok = true then q else 0
def doN (ok : Bool) (n : Nat) : Nat := if ok = true then n else 0
def doB (ok : Bool) (r : BSt × Int) : BSt := if ok = true then r.1 else zeroB
def doC (ok : Bool) (r : BSt × Int) : Int := if ok = true then r.2 else 1
/-- What BandDo returns, and what of it lies in memory. -/
def DoPost (ok : Bool) (q : Int) (n : Nat) (r : BSt × Int) (w : World) (e : Ending) (w' : World) : Prop :=
  ∃ Al cl Ad cd, e = .returned (.tuple #[.agg #[.int .i64 (doQ ok q), .int .i64 (doB ok r).p, .int .i64 (doB ok r).s, .slice Al (doN ok n) cl, .slice Ad (doN ok n) cd], .int .i64 (doC ok r)]) ∧
    OwnR w' w.heap.size Al (doN ok n) (fun i => .int .i64 ((doB ok r).f i)) ∧ OwnR w' w.heap.size Ad (doN ok n) (fun i => .bool ((doB ok r).d i)) ∧ (0 < doN ok n → ∀ x, hd Al x → ¬ hd Ad x) ∧ Below w.heap.size w w'
theorem DoPost.no {q : Int} {n : Nat} {r : BSt × Int} {w w' : World} (hb : Below w.heap.size w w') :
    DoPost false q n r w (.returned (.tuple #[.agg #[.int .i64 0, .int .i64 0, .int .i64 0, .slice none 0 0, .slice none 0 0], .int .i64 1])) w' :=
  ⟨none, 0, none, 0, rfl, fun h => absurd h (Nat.lt_irrefl 0), fun h => absurd h (Nat.lt_irrefl 0), fun h => absurd h (Nat.lt_irrefl 0), hb⟩
theorem DoPost.yes {q : Int} {n : Nat} {r : BSt × Int} {w w' : World} {gl gd cl cd : Nat} {b' : BSt} (hp : b'.p = r.1.p) (hs : b'.s = r.1.s) (hf : ∀ i, i < n → b'.f i = r.1.f i) (hd' : ∀ i, i < n → b'.d i = r.1.d i) (hl : OwnV w' gl n (fun i => .int .i64 (b'.f i))) (hd : OwnV w' gd n (fun i => .bool (b'.d i)))
    (h1 : w.heap.size ≤ gl) (h2 : w.heap.size ≤ gd) (h3 : gl ≠ gd) (hb : Below w.heap.size w w') :
    DoPost true q n r w (.returned (.tuple #[.agg #[.int .i64 q, .int .i64 b'.p, .int .i64 b'.s, .slice (some ⟨gl, 0, none⟩) n cl, .slice (some ⟨gd, 0, none⟩) n cd], .int .i64 r.2])) w' := by
  refine ⟨_, cl, _, cd, by rw [hp, hs]; rfl, fun _ => ⟨gl, rfl, h1, hl.congr (fun i hi => ?_)⟩, fun _ => ⟨gd, rfl, h2, hd.congr (fun i hi => ?_)⟩, fun _ x hx hy => ?_, hb⟩
  · show Value.int .i64 (b'.f i) = .int .i64 (r.1.f i)
    rw [hf i hi]
  · show Value.bool (b'.d i) = .bool (r.1.d i)
    rw [hd' i hi]
  · obtain ⟨o1, e1⟩ := hx
    obtain ⟨o2, e2⟩ := hy
    simp at e1 e2
    omega
theorem BandC.new {w : World} {gb : Nat} {q : Int} {n cl cd : Nat} {b : BSt} {gl gd : Nat} (hk : Bk w gb 29 #[.int .i64 q, .int .i64 b.p, .int .i64 b.s, .slice (some ⟨gl, 0, none⟩) n cl, .slice (some ⟨gd, 0, none⟩) n cd])
    (hl : OwnV w gl n (fun i => .int .i64 (b.f i))) (hd : OwnV w gd n (fun i => .bool (b.d i))) (h1 : gb ≠ gl) (h2 : gb ≠ gd) (h3 : gl ≠ gd) : BandC w gb 0 q n cl cd b gl gd := by
  obtain ⟨c0, c1, c2, c3, c4⟩ := hk.five
  exact ⟨c0, by simpa using c1, by simpa using c2, by simpa using c3, by simpa using c4, by simpa using hk.free 1, by simpa using hk.free 2, hl, hd, h1, h2, h3, fun j hj => absurd hj (Nat.not_lt_zero j)⟩
end Go.Proofs.Ytfckhpkebdpkbaa

/- Bands: what BandPlay hands back. -/
namespace Go.Proofs.Ytfckhpkebdpkbaa
open Go.RowKit
def playOk (q p s : Int) (n m k : Nat) (f : Nat → Int) (f' : Nat → Bool) : Bool := bandOk q p s n m f f' && decide (k ≤ 2000)
def doK (ok : Bool) (b : BSt) : BSt := if ok = true then b else zeroB
/-- BandPlay's two results, and what of them lies in memory, in blocks from B0 on. -/
def PlayR (ok : Bool) (B0 : Nat) (q : Int) (n k : Nat) (b : BSt) (code : Nat → Int) (v : Value) (u : World) : Prop :=
  ∃ Al cl Ad cd Ac cc, v = .tuple #[.agg #[.int .i64 (doQ ok q), .int .i64 (doK ok b).p, .int .i64 (doK ok b).s, .slice Al (doN ok n) cl, .slice Ad (doN ok n) cd], .slice Ac (doN ok k) cc] ∧
    OwnR u B0 Al (doN ok n) (fun i => .int .i64 ((doK ok b).f i)) ∧ OwnR u B0 Ad (doN ok n) (fun i => .bool ((doK ok b).d i)) ∧ OwnR u B0 Ac (doN ok k) (fun i => .int .i64 (code i)) ∧
    (0 < doN ok n → ∀ x, hd Al x → ¬ hd Ad x) ∧ (0 < doN ok n → 0 < doN ok k → ∀ x, hd Ac x → ¬ hd Al x ∧ ¬ hd Ad x)
theorem PlayR.no {B0 : Nat} {q : Int} {n k : Nat} {b : BSt} {code : Nat → Int} {u : World} : PlayR false B0 q n k b code (.tuple #[.agg #[.int .i64 0, .int .i64 0, .int .i64 0, .slice none 0 0, .slice none 0 0], .slice none 0 0]) u :=
  ⟨none, 0, none, 0, none, 0, rfl, fun h => absurd h (Nat.lt_irrefl 0), fun h => absurd h (Nat.lt_irrefl 0), fun h => absurd h (Nat.lt_irrefl 0), fun h => absurd h (Nat.lt_irrefl 0), fun h => absurd h (Nat.lt_irrefl 0)⟩
theorem hd_some {g x : Nat} (h : hd (some ⟨g, 0, none⟩) x) : x = g := by
  obtain ⟨o, e⟩ := h
  simp at e
  exact e.1.symm
theorem PlayR.yes {B0 : Nat} {q : Int} {n k : Nat} {b : BSt} {code : Nat → Int} {u : World} {gl gd C cl cd cc : Nat} (hl : OwnV u gl n (fun i => .int .i64 (b.f i))) (hd' : OwnV u gd n (fun i => .bool (b.d i))) (hc : OwnV u C k (fun i => .int .i64 (code i)))
    (h1 : B0 ≤ gl) (h2 : B0 ≤ gd) (h3 : B0 ≤ C) (h4 : gl ≠ gd) (h5 : C ≠ gl) (h6 : C ≠ gd) :
    PlayR true B0 q n k b code (.tuple #[.agg #[.int .i64 q, .int .i64 b.p, .int .i64 b.s, .slice (some ⟨gl, 0, none⟩) n cl, .slice (some ⟨gd, 0, none⟩) n cd], .slice (some ⟨C, 0, none⟩) k cc]) u :=
  ⟨_, cl, _, cd, _, cc, rfl, fun _ => ⟨gl, rfl, h1, hl⟩, fun _ => ⟨gd, rfl, h2, hd'⟩, fun _ => ⟨C, rfl, h3, hc⟩, fun _ x hx hy => by rw [hd_some hx] at hy; exact h4 (hd_some hy), fun _ _ x hx => by
    rw [hd_some hx]
    exact ⟨fun hy => h5 (hd_some hy), fun hy => h6 (hd_some hy)⟩⟩
theorem bank_new {w : World} {B : Nat} {q : Int} {n cl cd : Nat} {b : BSt} {gl gd : Nat} {v s : Value} {P : Pre} (hP : ∀ j, P.m j = if j = 0 then some v else some s) (hk : Bk w B 62 #[v, s, .int .i64 q, .int .i64 b.p, .int .i64 b.s, .slice (some ⟨gl, 0, none⟩) n cl, .slice (some ⟨gd, 0, none⟩) n cd])
    (hl : OwnV w gl n (fun i => .int .i64 (b.f i))) (hd : OwnV w gd n (fun i => .bool (b.d i))) (h1 : B ≠ gl) (h2 : B ≠ gd) (h3 : gl ≠ gd) : @BandC P w B 2 q n cl cd b gl gd := by
  refine @BandC.mk P _ _ _ _ _ _ _ _ _ _ (hk.cell 2) (hk.cell 3) (hk.cell 4) (hk.cell 5) (hk.cell 6) (hk.free 3) (hk.free 4) hl hd h1 h2 h3 fun j hj => ⟨?_, hk.free j⟩
  rcases (by omega : j = 0 ∨ j = 1) with rfl | rfl
  · rw [hP]; exact hk.cell 0
  · rw [hP]; exact hk.cell 1
end Go.Proofs.Ytfckhpkebdpkbaa

/- Trees: marks on groups (printed by mkg15.py). -/
import Derived.Test.YtndbmeedimhohaaG5Base
import Derived.Test.YtndbmeedimhohaaK4Base
namespace Go.Proofs.Ytndbmeedimhohaa
open Go.RowKit
theorem OwnS.setOne {w : World} {g n sz k i : Nat} {el : Nat → List Value} (h : OwnS w g n sz el) (hk : k < n) (hi : i < sz) (hel : ∀ m, (el m).length = sz) (v : Value) :
    OwnS (w.setCell ⟨g, k * sz + i, none⟩ v) g n sz (fun m => if m = k then (el k).set i v else el m) := by
  have hth := OwnS.there_at h hk
  refine ⟨by simpa using h.1, fun m hm j u hu => ?_, World.there_setCells h.2.2 g (k * sz + i) [v]⟩
  by_cases e : m = k
  · subst e
    simp only [if_true] at hu
    by_cases ej : j = i
    · subst ej
      have : u = v := by
        rw [List.getElem?_set_self (by rw [hel]; exact hi)] at hu
        exact (Option.some.inj hu).symm
      subst this
      obtain ⟨o, ho⟩ := Option.isSome_iff_exists.1 (hth j hi).1
      exact World.cell?_setCell_same _ _ _ ho
    · rw [List.getElem?_set_ne (Ne.symm ej)] at hu
      exact (World.cell?_setCell_other _ _ _ _ (by simp; try omega)).trans (h.2.1 m hm j u hu)
  · simp only [if_neg e] at hu
    have hj : j < sz := by
      have := (List.getElem?_eq_some_iff.1 hu).1
      rw [hel] at this
      exact this
    refine (World.cell?_setCell_other _ _ _ _ ?_).trans (h.2.1 m hm j u hu)
    rcases Nat.lt_or_gt_of_ne e with h1 | h1
    · have := mul_succ_le (sz := sz) h1
      simp
      try omega
    · have := mul_succ_le (sz := sz) h1
      simp
      try omega
theorem hlen (k i : Nat) {sz : Nat} {v : Value} {el : Nat → List Value} (hel : ∀ m, (el m).length = sz) : ∀ m, ((fun m => if m = k then (el k).set i v else el m) m).length = sz := fun m => by
  simp only
  split
  · rw [List.length_set]; exact hel k
  · exact hel m
/-- The group that marking from k on leaves. -/
def mkG (g : GV) (k : Int) : GV :=

  { us := k % 3 == 0, pa := k + 1, nm := mText (k + 1 + 1), we := k + 1 + 1 + 1, cp := k + 1 + 1 + 1 + 1, pe := k + 1 + 1 + 1 + 1 + 1, ne := k + 1 + 1 + 1 + 1 + 1 + 1, su := k + 1 + 1 + 1 + 1 + 1 + 1 + 1, qu := k + 1 + 1 + 1 + 1 + 1 + 1 + 1 + 1, po := k + 1 + 1 + 1 + 1 + 1 + 1 + 1 + 1 + 1, sp := k + 1 + 1 + 1 + 1 + 1 + 1 + 1 + 1 + 1 + 1, ln := g.ln, lf := fun i => k + 1 + 1 + 1 + 1 + 1 + 1 + 1 + 1 + 1 + 1 + 1 + i, dn := g.dn, df := fun i => (k + 1 + 1 + 1 + 1 + 1 + 1 + 1 + 1 + 1 + 1 + 1 + g.ln + i) % 3 == 0, sn := g.sn,
    s0 := fun i => k + 1 + 1 + 1 + 1 + 1 + 1 + 1 + 1 + 1 + 1 + 1 + g.ln + g.dn + 5 * i, s1 := fun i => (k + 1 + 1 + 1 + 1 + 1 + 1 + 1 + 1 + 1 + 1 + 1 + g.ln + g.dn + 5 * i + 1) % 3 == 0, s2 := fun i => k + 1 + 1 + 1 + 1 + 1 + 1 + 1 + 1 + 1 + 1 + 1 + g.ln + g.dn + 5 * i + 1 + 1, s3 := fun i => k + 1 + 1 + 1 + 1 + 1 + 1 + 1 + 1 + 1 + 1 + 1 + g.ln + g.dn + 5 * i + 1 + 1 + 1, s4 := fun i => k + 1 + 1 + 1 + 1 + 1 + 1 + 1 + 1 + 1 + 1 + 1 + g.ln + g.dn + 5 * i + 1 + 1 + 1 + 1 }
/-- The mark at which group i begins. -/
def kUp (g : Nat → GV) (k : Int) : Nat → Int
  | 0 => k
  | i + 1 => kUp g k i + 1 + 1 + 1 + 1 + 1 + 1 + 1 + 1 + 1 + 1 + 1 + (g i).ln + (g i).dn + 5 * (g i).sn
theorem kUp_b {g : Nat → GV} {k : Int} {n : Nat} (hL : ∀ i, i < n → GLen (g i)) : ∀ i, i ≤ n → k ≤ kUp g k i ∧ kUp g k i ≤ k + i * 16777216
  | 0, _ => by simp [kUp]
  | i + 1, h => by
    have ih := kUp_b (k := k) hL i (by omega)
    have hl := hL i (by omega)
    have h1 := hl.l
    have h2 := hl.d
    have h3 := hl.s
    simp only [kUp]
    omega
/-- The blocks of groups: their row's and their own rows'. -/
def touched (q n : Nat) (g : Nat → GV) (h : Nat → GH) (b : Nat) : Prop := b = q ∨ ∃ i, i < n ∧ ((0 < (g i).ln ∧ hd (h i).la b) ∨ (0 < (g i).dn ∧ hd (h i).da b) ∨ (0 < (g i).sn ∧ hd (h i).sa b))
theorem OwnGs.lt {w : World} {q n : Nat} {g : Nat → GV} {h : Nat → GH} (o : OwnGs w q n g h) : q < w.heap.size := o.1.1
theorem OwnGs.span {w : World} {q n : Nat} {g : Nat → GV} {h : Nat → GH} (o : OwnGs w q n g h) {b : Nat} (hb : touched q n g h b) : q ≤ b ∧ b < w.heap.size := by
  obtain ⟨o1, lo, h0, hm, h2⟩ := o
  have hlo : ∀ i, i ≤ n → q < lo i := fun i hi => by
    induction i with
    | zero => exact h0
    | succ i ih => exact Nat.lt_of_lt_of_le (ih (by omega)) (hm i (by omega))
  rcases hb with rfl | ⟨i, hi, hb⟩
  · exact ⟨Nat.le_refl _, o1.1⟩
  · have hq := hlo i (by omega)
    obtain ⟨_, g1⟩ := h2 i hi
    rcases hb with ⟨hn, x, e⟩ | ⟨hn, x, e⟩ | ⟨hn, x, e⟩
    · obtain ⟨y, ey, hB, hv⟩ := g1.l hn
      rw [ey] at e
      simp only [Option.some.injEq, Addr.mk.injEq] at e
      have := hv.1
      omega
    · obtain ⟨y, ey, hB, hv⟩ := g1.d hn
      rw [ey] at e
      simp only [Option.some.injEq, Addr.mk.injEq] at e
      have := hv.1
      omega
    · obtain ⟨y, ey, hB, hv⟩ := g1.s hn
      rw [ey] at e
      simp only [Option.some.injEq, Addr.mk.injEq] at e
      have := hv.1
      omega
theorem GLie.in_ {lo hi : Nat} {h : GH} (l : GLie lo hi h) {b : Nat} (hb : hd h.la b ∨ hd h.da b ∨ hd h.sa b) : lo ≤ b ∧ b < hi := l.1 b hb
theorem GLie.apart {lo hi : Nat} {h : GH} (l : GLie lo hi h) {b : Nat} : (hd h.la b → ¬ hd h.da b ∧ ¬ hd h.sa b) ∧ (hd h.da b → ¬ hd h.la b ∧ ¬ hd h.sa b) ∧ (hd h.sa b → ¬ hd h.la b ∧ ¬ hd h.da b) := l.2 b
/-- A group's rows are kept where another's are written. -/
theorem GOwn.aside {p : Nat → Prop} {w w' : World} {lo hi : Nat} {g : GV} {h : GH} (o : GOwn w lo g h) (l : GLie lo hi h) (hk : Kept p w w') (hp : ∀ b, lo ≤ b → b < hi → ¬ p b) : GOwn w' lo g h :=
  ⟨o.l.kept hk (fun _ b _ hb => hp b (l.in_ (.inl hb)).1 (l.in_ (.inl hb)).2), o.d.kept hk (fun _ b _ hb => hp b (l.in_ (.inr (.inl hb))).1 (l.in_ (.inr (.inl hb))).2), o.s.kept hk (fun _ b _ hb => hp b (l.in_ (.inr (.inr hb))).1 (l.in_ (.inr (.inr hb))).2)⟩
theorem lo_le {lo : Nat → Nat} {n : Nat} (hm : ∀ i, i < n → lo i ≤ lo (i + 1)) : ∀ (j i : Nat), i ≤ j → j ≤ n → lo i ≤ lo j
  | 0, i, h, _ => by obtain rfl : i = 0 := by omega
                     exact Nat.le_refl _
  | j + 1, i, h, hj => by
    by_cases e : i = j + 1
    · subst e; exact Nat.le_refl _
    · exact Nat.le_trans (lo_le hm j i (by omega) (by omega)) (hm j (by omega))

/-- What marking has done when j groups are marked. -/
def gm (g : Nat → GV) (k : Int) (j i : Nat) : GV := if i < j then mkG (g i) (kUp g k i) else g i
structure MarkS (w wr : World) (q n : Nat) (g : Nat → GV) (h : Nat → GH) (lo : Nat → Nat) (k : Int) (j : Nat) : Prop where
  s : OwnS wr q n 14 (fun i => grC (gm g k j i) (h i))
  r : ∀ i, i < n → GOwn wr (lo i) (gm g k j i) (h i)
  kept : Kept (touched q n g h) w wr
theorem gm_eq {g : Nat → GV} {k : Int} {j : Nat} : gm g k j j = g j := by simp [gm]
theorem gm_next {g : Nat → GV} {k : Int} {j i : Nat} (h : i ≠ j) : gm g k (j + 1) i = gm g k j i := by
  unfold gm
  by_cases h1 : i < j
  · rw [if_pos h1, if_pos (by omega)]
  · rw [if_neg h1, if_neg (by omega)]
theorem gm_self {g : Nat → GV} {k : Int} {j : Nat} : gm g k (j + 1) j = mkG (g j) (kUp g k j) := by simp [gm]
/-- The first two fields are marked. -/
theorem MarkS.two {w wr : World} {q n j : Nat} {g : Nat → GV} {h : Nat → GH} {lo : Nat → Nat} {k kk : Int} (m : MarkS w wr q n g h lo k j) (hlt : j < n) (h0 : ∀ i, i < n → q < lo i) :
    OwnS (((wr).setCell ⟨q, j * 14, none⟩ (.bool (kk % 3 == 0))).setCell ⟨q, j * 14 + 1, none⟩ (.int .i64 (kk + 1))) q n 14 (fun m => if m = j then (grC (g j) (h j)).set 0 (.bool (kk % 3 == 0)) |>.set 1 (.int .i64 (kk + 1)) else grC (gm g k j m) (h m)) ∧
    (∀ i, i < n → GOwn (((wr).setCell ⟨q, j * 14, none⟩ (.bool (kk % 3 == 0))).setCell ⟨q, j * 14 + 1, none⟩ (.int .i64 (kk + 1))) (lo i) (gm g k j i) (h i)) ∧ Kept (touched q n g h) w (((wr).setCell ⟨q, j * 14, none⟩ (.bool (kk % 3 == 0))).setCell ⟨q, j * 14 + 1, none⟩ (.int .i64 (kk + 1))) := by
  have hl0 : ∀ m, ((fun i => grC (gm g k j i) (h i)) m).length = 14 := fun m => rfl
  refine ⟨((m.s.setOne hlt (show 0 < 14 by omega) hl0 (.bool (kk % 3 == 0))).setOne hlt (show 1 < 14 by omega) (hlen j 0 hl0) (.int .i64 (kk + 1))).congr (fun i _ => ?_), fun i hi => ((m.r i hi).off (h0 i hi) _).off (h0 i hi) _, (m.kept.setCell (.inl rfl) _).setCell (.inl rfl) _⟩
  by_cases e : i = j
  · subst e; simp only [if_true, gm_eq]
  · simp only [if_neg e]
/-- The next nine. -/
theorem nine {w : World} {q n j : Nat} {el : Nat → List Value} {kk : Int} (s : OwnS w q n 14 el) (hlt : j < n) (hel : ∀ m, (el m).length = 14) :
    OwnS ((((((((((w).setCell ⟨q, j * 14 + 2, none⟩ (.string (mText (kk + 1 + 1)))).setCell ⟨q, j * 14 + 3, none⟩ (.int .i64 (kk + 1 + 1 + 1))).setCell ⟨q, j * 14 + 4, none⟩ (.int .i64 (kk + 1 + 1 + 1 + 1))).setCell ⟨q, j * 14 + 5, none⟩ (.int .i64 (kk + 1 + 1 + 1 + 1 + 1))).setCell ⟨q, j * 14 + 6, none⟩ (.int .i64 (kk + 1 + 1 + 1 + 1 + 1 + 1))).setCell ⟨q, j * 14 + 7, none⟩ (.int .i64 (kk + 1 + 1 + 1 + 1 + 1 + 1 + 1))).setCell ⟨q, j * 14 + 8, none⟩ (.int .i64 (kk + 1 + 1 + 1 + 1 + 1 + 1 + 1 + 1))).setCell ⟨q, j * 14 + 8 + 1, none⟩ (.int .i64 (kk + 1 + 1 + 1 + 1 + 1 + 1 + 1 + 1 + 1))).setCell ⟨q, j * 14 + 8 + 2, none⟩ (.int .i64 (kk + 1 + 1 + 1 + 1 + 1 + 1 + 1 + 1 + 1 + 1))) q n 14 (fun m => if m = j then (((((((((el j).set 2 (.string (mText (kk + 1 + 1)))).set 3 (.int .i64 (kk + 1 + 1 + 1))).set 4 (.int .i64 (kk + 1 + 1 + 1 + 1))).set 5 (.int .i64 (kk + 1 + 1 + 1 + 1 + 1))).set 6 (.int .i64 (kk + 1 + 1 + 1 + 1 + 1 + 1))).set 7 (.int .i64 (kk + 1 + 1 + 1 + 1 + 1 + 1 + 1))).set 8 (.int .i64 (kk + 1 + 1 + 1 + 1 + 1 + 1 + 1 + 1))).set 9 (.int .i64 (kk + 1 + 1 + 1 + 1 + 1 + 1 + 1 + 1 + 1))).set 10 (.int .i64 (kk + 1 + 1 + 1 + 1 + 1 + 1 + 1 + 1 + 1 + 1)) else el m) := by
  refine ((((((((((s.setOne hlt (show 2 < 14 by omega) (hel) (.string (mText (kk + 1 + 1)))).setOne hlt (show 3 < 14 by omega) (hlen j 2 (hel)) (.int .i64 (kk + 1 + 1 + 1))).setOne hlt (show 4 < 14 by omega) (hlen j 3 (hlen j 2 (hel))) (.int .i64 (kk + 1 + 1 + 1 + 1))).setOne hlt (show 5 < 14 by omega) (hlen j 4 (hlen j 3 (hlen j 2 (hel)))) (.int .i64 (kk + 1 + 1 + 1 + 1 + 1))).setOne hlt (show 6 < 14 by omega) (hlen j 5 (hlen j 4 (hlen j 3 (hlen j 2 (hel))))) (.int .i64 (kk + 1 + 1 + 1 + 1 + 1 + 1))).setOne hlt (show 7 < 14 by omega) (hlen j 6 (hlen j 5 (hlen j 4 (hlen j 3 (hlen j 2 (hel)))))) (.int .i64 (kk + 1 + 1 + 1 + 1 + 1 + 1 + 1))).setOne hlt (show 8 < 14 by omega) (hlen j 7 (hlen j 6 (hlen j 5 (hlen j 4 (hlen j 3 (hlen j 2 (hel))))))) (.int .i64 (kk + 1 + 1 + 1 + 1 + 1 + 1 + 1 + 1))).setOne hlt (show 9 < 14 by omega) (hlen j 8 (hlen j 7 (hlen j 6 (hlen j 5 (hlen j 4 (hlen j 3 (hlen j 2 (hel)))))))) (.int .i64 (kk + 1 + 1 + 1 + 1 + 1 + 1 + 1 + 1 + 1))).setOne hlt (show 10 < 14 by omega) (hlen j 9 (hlen j 8 (hlen j 7 (hlen j 6 (hlen j 5 (hlen j 4 (hlen j 3 (hlen j 2 (hel))))))))) (.int .i64 (kk + 1 + 1 + 1 + 1 + 1 + 1 + 1 + 1 + 1 + 1)))).congr (fun i _ => ?_)
  by_cases e : i = j
  · subst e; simp only [if_true]
  · simp only [if_neg e]
end Go.Proofs.Ytndbmeedimhohaa

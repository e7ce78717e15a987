/- Queues: QueuePick of spec; the pile's order, top and push. -/
import Derived.Test.YtjdlfldeoinbiaaQP1Base
import Derived.Deep.QuietTactic
import Derived.BigQuiet
namespace Go.Proofs.Ytjdlfldeoinbiaa
open Go.RowKit
theorem Bk.two {w : World} {g : Nat} {t : TypeId} {a b : Value} (h : Bk w g t #[a, b]) : w.cell? ⟨g, 0, none⟩ = some a ∧ w.cell? ⟨g, 1, none⟩ = some b := ⟨h.cell 0, h.cell 1⟩
set_option maxHeartbeats 400000 in
theorem before_any (a b : Int) (ga oa n c gq : Nat) (v : Nat → Int) (ha0 : 0 ≤ a) (ha : a < n) (hb0 : 0 ≤ b) (hb : b < n) (w : World) (hq : w.cell? ⟨gq, 3, none⟩ = some (.slice (some ⟨ga, oa, none⟩) n c))
    (hv : ∀ i, i < n → w.cell? ⟨ga, oa + i * 4 + 1, none⟩ = some (.int .i64 (v i))) :
    Calls Try.prog 49 #[.int .i64 a, .int .i64 b, .pointer (some ⟨gq, 0, none⟩)] w fun e w' => e = .returned (.bool (lt2 v a b)) ∧ ∃ m, w' = w.drewN m := by
  have c1 := hv a.toNat (by omega)
  have c2 := hv b.toNat (by omega)
  clear hv
  have HE : Hid (lt2 v a b = (decide (v a.toNat < v b.toNat) || (decide (v a.toNat = v b.toNat) && decide (a < b)))) := rfl
  by_cases r1 : v a.toNat < v b.toNat
  · have HN : Hid (lt2 v a b = true) := by simp [Hid, lt2, r1]
    go_enter Try.func49, Try.ntmps49
    go_wp2
    go_quiet (fail)
    go_wp2
    go_ret
    exact ⟨ret_boolQ HN.out.symm, _, rfl⟩
  have r1' : decide (v a.toNat < v b.toNat) = false := by simp [r1]
  by_cases r2 : v a.toNat = v b.toNat
  · have HN : Hid (lt2 v a b = decide (a < b)) := by simp [Hid, lt2, r2]
    have r2' : (v a.toNat == v b.toNat) = true := by simp [r2]
    clear r2
    go_enter Try.func49, Try.ntmps49
    go_wp2
    go_quiet (fail)
    go_wp2
    go_ret
    exact ⟨ret_boolQ HN.out.symm, _, rfl⟩
  · have HN : Hid (lt2 v a b = false) := by simp [Hid, lt2, r1, r2]
    have r2' : (v a.toNat == v b.toNat) = false := by simp [r2]
    clear r2
    go_enter Try.func49, Try.ntmps49
    go_wp2
    go_quiet (fail)
    go_wp2
    go_ret
    exact ⟨ret_boolQ HN.out.symm, _, rfl⟩
/-- Block b has cap cells, the first m of them read as xs. -/
def Sw (w : World) (b cap m : Nat) (xs : Nat → Int) : Prop := ∃ cur, Bk w b 3 cur ∧ cur.size = cap ∧ ∀ i, i < m → cur[i]? = some (.int .i64 (xs i))
def upd (xs : Nat → Int) (i : Nat) (z : Int) : Nat → Int := fun j => if j = i then z else xs j
theorem Sw.cell {w : World} {b cap m : Nat} {xs : Nat → Int} (h : Sw w b cap m xs) (i : Nat) (hi : i < m) : w.cell? ⟨b, i, none⟩ = some (.int .i64 (xs i)) := by
  obtain ⟨cur, h1, h2, h3⟩ := h
  rw [h1.cell, h3 i hi]
theorem Sw.free {w : World} {b cap m : Nat} {xs : Nat → Int} (h : Sw w b cap m xs) (i : Nat) : w.frozen? ⟨b, i, none⟩ = false := by
  obtain ⟨cur, h1, h2, h3⟩ := h
  exact h1.free i
theorem Sw.lt {w : World} {b cap m : Nat} {xs : Nat → Int} (h : Sw w b cap m xs) : b < w.heap.size := by
  obtain ⟨cur, h1, h2, h3⟩ := h
  exact h1.lt
theorem Sw.drewN {w : World} {b cap m : Nat} {xs : Nat → Int} (h : Sw w b cap m xs) (n : Nat) : Sw (w.drewN n) b cap m xs := by
  obtain ⟨cur, h1, h2, h3⟩ := h
  exact ⟨cur, h1.drewN n, h2, h3⟩
theorem Sw.drew {w : World} {b cap m : Nat} {xs : Nat → Int} (h : Sw w b cap m xs) : Sw w.drew b cap m xs := h
theorem Sw.off {w : World} {b cap m : Nat} {xs : Nat → Int} (h : Sw w b cap m xs) {p : Addr} (hp : b ≠ p.block) (u : Value) : Sw (w.setCell p u) b cap m xs := by
  obtain ⟨cur, h1, h2, h3⟩ := h
  exact ⟨cur, h1.off hp u, h2, h3⟩
theorem Sw.put {w : World} {b cap m : Nat} {xs : Nat → Int} (h : Sw w b cap m xs) (i : Nat) (hi : i < m) (z : Int) : Sw (w.setCell ⟨b, i, none⟩ (.int .i64 z)) b cap m (upd xs i z) := by
  obtain ⟨cur, h1, h2, h3⟩ := h
  refine ⟨_, h1.put i _, by simpa using h2, fun j hj => ?_⟩
  have hi' : i < cur.size := by
    have := h3 i hi
    exact (Array.getElem?_eq_some_iff.1 this).1
  unfold upd
  by_cases e : j = i
  · subst e
    simp [hi']
  · rw [if_neg e, Array.getElem?_setIfInBounds_ne (by omega)]
    exact h3 j hj
def ints (m : Nat) (xs : Nat → Int) : List Value := (List.range m).map fun i => .int .i64 (xs i)
theorem ints_get (m : Nat) (xs : Nat → Int) (i : Nat) (hi : i < m) : (ints m xs)[i]? = some (.int .i64 (xs i)) := by simp [ints, hi]
theorem Sw.of {w : World} {B m b n cap : Nat} {xs : Nat → Int} (h : w.ownsRow B 3 1 (.slice (some ⟨b, 0, none⟩) n cap) m (ints m xs)) : Sw w b cap m xs ∧ B ≤ b ∧ m ≤ cap ∧ cap ≤ maxLen ∧ n = m := by
  obtain ⟨_, h | ⟨g, cap', cur, hv, hB, hg, h1, h2, h3, h4⟩⟩ := h
  · simp at h
  · simp only [Value.slice.injEq, Option.some.injEq, Addr.mk.injEq, and_true] at hv
    obtain ⟨rfl, rfl, rfl⟩ := hv
    refine ⟨⟨cur, hg, by omega, fun i hi => ?_⟩, hB, h1, h2, rfl⟩
    have := ints_get n xs i hi
    rw [← h4, Nat.mul_one] at this
    rw [List.getElem?_take_of_lt hi] at this
    simpa using this
theorem Sw.owns {w : World} {B m b cap : Nat} {xs : Nat → Int} (h : Sw w b cap m xs) (hB : B ≤ b) (hm : m ≤ cap) (hc : cap ≤ maxLen) : w.ownsRow B 3 1 (.slice (some ⟨b, 0, none⟩) m cap) m (ints m xs) := by
  obtain ⟨cur, h1, h2, h3⟩ := h
  refine ⟨by simp [ints], .inr ⟨b, cap, cur, rfl, hB, h1, hm, hc, by omega, ?_⟩⟩
  apply List.ext_getElem?
  intro i
  rw [Nat.mul_one]
  by_cases hi : i < m
  · rw [List.getElem?_take_of_lt hi, ints_get m xs i hi]
    simpa using h3 i hi
  · have : (ints m xs).length = m := by simp [ints]
    rw [List.getElem?_eq_none (by omega : (ints m xs).length ≤ i)]
    rw [List.getElem?_eq_none (by rw [List.length_take]; omega)]
/-- A pile at block g: m elements that read as xs, in a row that lies at B or above. -/
def PileAt (w : World) (B g : Nat) (fv : Value) (m : Nat) (xs : Nat → Int) : Prop := ∃ lv, Bk w g 66 #[lv, fv] ∧ w.ownsRow B 3 1 lv m (ints m xs)
theorem slice_of {w : World} {B m : Nat} {lv : Value} {L : List Value} (h : w.ownsRow B 3 1 lv m L) : (lv = .slice none 0 0 ∧ m = 0) ∨ ∃ b cap, lv = .slice (some ⟨b, 0, none⟩) m cap := by
  obtain ⟨_, h | ⟨g, cap', cur, hv, hB, hg, h1, h2, h3, h4⟩⟩ := h
  · exact .inl h
  · exact .inr ⟨g, cap', hv⟩
theorem top_none (B g : Nat) (fv : Value) (xs : Nat → Int) (w : World) (h : PileAt w B g fv 0 xs) :
    Calls Try.prog 51 #[.pointer (some ⟨g, 0, none⟩)] w fun e w' => e = .returned (.tuple #[.int .i64 0, .bool false]) ∧ w = w' := by
  obtain ⟨lv, hk, ho⟩ := h
  rcases slice_of ho with ⟨rfl, _⟩ | ⟨b, cap, rfl⟩
  · obtain ⟨c0, c1⟩ := hk.two
    go_enter Try.func51, Try.ntmps51
    go_wp2
    go_ret2
    exact ⟨rfl, rfl⟩
  · obtain ⟨c0, c1⟩ := hk.two
    go_enter Try.func51, Try.ntmps51
    go_wp2
    go_ret2
    exact ⟨rfl, rfl⟩
theorem top_some (B g m : Nat) (fv : Value) (xs : Nat → Int) (w : World) (hm : 0 < m) (hm2 : m ≤ 1048576) (h : PileAt w B g fv m xs) :
    Calls Try.prog 51 #[.pointer (some ⟨g, 0, none⟩)] w fun e w' => e = .returned (.tuple #[.int .i64 (xs 0), .bool true]) ∧ w = w' := by
  obtain ⟨lv, hk, ho⟩ := h
  rcases slice_of ho with ⟨rfl, _⟩ | ⟨b, cap, rfl⟩
  · omega
  · obtain ⟨c0, c1⟩ := hk.two
    obtain ⟨hs, hB, hc, _, _⟩ := Sw.of ho
    have d0 := hs.cell 0 hm
    clear ho hs
    go_enter Try.func51, Try.ntmps51
    go_wp2
    go_ret2
    exact ⟨rfl, rfl⟩
set_option maxHeartbeats 400000 in
theorem sQueuePick_any (fl cu ra : Int) (A : Option Addr) (n c : Nat) (hn : (n : Int) ≤ 1048576) (on : Nat → Bool) (v x s : Nat → Int) (w W : World) (hb : Below W.heap.size W w)
    (hA : Rs W W.heap.size A n 4 (ent on v x s)) :
    Calls Try.prog 21 #[.agg #[.int .i64 fl, .int .i64 cu, .int .i64 ra, .slice A n c]] w fun e w' => e = .returned (.int .i64 (queuePick fl cu ra n on v x s)) ∧ Below W.heap.size W w' := by
  have hz := hb.size
  have HA := Lib.hid (hA.at_ hb)
  clear hA
  have HE : Hid (queuePick fl cu ra n on v x s = if queueOk fl cu ra n on v x s then (if cu ≠ -1 ∧ ra < 50 then cu else leastTo on v n) else -1) := rfl
  go_enter Try.func21, Try.ntmps21
  have kb := Bk.new w 29 #[.int .i64 fl, .int .i64 cu, .int .i64 ra, .slice A n c]
  go_wp2_with (refine wpList_load_row rfl 29 _ rfl w.heap.size rfl 29 _ (0, 0) _ kb Try.underlying29 rfl (by kernel_rfl) ?_)
  refine (sQueueOk_any fl cu ra A n c (by omega) on v x s _ _ (Below.refl _ _) (HA.out.at_ (by go_grown))).mono ?_
  rintro e w1 ⟨rfl, hb1⟩
  have kb1 := kb.below hb1 (by simp)
  have hB1 : Below w.heap.size w w1 := ((Below.refl _ w).alloc (Nat.le_refl _) _).trans (hb1.mono (by simp))
  have hlt1 := kb1.lt
  have hW1 : Below W.heap.size W w1 := bel hb hB1
  obtain ⟨k0, k1, k2, k3⟩ := kb1.four
  have KB := Lib.hid kb1
  clear hb1 kb kb1
  cases h0 : queueOk fl cu ra n on v x s
  · have HN : Hid (queuePick fl cu ra n on v x s = -1) := HE.out.trans (by rw [h0]; rfl)
    go_wp2
    go_ret
    exact ⟨ret_intB HN.out.symm, hW1⟩
  obtain ⟨a1, a2, a3, a4, a5, a6, a7⟩ := queueOk_facts h0
  by_cases h1 : cu = -1
  · have HN : Hid (queuePick fl cu ra n on v x s = leastTo on v n) := HE.out.trans (by rw [h0, if_pos rfl, if_neg (by omega)])
    have h1' : ¬ (0 ≤ cu) := by omega
    clear h1
    go_wp2_with (refine wpList_load_row rfl 29 _ rfl w.heap.size rfl 29 _ (0, 0) _ KB.out Try.underlying29 rfl (by kernel_rfl) ?_)
    refine (l4Least_any fl cu ra A n c hn on v x s _ w1 (Below.refl _ _) (HA.out.at_ hB1)).mono ?_
    rintro e w2 ⟨rfl, hb2⟩
    go_wp2
    go_ret
    exact ⟨ret_intB HN.out.symm, bel hW1 hb2⟩
  have h1' : 0 ≤ cu := by omega
  by_cases h2 : ra < 50
  · have HN : Hid (queuePick fl cu ra n on v x s = cu) := HE.out.trans (by rw [h0, if_pos rfl, if_pos ⟨h1, h2⟩])
    clear h1
    go_wp2
    go_ret
    exact ⟨ret_intB HN.out.symm, hW1⟩
  · have HN : Hid (queuePick fl cu ra n on v x s = leastTo on v n) := HE.out.trans (by rw [h0, if_pos rfl, if_neg (by omega)])
    clear h1
    go_wp2_with (refine wpList_load_row rfl 29 _ rfl w.heap.size rfl 29 _ (0, 0) _ KB.out Try.underlying29 rfl (by kernel_rfl) ?_)
    refine (l4Least_any fl cu ra A n c hn on v x s _ w1 (Below.refl _ _) (HA.out.at_ hB1)).mono ?_
    rintro e w2 ⟨rfl, hb2⟩
    go_wp2
    go_ret
    exact ⟨ret_intB HN.out.symm, bel hW1 hb2⟩
end Go.Proofs.Ytjdlfldeoinbiaa

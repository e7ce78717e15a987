/-
  Bands: spec's l5Own, l5Wet, l1Min.
-/
import Derived.Test.YtfckhpkebdpkbaaPlayL7
import Derived.Laws.AppendOwn
import Derived.Deep.AppendLies
import Derived.Deep.RegionLaw
namespace Go.Proofs.Ytfckhpkebdpkbaa
open Go.RowKit
theorem below_grown {w w' : World} {row : Option Nat} {B : Nat} (h : w.grownBy w' row) (hB : B ≤ w.heap.size) (hr : ∀ k, row = some k → B ≤ k) : Below B w w' :=
  ⟨h.os, h.tape, h.output, h.size, fun k hk => h.block k (Nat.lt_of_lt_of_le hk hB) (fun e => absurd (hr k e.symm) (by omega))⟩
theorem OwnS.one {w : World} {g n : Nat} {f : Nat → Value} (h : OwnS w g n 1 (fun i => [f i])) : OwnV w g n f :=
  ⟨h.1, fun i hi => by have := h.cell i hi 0 (f i) rfl; simpa using this, fun i hi => by have := h.free i hi 0 (by omega); simpa using this⟩
theorem owns_V {w : World} {B m : Nat} {t : TypeId} {lv : Value} {f : Nat → Value} (hm : 0 < m) (h : w.ownsRow B t 1 lv m (flat m (fun i => [f i]))) : ∃ g c, lv = .slice (some ⟨g, 0, none⟩) m c ∧ B ≤ g ∧ OwnV w g m f := by
  obtain ⟨A, c, rfl, hq⟩ := owns_ownQ (sz := 1) (el := fun i => [f i]) (fun _ => rfl) h
  obtain ⟨g, rfl, hB, ho⟩ := hq hm
  exact ⟨g, c, rfl, hB, ho.one⟩
/-- Rows of different element types lie apart. -/
theorem owns_apart {w : World} {B B' m m' : Nat} {t t' : TypeId} {v v' : Value} {L L' : List Value} (h : w.ownsRow B t 1 v m L) (h' : w.ownsRow B' t' 1 v' m' L') (hne : t ≠ t') : v.ownBlock = none ∨ v.ownBlock ≠ v'.ownBlock := by
  rcases h.2 with ⟨rfl, _⟩ | ⟨g, cap, cur, rfl, _, hg, _⟩
  · exact .inl rfl
  · right
    rcases h'.2 with ⟨rfl, _⟩ | ⟨g', cap', cur', rfl, _, hg', _⟩
    · simp [Value.ownBlock]
    · simp only [Value.ownBlock]
      intro e
      simp at e
      subst e
      rw [hg] at hg'
      simp at hg'
      exact hne hg'.2
/-- The block of a row has its cells up to the row's capacity. -/
def RoomV (t : TypeId) (w : World) (g n c : Nat) : Prop := ∃ cur : Array Value, Bk w g t cur ∧ cur.size = c ∧ n ≤ c ∧ c ≤ maxLen
section
variable {t : TypeId} {w w' : World} {g n c : Nat}
theorem RoomV.set (h : RoomV t w g n c) (b i : Nat) (u : Value) : RoomV t (w.setCell ⟨b, i, none⟩ u) g n c := by
  obtain ⟨cur, h1, h2, h3, h4⟩ := h
  by_cases e : g = b
  · subst e
    exact ⟨_, h1.put i u, by simpa using h2, h3, h4⟩
  · exact ⟨_, h1.off (by simpa using e) u, h2, h3, h4⟩
theorem RoomV.same (h : RoomV t w g n c) (e : w'.heap[g]? = w.heap[g]?) : RoomV t w' g n c := by
  obtain ⟨cur, h1, h2⟩ := h
  exact ⟨cur, e.trans h1, h2⟩
theorem RoomV.lt (h : RoomV t w g n c) : g < w.heap.size := by
  obtain ⟨cur, h1, h2⟩ := h
  exact h1.lt
theorem RoomV.drew (h : RoomV t w g n c) : RoomV t w.drew g n c := h
theorem RoomV.drewN (h : RoomV t w g n c) (a : Nat) : RoomV t (w.drewN a) g n c := h
theorem RoomV.kept {p : Nat → Prop} (h : RoomV t w g n c) (hk : Kept p w w') (hp : ¬ p g) : RoomV t w' g n c := h.same (hk.block g h.lt hp)
theorem RoomV.below {B : Nat} (h : RoomV t w g n c) (hb : Below B w w') (hg : g < B) : RoomV t w' g n c := h.same (hb.block g hg)
end
theorem owns_room {w : World} {B m m' g o c : Nat} {t : TypeId} {L : List Value} (h : w.ownsRow B t 1 (.slice (some ⟨g, o, none⟩) m c) m' L) : RoomV t w g m c := by
  rcases h.2 with ⟨h1, _⟩ | ⟨g', cap, cur, h1, _, hg, h3, h4, h5, _⟩
  · cases h1
  · simp only [Value.slice.injEq, Option.some.injEq, Addr.mk.injEq] at h1
    obtain ⟨⟨rfl, rfl, _⟩, rfl, rfl⟩ := h1
    exact ⟨cur, hg, by omega, h3, h4⟩
/-- A row of values at the head of its block, with its room. -/
structure RowL (t : TypeId) (w : World) (g n c : Nat) (f : Nat → Value) : Prop where
  lt : g < w.heap.size
  own : OwnV w g n f
  room : RoomV t w g n c
section
variable {t : TypeId} {w w' : World} {g n c : Nat} {f : Nat → Value}
theorem RowL.of (h : OwnV w g n f) (hr : RoomV t w g n c) : RowL t w g n c f := ⟨h.1, h, hr⟩
theorem RowL.kept {p : Nat → Prop} (h : RowL t w g n c f) (hk : Kept p w w') (hp : ¬ p g) : RowL t w' g n c f := .of (h.own.kept hk hp) (h.room.kept hk hp)
theorem RowL.below {B : Nat} (h : RowL t w g n c f) (hb : Below B w w') (hg : g < B) : RowL t w' g n c f := .of (h.own.same (hb.block g hg) hb.size) (h.room.below hb hg)
theorem RowL.congr {f' : Nat → Value} (h : RowL t w g n c f) (e : ∀ i, i < n → f i = f' i) : RowL t w g n c f' := .of (h.own.congr e) h.room
end
/-- A row that can be appended to. -/
theorem RoomV.owns {t : TypeId} {w : World} {g n c B : Nat} {f : Nat → Value} (h : RoomV t w g n c) (ho : OwnV w g n f) (hB : B ≤ g) : w.ownsRow B t 1 (.slice (some ⟨g, 0, none⟩) n c) n (flat n (fun i => [f i])) := by
  obtain ⟨cur, h1, h2, h3, h4⟩ := h
  have hfl : (flat n (fun i => [f i])).length = n := by rw [flat_length n 1 _ (fun _ => rfl)]; omega
  refine ⟨by omega, .inr ⟨g, c, cur, rfl, hB, h1, h3, h4, by omega, ?_⟩⟩
  apply List.ext_getElem?
  intro i
  by_cases hi : i < n
  · have e1 := ho.2.1 i hi
    rw [h1.cell i] at e1
    have e2 := flat_get n 1 (fun i => [f i]) (fun _ => rfl) i 0 hi (by omega)
    simp only [Nat.mul_one, Nat.add_zero, List.getElem?_cons_zero] at e2
    rw [e2, Nat.mul_one, List.getElem?_take_of_lt (by omega)]
    simpa using e1
  · rw [List.getElem?_eq_none (by simp; omega), List.getElem?_eq_none (by omega)]
/-- What spec's BandDo returns, with the room of its first row. -/
def DoPostR (t : TypeId) (ok : Bool) (q : Int) (n : Nat) (r : BSt × Int) (w : World) (e : Ending) (w' : World) : Prop :=
  DoPost ok q n r w e w' ∧ (∀ a b s g o c d k, e = .returned (.tuple #[.agg #[a, b, s, .slice (some ⟨g, o, none⟩) n c, d], k]) → RoomV t w' g n c)
theorem DoPostR.no {t : TypeId} {q : Int} {n : Nat} {r : BSt × Int} {w w' : World} (hb : Below w.heap.size w w') :
    DoPostR t false q n r w (.returned (.tuple #[.agg #[.int .i64 0, .int .i64 0, .int .i64 0, .slice none 0 0, .slice none 0 0], .int .i64 1])) w' :=
  ⟨DoPost.no hb, fun a b s g o c d k e => by simp at e⟩
theorem DoPostR.yes {t : TypeId} {q : Int} {n : Nat} {r : BSt × Int} {w w' : World} {gl gd cl cd : Nat} {b' : BSt} (hr : RoomV t w' gl n cl) (hp : b'.p = r.1.p) (hs : b'.s = r.1.s) (hf : ∀ i, i < n → b'.f i = r.1.f i) (hd' : ∀ i, i < n → b'.d i = r.1.d i) (hl : OwnV w' gl n (fun i => .int .i64 (b'.f i))) (hd : OwnV w' gd n (fun i => .bool (b'.d i)))
    (h1 : w.heap.size ≤ gl) (h2 : w.heap.size ≤ gd) (h3 : gl ≠ gd) (hb : Below w.heap.size w w') :
    DoPostR t true q n r w (.returned (.tuple #[.agg #[.int .i64 q, .int .i64 b'.p, .int .i64 b'.s, .slice (some ⟨gl, 0, none⟩) n cl, .slice (some ⟨gd, 0, none⟩) n cd], .int .i64 r.2])) w' :=
  ⟨DoPost.yes hp hs hf hd' hl hd h1 h2 h3 hb, fun a b s g o c d k e => by
    simp at e
    obtain ⟨⟨_, _, _, ⟨⟨rfl, _⟩, rfl⟩, _⟩, _⟩ := e
    exact hr⟩
theorem infoI : (Try.prog.info? 3).map (fun i => (i.zero, i.size, i.bytes)) = some (some (.int .i64 0), 1, 8) := by kernel_rfl
theorem infoB : (Try.prog.info? 4).map (fun i => (i.zero, i.size, i.bytes)) = some (some (.bool false), 1, 1) := by kernel_rfl
theorem l1Min_any (a b : Int) (w : World) : Calls Try.prog 39 #[.int .i64 a, .int .i64 b] w fun e w' => e = .returned (.int .i64 (min a b)) ∧ w = w' := by
  by_cases h : a < b
  · rw [show min a b = a by omega]
    go_enter Try.func39, Try.ntmps39
    go_wp2
    go_ret
    exact ⟨rfl, rfl⟩
  · rw [show min a b = b by omega]
    go_enter Try.func39, Try.ntmps39
    go_wp2
    go_ret
    exact ⟨rfl, rfl⟩
set_option maxHeartbeats 2000000 in
theorem l5Own_any (q p s : Int) (A A' : Option Addr) (n c c' : Nat) (hn0 : 1 ≤ (n : Int)) (hn : (n : Int) ≤ 4) (f : Nat → Int) (f' : Nat → Bool) (w W : World) (hb : Below W.heap.size W w)
    (hA : Rw W W.heap.size A n fun i => .int .i64 (f i)) (hA' : Rw W W.heap.size A' n fun i => .bool (f' i)) :
    Calls Try.prog 21 #[.agg #[.int .i64 q, .int .i64 p, .int .i64 s, .slice A n c, .slice A' n c']] w fun e w' => ∃ gl gd cl cd, e = .returned (.agg #[.int .i64 q, .int .i64 p, .int .i64 s, .slice (some ⟨gl, 0, none⟩) n cl, .slice (some ⟨gd, 0, none⟩) n cd]) ∧
      w.heap.size ≤ gl ∧ w.heap.size ≤ gd ∧ gl ≠ gd ∧ OwnV w' gl n (fun i => .int .i64 (f i)) ∧ OwnV w' gd n (fun i => .bool (f' i)) ∧ RoomV 3 w' gl n cl ∧ Below w.heap.size w w' := by
  obtain ⟨ga, oa, rfl, hga, hca⟩ := hA.at_ hb (by omega)
  obtain ⟨ga', oa', rfl, hga', hca'⟩ := hA'.at_ hb (by omega)
  have HC := Lib.hid hca
  have HC' := Lib.hid hca'
  obtain ⟨i0, hi, hz0, hz1, hz2⟩ := info_parts infoI
  obtain ⟨j0, hj, hy0, hy1, hy2⟩ := info_parts infoB
  clear hca hca' hA hA'
  go_enter Try.func21, Try.ntmps21
  go_wp2
  go_loopw [4] (fun i wr => ∃ (k : Nat) (lv dv : Value), k ≤ n ∧ i = .int .i64 k ∧ Hid (wr.ownsRow (w.heap.size + 3) 3 1 lv k (flat k (fun i => [.int .i64 (f i)]))) ∧ Hid (wr.ownsRow (w.heap.size + 3) 4 1 dv k (flat k (fun i => [.bool (f' i)]))) ∧
      Hid (Bk wr (w.heap.size + 1 + 1) 29 #[.int .i64 q, .int .i64 p, .int .i64 s, lv, dv]) ∧ Hid (Bk wr (w.heap.size + 1) 29 #[.int .i64 0, .int .i64 0, .int .i64 0, .slice none 0 0, .slice none 0 0]) ∧ Hid (Bk wr w.heap.size 29 #[.int .i64 q, .int .i64 p, .int .i64 s, .slice (some ⟨ga, oa, none⟩) n c, .slice (some ⟨ga', oa', none⟩) n c']) ∧ Hid (Below w.heap.size w wr) ∧ w.heap.size + 3 ≤ wr.heap.size) (fun i _ => n - (intOf i).toNat)
  case atStart =>
    exact ⟨0, _, _, Nat.zero_le _, rfl, World.ownsRow_nil _ _ _ _, World.ownsRow_nil _ _ _ _, Bk.new' _ (w.heap.size + 1 + 1) _ _ (by simp), (Bk.new' _ (w.heap.size + 1) _ _ (by simp)).alloc _, ((Bk.new w _ _).alloc _).alloc _, (by go_grown : Below w.heap.size w _), by simp⟩
  case round =>
    obtain ⟨k, lv, dv, hk, rfl, HL, HD, HO, HR, HX, HB, hzr⟩ := hrel
    obtain ⟨x0, x1, x2, x3, x4⟩ := HX.out.five
    by_cases hlt : k < n
    · have d0 := (HB.out.cell (p := ⟨ga, oa + k, none⟩) hga).trans (HC.out k hlt)
      obtain ⟨q0, q1, q2, q3, q4⟩ := HO.out.five
      have q3a : ∀ o, (wr.alloc o).cell? ⟨w.heap.size + 1 + 1, 3, none⟩ = some lv := fun o => (HO.out.alloc o).five.2.2.2.1
      have hb0 : (0 : Int) ≤ (k : Int) := by omega
      have hb1 : (k : Int) < (n : Int) := by omega
      go_wp2
      go_region_law ((refine step_append_lies _ (by rfl) _ _ 22 (by rfl) (w.heap.size + 3) 3 i0 (.int .i64 0) 1 8 Try.underlying22 hi hz0 hz1 hz2 rfl (by decide) lv k (flat k (fun i => [.int .i64 (f i)])) (by rfl) ((HL.out.alloc _).drew) ⟨wr.heap.size, 0, none⟩ 1 1 [.int .i64 (f k)] (by rfl) (by rfl) (World.news_of_block (cs := #[.int .i64 (f k)]) (t := 3) (fr := (0, 0)) (heap_alloc_new wr _)) (by simp [Value.oneCell']) (by omega) (by unfold maxLen; omega) (by omega) (by simp; omega) (wr.heap.size + 1) (by simp) ?_; intro bl cl w1 hown hgrow hat hbl; have hbw : Below (w.heap.size + 3) wr w1 := (((Below.refl _ wr).alloc hzr _).drew).trans (below_grown hgrow (by simp; omega) (fun k hk => (HL.out.lt k hk).1)); have jf := (HO.out.below hbw (by omega)).frees; have j3 := ((HO.out.below hbw (by omega)).five).2.2.2.1; have HOWN := Lib.hid hown; have HBW := Lib.hid hbw; have HGR := Lib.hid hgrow; clear hown hgrow hbw))
      all_goals
        have hown2 : w1.ownsRow (w.heap.size + 3) 3 1 (.slice (some ⟨bl, 0, none⟩) (k + 1) cl) (k + 1) (flat (k + 1) (fun i => [.int .i64 (f i)])) := by rw [flat_succ]; exact HOWN.out
        have hob : w.heap.size + 3 ≤ bl := (hown2.lt bl rfl).1
        have hrow : ∀ (u : Value) (i : Nat), i < w1.heap.size → some i ≠ some (w.heap.size + 1 + 1) → (w1.setCell ⟨w.heap.size + 1 + 1, 3, none⟩ u).heap[i]? = w1.heap[i]? := fun u i _ hne => Below.heap_setCell _ _ _ _ (by simpa using hne)
        have HL2 : Hid ((w1.setCell ⟨w.heap.size + 1 + 1, 3, none⟩ (.slice (some ⟨bl, 0, none⟩) (k + 1) cl)).ownsRow (w.heap.size + 3) 3 1 (.slice (some ⟨bl, 0, none⟩) (k + 1) cl) (k + 1) (flat (k + 1) (fun i => [.int .i64 (f i)]))) :=
          hown2.kept (row := some (w.heap.size + 1 + 1)) ⟨rfl, rfl, rfl, by simp, hrow _⟩ (.inr (by simp [Value.ownBlock]; omega))
        have hd1 : w1.ownsRow (w.heap.size + 3) 4 1 dv k (flat k (fun i => [.bool (f' i)])) := ((HD.out.alloc _).drew).kept HGR.out (owns_apart HD.out HL.out (by decide))
        have HD2 : Hid ((w1.setCell ⟨w.heap.size + 1 + 1, 3, none⟩ (.slice (some ⟨bl, 0, none⟩) (k + 1) cl)).ownsRow (w.heap.size + 3) 4 1 dv k (flat k (fun i => [.bool (f' i)]))) :=
          hd1.kept (row := some (w.heap.size + 1 + 1)) ⟨rfl, rfl, rfl, by simp, hrow _⟩ (by
            cases e : dv.ownBlock with
            | none => exact .inl rfl
            | some x => right; have := (hd1.lt x e).1; simp; omega)
        have HO2 : Hid (Bk (w1.setCell ⟨w.heap.size + 1 + 1, 3, none⟩ (.slice (some ⟨bl, 0, none⟩) (k + 1) cl)) (w.heap.size + 1 + 1) 29 #[.int .i64 q, .int .i64 p, .int .i64 s, .slice (some ⟨bl, 0, none⟩) (k + 1) cl, dv]) := (HO.out.below HBW.out (by omega)).put 3 _
        have HR2 := Lib.hid ((HR.out.below HBW.out (by omega)).off (p := ⟨w.heap.size + 1 + 1, 3, none⟩) (by simp) (.slice (some ⟨bl, 0, none⟩) (k + 1) cl))
        have HX2 := Lib.hid ((HX.out.below HBW.out (by omega)).off (p := ⟨w.heap.size + 1 + 1, 3, none⟩) (by simp; omega) (.slice (some ⟨bl, 0, none⟩) (k + 1) cl))
        have HB2 := Lib.hid ((HB.out.trans (HBW.out.mono (by omega))).setCell (p := ⟨w.heap.size + 1 + 1, 3, none⟩) (by simp; omega) (.slice (some ⟨bl, 0, none⟩) (k + 1) cl))
        have hz1 : w.heap.size + 3 ≤ (w1.setCell ⟨w.heap.size + 1 + 1, 3, none⟩ (.slice (some ⟨bl, 0, none⟩) (k + 1) cl)).heap.size := by have := HBW.out.size; simp; omega
        clear hown2 hrow hd1 HL HD HO HR HX HB q0 q1 q2 q3 q4 x0 x1 x2 x3 x4 d0 q3a HOWN HBW HGR jf j3 hat hbl
        generalize w1.setCell ⟨w.heap.size + 1 + 1, 3, none⟩ (.slice (some ⟨bl, 0, none⟩) (k + 1) cl) = w2 at *
        obtain ⟨x0, x1, x2, x3, x4⟩ := HX2.out.five
        have d1 := (HB2.out.cell (p := ⟨ga', oa' + k, none⟩) hga').trans (HC'.out k hlt)
        obtain ⟨q0, q1, q2, q3, q4⟩ := HO2.out.five
        have q4a : ∀ o, (w2.alloc o).cell? ⟨w.heap.size + 1 + 1, 4, none⟩ = some dv := fun o => (HO2.out.alloc o).five.2.2.2.2
        go_wp2
        go_region_law ((refine step_append_lies _ (by rfl) _ _ 23 (by rfl) (w.heap.size + 3) 4 j0 (.bool false) 1 1 Try.underlying23 hj hy0 hy1 hy2 rfl (by decide) dv k (flat k (fun i => [.bool (f' i)])) (by rfl) ((HD2.out.alloc _).drew) ⟨w2.heap.size, 0, none⟩ 1 1 [.bool (f' k)] (by rfl) (by rfl) (World.news_of_block (cs := #[.bool (f' k)]) (t := 4) (fr := (0, 0)) (heap_alloc_new w2 _)) (by simp [Value.oneCell']) (by omega) (by unfold maxLen; omega) (by omega) (by simp; omega) (w2.heap.size + 1) (by simp) ?_; intro bd cd w3 hown hgrow hat hbl; have hbw : Below (w.heap.size + 3) w2 w3 := (((Below.refl _ w2).alloc hz1 _).drew).trans (below_grown hgrow (by simp; omega) (fun k hk => (HD2.out.lt k hk).1)); have jf := (HO2.out.below hbw (by omega)).frees; have j4 := ((HO2.out.below hbw (by omega)).five).2.2.2.2; have HOWN := Lib.hid hown; have HBW := Lib.hid hbw; have HGR := Lib.hid hgrow; clear hown hgrow hbw))
        all_goals
          have hown2 : w3.ownsRow (w.heap.size + 3) 4 1 (.slice (some ⟨bd, 0, none⟩) (k + 1) cd) (k + 1) (flat (k + 1) (fun i => [.bool (f' i)])) := by rw [flat_succ]; exact HOWN.out
          have hob2 : w.heap.size + 3 ≤ bd := (hown2.lt bd rfl).1
          have hrow : ∀ (u : Value) (i : Nat), i < w3.heap.size → some i ≠ some (w.heap.size + 1 + 1) → (w3.setCell ⟨w.heap.size + 1 + 1, 4, none⟩ u).heap[i]? = w3.heap[i]? := fun u i _ hne => Below.heap_setCell _ _ _ _ (by simpa using hne)
          have HD3 : Hid ((w3.setCell ⟨w.heap.size + 1 + 1, 4, none⟩ (.slice (some ⟨bd, 0, none⟩) (k + 1) cd)).ownsRow (w.heap.size + 3) 4 1 (.slice (some ⟨bd, 0, none⟩) (k + 1) cd) (k + 1) (flat (k + 1) (fun i => [.bool (f' i)]))) :=
            hown2.kept (row := some (w.heap.size + 1 + 1)) ⟨rfl, rfl, rfl, by simp, hrow _⟩ (.inr (by simp [Value.ownBlock]; omega))
          have hl1 : w3.ownsRow (w.heap.size + 3) 3 1 (.slice (some ⟨bl, 0, none⟩) (k + 1) cl) (k + 1) (flat (k + 1) (fun i => [.int .i64 (f i)])) := ((HL2.out.alloc _).drew).kept HGR.out (owns_apart HL2.out HD2.out (by decide))
          have HL3 : Hid ((w3.setCell ⟨w.heap.size + 1 + 1, 4, none⟩ (.slice (some ⟨bd, 0, none⟩) (k + 1) cd)).ownsRow (w.heap.size + 3) 3 1 (.slice (some ⟨bl, 0, none⟩) (k + 1) cl) (k + 1) (flat (k + 1) (fun i => [.int .i64 (f i)]))) :=
            hl1.kept (row := some (w.heap.size + 1 + 1)) ⟨rfl, rfl, rfl, by simp, hrow _⟩ (.inr (by simp [Value.ownBlock]; omega))
          have HO3 : Hid (Bk (w3.setCell ⟨w.heap.size + 1 + 1, 4, none⟩ (.slice (some ⟨bd, 0, none⟩) (k + 1) cd)) (w.heap.size + 1 + 1) 29 #[.int .i64 q, .int .i64 p, .int .i64 s, .slice (some ⟨bl, 0, none⟩) (k + 1) cl, .slice (some ⟨bd, 0, none⟩) (k + 1) cd]) := (HO2.out.below HBW.out (by omega)).put 4 _
          have HR3 := Lib.hid ((HR2.out.below HBW.out (by omega)).off (p := ⟨w.heap.size + 1 + 1, 4, none⟩) (by simp) (.slice (some ⟨bd, 0, none⟩) (k + 1) cd))
          have HX3 := Lib.hid ((HX2.out.below HBW.out (by omega)).off (p := ⟨w.heap.size + 1 + 1, 4, none⟩) (by simp; omega) (.slice (some ⟨bd, 0, none⟩) (k + 1) cd))
          have HB3 := Lib.hid ((HB2.out.trans (HBW.out.mono (by omega))).setCell (p := ⟨w.heap.size + 1 + 1, 4, none⟩) (by simp; omega) (.slice (some ⟨bd, 0, none⟩) (k + 1) cd))
          have hz3 : w.heap.size + 3 ≤ (w3.setCell ⟨w.heap.size + 1 + 1, 4, none⟩ (.slice (some ⟨bd, 0, none⟩) (k + 1) cd)).heap.size := by have := HBW.out.size; simp; omega
          clear hown2 hrow hl1 HL2 HD2 HO2 HR2 HX2 HB2 q0 q1 q2 q3 q4 x0 x1 x2 x3 x4 d1 q4a HOWN HBW HGR jf j4 hat hbl
          go_wp2
          go_roundw
          case rel => exact ⟨k + 1, _, _, by omega, by go_num, HL3, HD3, HO3, HR3, HX3, HB3, hz3⟩
          case measure => simp [intOf]; omega
    · obtain rfl : k = n := by omega
      obtain ⟨gl, cl, rfl, hgl, hvl⟩ := owns_V (by omega) HL.out
      obtain ⟨gd, cd, rfl, hgd, hvd⟩ := owns_V (by omega) HD.out
      have hne : gl ≠ gd := by
        rcases owns_apart HL.out HD.out (by decide) with h | h
        · simp [Value.ownBlock] at h
        · simpa [Value.ownBlock] using h
      have HVL := Lib.hid hvl
      have HVD := Lib.hid hvd
      have HRM := Lib.hid (owns_room HL.out)
      clear hvl hvd HL HD
      go_wp2_with (first
        | refine wpList_load_row rfl 29 _ rfl (w.heap.size + 1 + 1) rfl 29 _ (0, 0) _ HO.out Try.underlying29 rfl (by kernel_rfl) ?_
        | refine wpList_store_row rfl 29 _ _ rfl (w.heap.size + 1) _ rfl rfl 29 _ HR.out (by kernel_rfl) rfl (by kernel_rfl) ?_)
      refine bodyPost_ret (results_cell_row rfl _ _ (w.heap.size + 1) 29 _ (0, 0) _ rfl (setRow_heap _ _ _ _ _ _ HR.out) Try.underlying29 rfl (by kernel_rfl)) rfl ⟨gl, gd, cl, cd, rfl, by omega, by omega, hne, ?_, ?_, ?_, ?_⟩
      · exact HVL.out.same (setRow_other _ _ _ _ (by omega)) (by simp [World.setRow])
      · exact HVD.out.same (setRow_other _ _ _ _ (by omega)) (by simp [World.setRow])
      · exact HRM.out.same (setRow_other _ _ _ _ (by omega))
      · exact below_setRow HB.out (by omega) _
end Go.Proofs.Ytfckhpkebdpkbaa

/-
  Bands: a band in memory of its own; the program's methods on it.
-/
import Derived.Test.YtfckhpkebdpkbaaPlayL1
import Derived.Test.YtfckhpkebdpkbaaPlayL3
import Derived.Test.YtfckhpkebdpkbaaPlayL5
import Derived.StillTailTactics
import Derived.Laws.CopyOwn
namespace Go.Proofs.Ytfckhpkebdpkbaa
open Go.RowKit
/-- What the block holds ahead of the band. -/
class Pre where
  m : Nat → Option Value
variable [Pre]
/-- A band of n processors at place o of block gb, its two rows at the heads of blocks gl and gd. -/
structure BandC (w : World) (gb o : Nat) (q : Int) (n cl cd : Nat) (b : BSt) (gl gd : Nat) : Prop where
  c0 : w.cell? ⟨gb, o, none⟩ = some (.int .i64 q)
  c1 : w.cell? ⟨gb, o + 1, none⟩ = some (.int .i64 b.p)
  c2 : w.cell? ⟨gb, o + 2, none⟩ = some (.int .i64 b.s)
  c3 : w.cell? ⟨gb, o + 3, none⟩ = some (.slice (some ⟨gl, 0, none⟩) n cl)
  c4 : w.cell? ⟨gb, o + 4, none⟩ = some (.slice (some ⟨gd, 0, none⟩) n cd)
  f1 : w.frozen? ⟨gb, o + 1, none⟩ = false
  f2 : w.frozen? ⟨gb, o + 2, none⟩ = false
  fl : OwnV w gl n (fun i => .int .i64 (b.f i))
  fd : OwnV w gd n (fun i => .bool (b.d i))
  n1 : gb ≠ gl
  n2 : gb ≠ gd
  n3 : gl ≠ gd
  pre : ∀ j, j < o → w.cell? ⟨gb, j, none⟩ = Pre.m j ∧ w.frozen? ⟨gb, j, none⟩ = false
omit [Pre] in
theorem OwnV.off {w : World} {g n : Nat} {f : Nat → Value} (h : OwnV w g n f) {p : Addr} (hp : g ≠ p.block) (v : Value) : OwnV (w.setCell p v) g n f := h.same (Below.heap_setCell w p v g hp) (by simp)
omit [Pre] in
theorem cell_off {w : World} {a p : Addr} {v u : Value} (h : w.cell? a = some v) (hp : p ≠ a) : (w.setCell p u).cell? a = some v := (World.cell?_setCell_other _ _ _ _ hp).trans h
section
variable {w : World} {gb o : Nat} {q : Int} {n cl cd : Nat} {b : BSt} {gl gd : Nat}
theorem BandC.setP (h : BandC w gb o q n cl cd b gl gd) (v : Int) : BandC (w.setCell ⟨gb, o + 1, none⟩ (.int .i64 v)) gb o q n cl cd ⟨v, b.s, b.f, b.d⟩ gl gd :=
  ⟨cell_off h.c0 (by simp), World.cell?_setCell_same _ _ _ h.c1, cell_off h.c2 (by simp), cell_off h.c3 (by simp), cell_off h.c4 (by simp), by rw [World.frozen?_setCell]; exact h.f1, by rw [World.frozen?_setCell]; exact h.f2,
    h.fl.off (Ne.symm h.n1) _, h.fd.off (Ne.symm h.n2) _, h.n1, h.n2, h.n3, fun j hj => ⟨(World.cell?_setCell_other _ _ _ _ (by simp <;> omega)).trans (h.pre j hj).1, by rw [World.frozen?_setCell]; exact (h.pre j hj).2⟩⟩
theorem BandC.setS (h : BandC w gb o q n cl cd b gl gd) (v : Int) : BandC (w.setCell ⟨gb, o + 2, none⟩ (.int .i64 v)) gb o q n cl cd ⟨b.p, v, b.f, b.d⟩ gl gd :=
  ⟨cell_off h.c0 (by simp), cell_off h.c1 (by simp), World.cell?_setCell_same _ _ _ h.c2, cell_off h.c3 (by simp), cell_off h.c4 (by simp), by rw [World.frozen?_setCell]; exact h.f1, by rw [World.frozen?_setCell]; exact h.f2,
    h.fl.off (Ne.symm h.n1) _, h.fd.off (Ne.symm h.n2) _, h.n1, h.n2, h.n3, fun j hj => ⟨(World.cell?_setCell_other _ _ _ _ (by simp <;> omega)).trans (h.pre j hj).1, by rw [World.frozen?_setCell]; exact (h.pre j hj).2⟩⟩
theorem BandC.setF (h : BandC w gb o q n cl cd b gl gd) {c : Nat} (hc : c < n) (v : Int) : BandC (w.setCell ⟨gl, c, none⟩ (.int .i64 v)) gb o q n cl cd ⟨b.p, b.s, setAt b.f c v, b.d⟩ gl gd := by
  have h1 := h.n1
  refine ⟨cell_off h.c0 (by simp), cell_off h.c1 (by simp), cell_off h.c2 (by simp), cell_off h.c3 (by simp), cell_off h.c4 (by simp), by rw [World.frozen?_setCell]; exact h.f1, by rw [World.frozen?_setCell]; exact h.f2,
    (h.fl.put hc _).congr (fun i _ => ?_), h.fd.off (Ne.symm h.n3) _, h.n1, h.n2, h.n3, fun j hj => ⟨(World.cell?_setCell_other _ _ _ _ (by simp <;> omega)).trans (h.pre j hj).1, by rw [World.frozen?_setCell]; exact (h.pre j hj).2⟩⟩
  show (if i = c then Value.int .i64 v else .int .i64 (b.f i)) = .int .i64 (setAt b.f c v i)
  unfold setAt
  split <;> rfl
theorem BandC.setD (h : BandC w gb o q n cl cd b gl gd) {c : Nat} (hc : c < n) (v : Bool) : BandC (w.setCell ⟨gd, c, none⟩ (.bool v)) gb o q n cl cd ⟨b.p, b.s, b.f, setAt b.d c v⟩ gl gd := by
  have h1 := h.n2
  refine ⟨cell_off h.c0 (by simp), cell_off h.c1 (by simp), cell_off h.c2 (by simp), cell_off h.c3 (by simp), cell_off h.c4 (by simp), by rw [World.frozen?_setCell]; exact h.f1, by rw [World.frozen?_setCell]; exact h.f2,
    h.fl.off h.n3 _, (h.fd.put hc _).congr (fun i _ => ?_), h.n1, h.n2, h.n3, fun j hj => ⟨(World.cell?_setCell_other _ _ _ _ (by simp <;> omega)).trans (h.pre j hj).1, by rw [World.frozen?_setCell]; exact (h.pre j hj).2⟩⟩
  show (if i = c then Value.bool v else .bool (b.d i)) = .bool (setAt b.d c v i)
  unfold setAt
  split <;> rfl
theorem BandC.same {w' : World} (h : BandC w gb o q n cl cd b gl gd) (h0 : w'.heap[gb]? = w.heap[gb]?) (h1 : w'.heap[gl]? = w.heap[gl]?) (h2 : w'.heap[gd]? = w.heap[gd]?) (hz : w.heap.size ≤ w'.heap.size) : BandC w' gb o q n cl cd b gl gd :=
  ⟨(World.cell?_of_block (a := ⟨gb, _, none⟩) h0).trans h.c0, (World.cell?_of_block (a := ⟨gb, _, none⟩) h0).trans h.c1, (World.cell?_of_block (a := ⟨gb, _, none⟩) h0).trans h.c2, (World.cell?_of_block (a := ⟨gb, _, none⟩) h0).trans h.c3, (World.cell?_of_block (a := ⟨gb, _, none⟩) h0).trans h.c4,
    (World.frozen?_of_block (a := ⟨gb, _, none⟩) h0).trans h.f1, (World.frozen?_of_block (a := ⟨gb, _, none⟩) h0).trans h.f2, h.fl.same h1 hz, h.fd.same h2 hz, h.n1, h.n2, h.n3, fun j hj => ⟨(World.cell?_of_block (a := ⟨gb, _, none⟩) h0).trans (h.pre j hj).1, (World.frozen?_of_block (a := ⟨gb, _, none⟩) h0).trans (h.pre j hj).2⟩⟩
theorem BandC.drew (h : BandC w gb o q n cl cd b gl gd) : BandC w.drew gb o q n cl cd b gl gd := h.same rfl rfl rfl (Nat.le_refl _)
theorem BandC.drewN (h : BandC w gb o q n cl cd b gl gd) (m : Nat) : BandC (w.drewN m) gb o q n cl cd b gl gd := h.same rfl rfl rfl (Nat.le_refl _)
theorem BandC.lt (h : BandC w gb o q n cl cd b gl gd) : gb < w.heap.size := World.block_lt_of_cell? w _ h.c0
theorem BandC.below {w' : World} (h : BandC w gb o q n cl cd b gl gd) (hb : Below w.heap.size w w') : BandC w' gb o q n cl cd b gl gd :=
  h.same (hb.block gb h.lt) (hb.block gl h.fl.1) (hb.block gd h.fd.1) hb.size
theorem BandC.congr {b' : BSt} (h : BandC w gb o q n cl cd b gl gd) (hp : b.p = b'.p) (hs : b.s = b'.s) (hf : ∀ i, i < n → b.f i = b'.f i) (hd : ∀ i, i < n → b.d i = b'.d i) : BandC w gb o q n cl cd b' gl gd :=
  ⟨h.c0, by rw [← hp]; exact h.c1, by rw [← hs]; exact h.c2, h.c3, h.c4, h.f1, h.f2, h.fl.congr (fun i hi => by rw [hf i hi]), h.fd.congr (fun i hi => by rw [hd i hi]), h.n1, h.n2, h.n3, h.pre⟩
end
def own3 (gb gl gd : Nat) (k : Nat) : Prop := k = gb ∨ k = gl ∨ k = gd
omit [Pre] in
theorem own3_b (gb gl gd : Nat) : own3 gb gl gd gb := .inl rfl
omit [Pre] in
theorem own3_l (gb gl gd : Nat) : own3 gb gl gd gl := .inr (.inl rfl)
omit [Pre] in
theorem own3_d (gb gl gd : Nat) : own3 gb gl gd gd := .inr (.inr rfl)
/-- What a method leaves: the band b', and nothing else changed. -/
def BandR (gb o : Nat) (q : Int) (n cl cd : Nat) (gl gd : Nat) (w : World) (b' : BSt) (w' : World) : Prop := BandC w' gb o q n cl cd b' gl gd ∧ Kept (own3 gb gl gd) w w'
theorem BandR.congr {gb o : Nat} {q : Int} {n cl cd gl gd : Nat} {w w' : World} {b b' : BSt} (h : BandR gb o q n cl cd gl gd w b w') (hp : b.p = b'.p) (hs : b.s = b'.s) (hf : ∀ i, i < n → b.f i = b'.f i) (hd : ∀ i, i < n → b.d i = b'.d i) : BandR gb o q n cl cd gl gd w b' w' :=
  ⟨h.1.congr hp hs hf hd, h.2⟩
set_option maxHeartbeats 400000 in
theorem wet_any (gb o : Nat) (q : Int) (n cl cd : Nat) (b : BSt) (gl gd : Nat) (hn : n ≤ 1048576) (w : World) (h : BandC w gb o q n cl cd b gl gd) :
    Calls Try.prog 77 #[.pointer (some ⟨gb, o, none⟩)] w fun e w' => e = .returned (.tuple #[]) ∧ BandR gb o q n cl cd gl gd w ⟨b.p, b.s, b.f, fun _ => false⟩ w' := by
  have H := Lib.hid h
  have c4 := h.c4
  clear h
  go_enter Try.func77, Try.ntmps77
  go_wp2
  clear c4
  go_loopw [8] (fun i wr => ∃ k : Nat, k ≤ n ∧ i = .int .i64 k ∧ Hid (BandC wr gb o q n cl cd ⟨b.p, b.s, b.f, fun i => if i < k then false else b.d i⟩ gl gd) ∧ Hid (Kept (own3 gb gl gd) w wr)) (fun i _ => n - (intOf i).toNat)
  case atStart => exact ⟨0, Nat.zero_le _, rfl, H.out.congr rfl rfl (fun _ _ => rfl) (fun i _ => by simp), Kept.refl _ _⟩
  case round =>
    obtain ⟨k, hk, rfl, HB, HK⟩ := hrel
    by_cases hlt : k < n
    · have c4 := HB.out.c4
      have d0 := HB.out.fd.2.1 k hlt
      have d1 := HB.out.fd.2.2 k hlt
      have HB2 : Hid (BandC (wr.setCell ⟨gd, k, none⟩ (.bool false)) gb o q n cl cd ⟨b.p, b.s, b.f, fun i => if i < k + 1 then false else b.d i⟩ gl gd) := (HB.out.setD hlt false).congr rfl rfl (fun _ _ => rfl) (fun i _ => by
        show setAt (fun i => if i < k then false else b.d i) k false i = if i < k + 1 then false else b.d i
        unfold setAt
        dsimp only
        by_cases e : i = k
        · rw [if_pos e, if_pos (by omega)]
        · rw [if_neg e]
          by_cases e2 : i < k
          · rw [if_pos e2, if_pos (by omega)]
          · rw [if_neg e2, if_neg (by omega)])
      have HK2 : Hid (Kept (own3 gb gl gd) w (wr.setCell ⟨gd, k, none⟩ (.bool false))) := HK.out.setCell (q := ⟨gd, k, none⟩) (own3_d gb gl gd) _
      clear HB HK
      go_wp2
      go_roundw
      case rel => exact ⟨k + 1, by omega, by go_num, HB2, HK2⟩
      case measure => simp [intOf]; omega
    · obtain rfl : k = n := by omega
      go_wp2
      refine bodyPost_end (results_none rfl _ _ _) rfl ?_
      exact ⟨rfl, HB.out.congr rfl rfl (fun _ _ => rfl) (fun i hi => by simp [hi]), HK.out⟩
set_option maxHeartbeats 400000 in
theorem takes_any (gb o : Nat) (q : Int) (n cl cd : Nat) (b : BSt) (gl gd : Nat) (c : Int) (k : Int) (hb : bOk q n b = true) (hc : inR c 0 ((n : Int) - 1) = true) (w : World) (h : BandC w gb o q n cl cd b gl gd) :
    Calls Try.prog 69 #[.pointer (some ⟨gb, o, none⟩), .int .i64 c] w fun e w' => e = .returned (.int .i64 (bandStep q n 1 c k b).2) ∧ BandR gb o q n cl cd gl gd w (bandStep q n 1 c k b).1 w' := by
  unfold bOk at hb
  obtain ⟨a1, a2, a3, a4, _, a5, a6, a7, a8, a9, a10⟩ := bandOk_facts _ _ _ _ _ _ _ hb
  obtain ⟨g1, g2⟩ := inR_iff.1 hc
  obtain ⟨l1, l2, l3⟩ := a9 c.toNat (by omega)
  have c1 := h.c1
  have c3 := h.c3
  have c4 := h.c4
  have f1 := h.f1
  have d0 := h.fl.2.1 c.toNat (by omega)
  have e0 := h.fl.2.2 c.toNat (by omega)
  have d1 := h.fd.2.1 c.toNat (by omega)
  have e1 := h.fd.2.2 c.toNat (by omega)
  have n1 := h.n1
  have n2 := h.n2
  have n3 := h.n3
  have H := Lib.hid h
  clear a9 hb h l3
  by_cases t1 : 0 < b.f c.toNat
  · rw [step_take1 hc t1]
    go_enter Try.func69, Try.ntmps69
    go_wp2
    go_ret
    exact ⟨rfl, H.out, Kept.refl _ _⟩
  by_cases t2 : b.p = 0
  · rw [step_take2 hc t1 t2]
    have HT := Lib.hid t2
    rw [t2] at c1
    clear t2
    go_enter Try.func69, Try.ntmps69
    go_wp2
    go_ret
    exact ⟨rfl, H.out.setD (c := c.toNat) (by omega) true, (Kept.refl _ _).setCell (q := ⟨gd, _, none⟩) (own3_d gb gl gd) _⟩
  · rw [step_take3 hc t1 t2]
    by_cases t4 : 20 ≤ b.p
    · rw [show min 20 b.p = 20 by omega]
      go_enter Try.func69, Try.ntmps69
      go_wp2
      go_ret
      exact ⟨rfl, (H.out.setP _).setF (c := c.toNat) (by omega) _, ((Kept.refl _ _).setCell (q := ⟨gb, _, none⟩) (own3_b gb gl gd) _).setCell (q := ⟨gl, _, none⟩) (own3_l gb gl gd) _⟩
    rw [show min 20 b.p = b.p by omega]
    have t3 : (b.p == 0) = false := by simp; omega
    go_enter Try.func69, Try.ntmps69
    go_wp2
    go_ret
    exact ⟨rfl, (H.out.setP _).setF (c := c.toNat) (by omega) _, ((Kept.refl _ _).setCell (q := ⟨gb, _, none⟩) (own3_b gb gl gd) _).setCell (q := ⟨gl, _, none⟩) (own3_l gb gl gd) _⟩
set_option maxHeartbeats 400000 in
theorem spends_any (gb o : Nat) (q : Int) (n cl cd : Nat) (b : BSt) (gl gd : Nat) (c : Int) (k : Int) (hb : bOk q n b = true) (hc : inR c 0 ((n : Int) - 1) = true) (w : World) (h : BandC w gb o q n cl cd b gl gd) :
    Calls Try.prog 70 #[.pointer (some ⟨gb, o, none⟩), .int .i64 c, .int .i64 k] w fun e w' => e = .returned (.int .i64 (bandStep q n 2 c k b).2) ∧ BandR gb o q n cl cd gl gd w (bandStep q n 2 c k b).1 w' := by
  unfold bOk at hb
  obtain ⟨a1, a2, a3, a4, _, a5, a6, a7, a8, a9, a10⟩ := bandOk_facts _ _ _ _ _ _ _ hb
  obtain ⟨g1, g2⟩ := inR_iff.1 hc
  obtain ⟨l1, l2, l3⟩ := a9 c.toNat (by omega)
  have c2 := h.c2
  have c3 := h.c3
  have f2 := h.f2
  have d0 := h.fl.2.1 c.toNat (by omega)
  have e0 := h.fl.2.2 c.toNat (by omega)
  have n1 := h.n1
  have n2 := h.n2
  have n3 := h.n3
  have H := Lib.hid h
  clear a9 hb h l3
  by_cases t0 : k < 1
  · rw [step_spend1 hc (.inl t0)]
    have t1 : decide (k < 1) = true := by simpa using t0
    go_enter Try.func70, Try.ntmps70
    go_wp2
    go_ret
    exact ⟨rfl, H.out, Kept.refl _ _⟩
  have t0' : decide (k < 1) = false := by simpa using t0
  by_cases t1 : b.f c.toNat < k
  · rw [step_spend1 hc (.inr t1)]
    go_enter Try.func70, Try.ntmps70
    go_wp2
    go_ret
    exact ⟨rfl, H.out, Kept.refl _ _⟩
  · rw [step_spend2 hc (by omega)]
    go_enter Try.func70, Try.ntmps70
    go_wp2
    go_ret
    exact ⟨rfl, ((H.out.setF (c := c.toNat) (by omega) _).setS _), ((Kept.refl _ _).setCell (q := ⟨gl, _, none⟩) (own3_l gb gl gd) _).setCell (q := ⟨gb, _, none⟩) (own3_b gb gl gd) _⟩
set_option maxHeartbeats 400000 in
set_option maxRecDepth 10000 in
theorem returns_any (gb o : Nat) (q : Int) (n cl cd : Nat) (b : BSt) (gl gd : Nat) (c : Int) (k : Int) (hb : bOk q n b = true) (hc : inR c 0 ((n : Int) - 1) = true) (w : World) (h : BandC w gb o q n cl cd b gl gd) :
    Calls Try.prog 71 #[.pointer (some ⟨gb, o, none⟩), .int .i64 c] w fun e w' => e = .returned (.int .i64 (bandStep q n 3 c k b).2) ∧ BandR gb o q n cl cd gl gd w (bandStep q n 3 c k b).1 w' := by
  unfold bOk at hb
  obtain ⟨a1, a2, a3, a4, _, a5, a6, a7, a8, a9, a10⟩ := bandOk_facts _ _ _ _ _ _ _ hb
  obtain ⟨g1, g2⟩ := inR_iff.1 hc
  obtain ⟨l1, l2, l3⟩ := a9 c.toNat (by omega)
  have c1 := h.c1
  have c3 := h.c3
  have f1 := h.f1
  have d0 := h.fl.2.1 c.toNat (by omega)
  have e0 := h.fl.2.2 c.toNat (by omega)
  have n1 := h.n1
  have n2 := h.n2
  have n3 := h.n3
  have hc0 : (0 : Int) ≤ c := g1
  have hc1 : c < (n : Int) := by omega
  have H := Lib.hid h
  clear a9 hb h l3
  rw [step_return hc]
  by_cases tp : 0 < b.p + b.f c.toNat
  · rw [if_pos tp]
    have HQ : Hid (∀ x : World, BandC x gb o q n cl cd ⟨b.p + b.f c.toNat, b.s, setAt b.f c.toNat 0, b.d⟩ gl gd → Calls Try.prog 77 #[.pointer (some ⟨gb, o, none⟩)] x fun e w' => e = .returned (.tuple #[]) ∧ BandR gb o q n cl cd gl gd x ⟨b.p + b.f c.toNat, b.s, setAt b.f c.toNat 0, fun _ => false⟩ w') := fun x hx => wet_any gb o q n cl cd _ gl gd (by omega) x hx
    go_enter Try.func71, Try.ntmps71
    go_wp2
    go_still_tail 14, (by kernel_rfl)
    change wpList _ _ _ _ _ w.drew
    go_wp2_with (go_at_call 77; refine (HQ.out _ ((H.out.drew.setP _).setF (c := c.toNat) (by omega) _)).mono ?_; rintro e w1 ⟨rfl, hr1, hk1⟩; have HR1 := Lib.hid hr1; have HK1 := Lib.hid hk1; clear hr1 hk1)
    go_ret
    exact ⟨rfl, HR1.out, (((Kept.refl _ _).drew.setCell (q := ⟨gb, _, none⟩) (own3_b gb gl gd) _).setCell (q := ⟨gl, _, none⟩) (own3_l gb gl gd) _).trans HK1.out⟩
  · rw [if_neg tp]
    go_enter Try.func71, Try.ntmps71
    go_wp2
    go_still_tail 14, (by kernel_rfl)
    change wpList _ _ _ _ _ w.drew
    go_wp2
    go_ret
    exact ⟨rfl, (H.out.drew.setP _).setF (c := c.toNat) (by omega) _, ((Kept.refl _ _).drew.setCell (q := ⟨gb, _, none⟩) (own3_b gb gl gd) _).setCell (q := ⟨gl, _, none⟩) (own3_l gb gl gd) _⟩
set_option maxHeartbeats 400000 in
theorem refills_any (gb o : Nat) (q : Int) (n cl cd : Nat) (b : BSt) (gl gd : Nat) (hn : n ≤ 1048576) (w : World) (h : BandC w gb o q n cl cd b gl gd) :
    Calls Try.prog 68 #[.pointer (some ⟨gb, o, none⟩)] w fun e w' => e = .returned (.int .i64 0) ∧ BandR gb o q n cl cd gl gd w ⟨q, 0, fun _ => 0, fun _ => false⟩ w' := by
  have H := Lib.hid h
  have c0 := h.c0
  have c1 := h.c1
  have c2 := h.c2
  have c3 := h.c3
  have f1 := h.f1
  have f2 := h.f2
  clear h
  go_enter Try.func68, Try.ntmps68
  go_wp2
  clear c0 c1 c2 c3 f1 f2
  go_loopw [19] (fun i wr => ∃ k : Nat, k ≤ n ∧ i = .int .i64 k ∧ Hid (BandC wr gb o q n cl cd ⟨q, 0, fun i => if i < k then 0 else b.f i, b.d⟩ gl gd) ∧ Hid (Kept (own3 gb gl gd) w wr)) (fun i _ => n - (intOf i).toNat)
  case atStart => exact ⟨0, Nat.zero_le _, rfl, ((H.out.setP q).setS 0).congr rfl rfl (fun i _ => by simp) (fun i _ => rfl), ((Kept.refl _ _).setCell (q := ⟨gb, _, none⟩) (own3_b gb gl gd) _).setCell (q := ⟨gb, _, none⟩) (own3_b gb gl gd) _⟩
  case round =>
    obtain ⟨k, hk, rfl, HB, HK⟩ := hrel
    by_cases hlt : k < n
    · have c3 := HB.out.c3
      have d0 := HB.out.fl.2.1 k hlt
      have d1 := HB.out.fl.2.2 k hlt
      have HB2 : Hid (BandC (wr.setCell ⟨gl, k, none⟩ (.int .i64 0)) gb o q n cl cd ⟨q, 0, fun i => if i < k + 1 then 0 else b.f i, b.d⟩ gl gd) := (HB.out.setF hlt 0).congr rfl rfl (fun i _ => by
        show setAt (fun i => if i < k then 0 else b.f i) k 0 i = if i < k + 1 then 0 else b.f i
        unfold setAt
        dsimp only
        by_cases e : i = k
        · rw [if_pos e, if_pos (by omega)]
        · rw [if_neg e]
          by_cases e2 : i < k
          · rw [if_pos e2, if_pos (by omega)]
          · rw [if_neg e2, if_neg (by omega)]) (fun _ _ => rfl)
      have HK2 : Hid (Kept (own3 gb gl gd) w (wr.setCell ⟨gl, k, none⟩ (.int .i64 0))) := HK.out.setCell (q := ⟨gl, k, none⟩) (own3_l gb gl gd) _
      clear HB HK
      go_wp2
      go_roundw
      case rel => exact ⟨k + 1, by omega, by go_num, HB2, HK2⟩
      case measure => simp [intOf]; omega
    · obtain rfl : k = n := by omega
      have HC : Hid (BandC wr gb o q k cl cd ⟨q, 0, fun _ => 0, b.d⟩ gl gd) := HB.out.congr rfl rfl (fun i hi => by simp [hi]) (fun _ _ => rfl)
      go_wp2_with (go_at_call 77; refine (wet_any gb o q k cl cd _ gl gd hn _ HC.out).mono ?_; rintro e w1 ⟨rfl, hr1, hk1⟩; have HR1 := Lib.hid hr1; have HK1 := Lib.hid hk1; clear hr1 hk1)
      go_ret
      exact ⟨rfl, HR1.out, HK.out.trans HK1.out⟩
end Go.Proofs.Ytfckhpkebdpkbaa

/- Bands: the program's do, copy and BandDo. -/
namespace Go.Proofs.Ytfckhpkebdpkbaa
open Go.RowKit
variable [Pre]
omit [Pre] in
theorem wrap_in {a : Int} (h1 : -9223372036854775808 ≤ a) (h2 : a ≤ 9223372036854775807) : IntKind.i64.wrap a = a := by rw [IntKind.wrap_i64]; omega
omit [Pre] in
theorem quietQ {P : Program} {f : FuncId} {args : Array Value} {w : World} {v : Value} (h : Calls P f args w fun e w' => e = .returned v ∧ w = w') : Calls P f args w fun e w'' => e = .returned v ∧ ∃ m, w'' = w.drewN m :=
  h.mono fun _ _ ⟨h1, h2⟩ => ⟨h1, 0, by rw [← h2]; rfl⟩
set_option maxHeartbeats 1000000 in
theorem do_any (gb o : Nat) (q : Int) (n cl cd : Nat) (b : BSt) (gl gd : Nat) (kind c k : Int) (hb : bOk q n b = true) (w : World) (h : BandC w gb o q n cl cd b gl gd) :
    Calls Try.prog 56 #[.pointer (some ⟨gb, o, none⟩), .agg #[.int .i64 kind, .int .i64 c, .int .i64 k]] w fun e w' => e = .returned (.int .i64 (bandStep q n kind c k b).2) ∧ BandR gb o q n cl cd gl gd w (bandStep q n kind c k b).1 w' := by
  have hb0 := hb
  unfold bOk at hb0
  obtain ⟨a1, a2, a3, a4, _, a5, a6, a7, a8, a9, a10⟩ := bandOk_facts _ _ _ _ _ _ _ hb0
  have H := Lib.hid h
  have HB := Lib.hid hb
  have HA : Hid (∀ ob, BandC (w.alloc ob) gb o q n cl cd b gl gd) := fun ob => h.below ((Below.refl _ w).alloc (Nat.le_refl _) ob)
  have HX : Hid (∀ ob m, BandC ((w.alloc ob).drewN m) gb o q n cl cd b gl gd) := fun ob m => (HA.out ob).drewN m
  have HK : Hid (∀ ob m, Kept (own3 gb gl gd) w ((w.alloc ob).drewN m)) := fun ob m => ((Kept.refl _ w).alloc ob).drewN m
  have c3 := h.c3
  have hlt := h.lt
  clear hb0 hb h a9
  by_cases e4 : kind = 4
  · subst e4
    rw [step_refill]
    go_enter Try.func56, Try.ntmps56
    go_wp2_with (go_at_call 68; refine (refills_any gb o q n cl cd b gl gd (by omega) _ (HA.out _)).mono ?_; rintro e w1 ⟨rfl, hr1, hk1⟩; have HR1 := Lib.hid hr1; have HK1 := Lib.hid hk1; clear hr1 hk1)
    go_ret
    exact ⟨rfl, HR1.out, ((Kept.refl _ w).alloc _).trans HK1.out⟩
  have e4' : (kind == 4) = false := by simp [e4]
  cases ec : inR c 0 ((n : Int) - 1)
  · rw [step_out e4 ec]
    clear e4
    go_enter Try.func56, Try.ntmps56
    go_wp2
    have hw1 : IntKind.i64.wrap ((n : Int) - 1) = (n : Int) - 1 := wrap_in (by omega) (by omega)
    go_quiet ((go_at_call 40; exact quietL (inRange_any _ _ _ _)))
    clear hw1
    go_wp2
    go_ret
    exact ⟨rfl, HX.out _ _, HK.out _ _⟩
  by_cases e1 : kind = 1
  · subst e1
    have HC : Hid (∀ x : World, BandC x gb o q n cl cd b gl gd → Calls Try.prog 69 #[.pointer (some ⟨gb, o, none⟩), .int .i64 c] x fun e w' => e = .returned (.int .i64 (bandStep q n 1 c k b).2) ∧ BandR gb o q n cl cd gl gd x (bandStep q n 1 c k b).1 w') := fun x hx => takes_any gb o q n cl cd b gl gd c k HB.out ec x hx
    generalize bandStep q n 1 c k b = r at *
    clear e4
    go_enter Try.func56, Try.ntmps56
    go_wp2
    have hw1 : IntKind.i64.wrap ((n : Int) - 1) = (n : Int) - 1 := wrap_in (by omega) (by omega)
    go_quiet ((go_at_call 40; exact quietL (inRange_any _ _ _ _)))
    clear hw1
    go_wp2_with (go_at_call 69; refine (HC.out _ (HX.out _ _)).mono ?_; rintro e w1 ⟨rfl, hr1, hk1⟩; have HR1 := Lib.hid hr1; have HK1 := Lib.hid hk1; clear hr1 hk1)
    go_ret
    exact ⟨rfl, HR1.out, (HK.out _ _).trans HK1.out⟩
  have e1' : (kind == 1) = false := by simp [e1]
  by_cases e2 : kind = 2
  · subst e2
    have HC : Hid (∀ x : World, BandC x gb o q n cl cd b gl gd → Calls Try.prog 70 #[.pointer (some ⟨gb, o, none⟩), .int .i64 c, .int .i64 k] x fun e w' => e = .returned (.int .i64 (bandStep q n 2 c k b).2) ∧ BandR gb o q n cl cd gl gd x (bandStep q n 2 c k b).1 w') := fun x hx => spends_any gb o q n cl cd b gl gd c k HB.out ec x hx
    generalize bandStep q n 2 c k b = r at *
    clear e4 e1
    go_enter Try.func56, Try.ntmps56
    go_wp2
    have hw1 : IntKind.i64.wrap ((n : Int) - 1) = (n : Int) - 1 := wrap_in (by omega) (by omega)
    go_quiet ((go_at_call 40; exact quietL (inRange_any _ _ _ _)))
    clear hw1
    go_wp2_with (go_at_call 70; refine (HC.out _ (HX.out _ _)).mono ?_; rintro e w1 ⟨rfl, hr1, hk1⟩; have HR1 := Lib.hid hr1; have HK1 := Lib.hid hk1; clear hr1 hk1)
    go_ret
    exact ⟨rfl, HR1.out, (HK.out _ _).trans HK1.out⟩
  have e2' : (kind == 2) = false := by simp [e2]
  by_cases e3 : kind = 3
  · subst e3
    have HC : Hid (∀ x : World, BandC x gb o q n cl cd b gl gd → Calls Try.prog 71 #[.pointer (some ⟨gb, o, none⟩), .int .i64 c] x fun e w' => e = .returned (.int .i64 (bandStep q n 3 c k b).2) ∧ BandR gb o q n cl cd gl gd x (bandStep q n 3 c k b).1 w') := fun x hx => returns_any gb o q n cl cd b gl gd c k HB.out ec x hx
    generalize bandStep q n 3 c k b = r at *
    clear e4 e1 e2
    go_enter Try.func56, Try.ntmps56
    go_wp2
    have hw1 : IntKind.i64.wrap ((n : Int) - 1) = (n : Int) - 1 := wrap_in (by omega) (by omega)
    go_quiet ((go_at_call 40; exact quietL (inRange_any _ _ _ _)))
    clear hw1
    go_wp2_with (go_at_call 71; refine (HC.out _ (HX.out _ _)).mono ?_; rintro e w1 ⟨rfl, hr1, hk1⟩; have HR1 := Lib.hid hr1; have HK1 := Lib.hid hk1; clear hr1 hk1)
    go_ret
    exact ⟨rfl, HR1.out, (HK.out _ _).trans HK1.out⟩
  have e3' : (kind == 3) = false := by simp [e3]
  rw [step_else e1 e2 e3 e4]
  clear e1 e2 e3 e4
  go_enter Try.func56, Try.ntmps56
  go_wp2
  have hw1 : IntKind.i64.wrap ((n : Int) - 1) = (n : Int) - 1 := wrap_in (by omega) (by omega)
  go_quiet ((go_at_call 40; exact quietL (inRange_any _ _ _ _)))
  clear hw1
  go_wp2
  go_ret
  exact ⟨rfl, HX.out _ _, HK.out _ _⟩
end Go.Proofs.Ytfckhpkebdpkbaa

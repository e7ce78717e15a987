/-
  BandPlay, in company, from its entry to its return.
-/
import Derived.Test.YtfckhpkebdpkbaaPlayC2
import Derived.Test.YtfckhpkebdpkbaaPlayA2
import Derived.Test.YtfckhpkebdpkbaaPlayL7
namespace Go.Bp
open Go Go.Conc Go.Proofs Go.RowKit Go.Proofs.Ytfckhpkebdpkbaa

theorem KeptH.of {B : Nat} {a b : World} (h : Below B a b) (hB : a.heap.size ≤ B) : KeptH (fun _ => False) a b := ⟨h.os, h.output, h.size, fun k hk _ => h.block k (by omega)⟩
theorem KeptH.re {p : Nat → Prop} {a b : World} (h : KeptH p a b) (T : Nat → Question → Nat) (d : Nat) : KeptH p a (re b T d) := ⟨h.os, h.output, h.size, h.block⟩
theorem KeptH.re' {p : Nat → Prop} {a b : World} {T : Nat → Question → Nat} {d : Nat} (h : KeptH p (Go.Bp.re a T d) b) : KeptH p a b := ⟨h.os, h.output, h.size, h.block⟩
theorem KeptH.ofK {p : Nat → Prop} {a b : World} (h : Go.Proofs.Ytfckhpkebdpkbaa.Kept p a b) : KeptH p a b := ⟨h.os, h.output, h.size, h.block⟩
theorem KeptH.no {p : Nat → Prop} {a b : World} (h : KeptH (fun _ => False) a b) : KeptH p a b := h.mono fun _ _ z => z.elim
theorem rwH {a b : World} {n : Nat} {A : Option Addr} {f : Nat → Value} (h : Rw a a.heap.size A n f) (hk : KeptH (fun _ => False) a b) : Rw b b.heap.size A n f := fun hn => by
  obtain ⟨g, o, ha, hg, hc⟩ := h hn
  have := hk.size
  exact ⟨g, o, ha, by omega, fun i hi => hk.cell (fun x => x) (hc i hi)⟩
theorem bkH {p : Nat → Prop} {a b : World} {g : Nat} {t : TypeId} {cs : Array Value} (h : Bk a g t cs) (hk : KeptH p a b) (hp : ¬ p g) : Bk b g t cs := (hk.block g h.lt hp).trans h
theorem ownvH {p : Nat → Prop} {a b : World} {g n : Nat} {f : Nat → Value} (h : OwnV a g n f) (hk : KeptH p a b) (hp : ¬ p g) : OwnV b g n f := h.same (hk.block g h.1 hp) hk.size
theorem run_re {P : Program} {α : Type} {s : Sem α} {v : α} {u : World} {T : Nat → Question → Nat} {d : Nat} (h : s.run P (re u T d) = .ok v (re u T d)) : s.run P (re u T d) = .ok v (re u T d) := h

section
variable {q p s : Int} {A A' : Option Addr} {n m c c' k co O : Nat} {f : Nat → Int} {f' : Nat → Bool} {o1 o2 o3 : Nat → Int}
set_option maxHeartbeats 4000000 in
set_option maxRecDepth 100000 in
theorem play_to (hmx : Try.prog.follows .mixedOrders = true) {X0 : Nat → Prop} {u : World} (hX : ∀ j, X0 j → j < u.heap.size) (hn : n ≤ 1048576) (hm : m ≤ 1048576) (hk : k ≤ 1048576)
    (hA : Rw u u.heap.size A n fun i => .int .i64 (f i)) (hA' : Rw u u.heap.size A' m fun i => .bool (f' i))
    (hO : ∀ i, i < k → u.cell? ⟨O, i * 3, none⟩ = some (.int .i64 (o1 i)) ∧ u.cell? ⟨O, i * 3 + 1, none⟩ = some (.int .i64 (o2 i)) ∧ u.cell? ⟨O, i * 3 + 2, none⟩ = some (.int .i64 (o3 i)))
    (c0 : Frame) (cs : List Frame) :
    To Try.prog (Fq Try.prog X0 u (G (Frame.enter Try.prog 9 #[.agg #[.int .i64 q, .int .i64 p, .int .i64 s, .slice A n c, .slice A' m c'], .slice (some ⟨O, 0, none⟩) k co] .normal) (c0 :: cs)))
      (fun mm t => ∃ (X' : Nat → Prop) (u' : World) (v : Value), (∀ j, X' j → j < u'.heap.size) ∧ (∀ j, X' j → X0 j ∨ u.heap.size ≤ j) ∧ KeptH (fun _ => False) u u' ∧
        PlayR (playOk q p s n m k f f') u.heap.size q n k (stAt q n o1 o2 o3 ⟨p, s, f, f'⟩ k) (codeAt q n o1 o2 o3 ⟨p, s, f, f'⟩) v u' ∧ Fq Try.prog X' u' (G (c0.finish v) cs) mm t) := by
  have hb : (bN 9).kind ≠ .early := by simp [bN]
  have e9 : Frame.enter Try.prog 9 #[.agg #[.int .i64 q, .int .i64 p, .int .i64 s, .slice A n c, .slice A' m c'], .slice (some ⟨O, 0, none⟩) k co] .normal = (bN 9).at ⟨#[.agg #[.int .i64 q, .int .i64 p, .int .i64 s, .slice A n c, .slice A' m c'], .slice (some ⟨O, 0, none⟩) k co, undef, undef, undef, undef, undef, undef, undef, undef, undef, undef, undef, undef, undef, undef, undef, undef, undef, undef, undef, undef, undef, undef, undef, undef, undef, undef, undef, undef, undef, undef, undef, undef, undef, undef, undef, undef, undef, undef, undef, undef, undef], []⟩ [.code body9] := by
    simp [Frame.enter, Frame.at, Try.func9, bN, body9, Try.f9]
  rw [e9, body9_eq]
  refine seq_to.trans ?_
  refine (code_at (b := bN 9) (u2 := (u.alloc (.cells #[.int .i64 q, .int .i64 p, .int .i64 s, .slice A n c, .slice A' m c'] 29)).alloc (.cells #[.int .i64 0, .int .i64 0, .int .i64 0, .slice none 0 0, .slice none 0 0] 29)) (A := #[.agg #[.int .i64 q, .int .i64 p, .int .i64 s, .slice A n c, .slice A' m c'], .slice (some ⟨O, 0, none⟩) k co, .pointer (some ⟨u.heap.size, 0, none⟩), undef, .pointer (some ⟨u.heap.size + 1, 0, none⟩), .slice none 0 0, undef, undef, undef, undef, undef, undef, undef, undef, undef, undef, undef, undef, undef, undef, undef, undef, undef, undef, undef, undef, undef, undef, undef, undef, undef, undef, undef, undef, undef, undef, undef, undef, undef, undef, undef, undef, undef]) plain_closed hb (plain_code (by kernel_rfl)) (fun T d => wp_mono (r9_0_wp (q := q) (p := p) (s := s) (A := A) (A' := A') (O := some ⟨O, 0, none⟩) (n := n) (m := m) (c := c) (c' := c') (k := k) (co := co) (re u T d)) fun e a w h => h) [] _ (c0 :: cs)).trans ?_
  refine seq_to.trans (seq_to.trans ?_)
  have k1 : KeptH (fun _ => False) u ((u.alloc (.cells #[.int .i64 q, .int .i64 p, .int .i64 s, .slice A n c, .slice A' m c'] 29)).alloc (.cells #[.int .i64 0, .int .i64 0, .int .i64 0, .slice none 0 0, .slice none 0 0] 29)) := ((KeptH.refl _ u).alloc _).alloc _
  have kB : Bk ((u.alloc (.cells #[.int .i64 q, .int .i64 p, .int .i64 s, .slice A n c, .slice A' m c'] 29)).alloc (.cells #[.int .i64 0, .int .i64 0, .int .i64 0, .slice none 0 0, .slice none 0 0] 29)) u.heap.size 29 #[.int .i64 q, .int .i64 p, .int .i64 s, .slice A n c, .slice A' m c'] := (Bk.new u 29 _).alloc _
  have kR : Bk ((u.alloc (.cells #[.int .i64 q, .int .i64 p, .int .i64 s, .slice A n c, .slice A' m c'] 29)).alloc (.cells #[.int .i64 0, .int .i64 0, .int .i64 0, .slice none 0 0, .slice none 0 0] 29)) (u.heap.size + 1) 29 #[.int .i64 0, .int .i64 0, .int .i64 0, .slice none 0 0, .slice none 0 0] := Bk.new' (u.alloc _) _ 29 _ (by simp)
  generalize ((u.alloc (.cells #[.int .i64 q, .int .i64 p, .int .i64 s, .slice A n c, .slice A' m c'] 29)).alloc (.cells #[.int .i64 0, .int .i64 0, .int .i64 0, .slice none 0 0, .slice none 0 0] 29)) = u1 at k1 kB kR
  refine (code_to (Q := fun a w => (∃ (v11 v12 v13 v14 v15 v16 v17 : Value) (x : Bool), x = (!(bandOk q p s n m f f' && decide (k ≤ 2000))) ∧ a = ⟨#[.agg #[.int .i64 q, .int .i64 p, .int .i64 s, .slice A n c, .slice A' m c'], .slice (some ⟨O, 0, none⟩) k co, .pointer (some ⟨u.heap.size, 0, none⟩), undef, .pointer (some ⟨u.heap.size + 1, 0, none⟩), .slice none 0 0, undef, undef, undef, undef, undef, v11, v12, v13, v14, v15, v16, v17, .bool x, undef, undef, undef, undef, undef, undef, undef, undef, undef, undef, undef, undef, undef, undef, undef, undef, undef, undef, undef, undef, undef, undef, undef, undef], []⟩) ∧ KeptH (fun _ => False) u1 w) (fun a w T d h => ⟨h.1, h.2.re T d⟩) plain_closed hb (plain_code (by kernel_rfl)) (fun T d =>
    r9_1_wp (f := f) (f' := f') (O := some ⟨O, 0, none⟩) (re u1 T d) hn hm (rwH hA (k1.re T d)) (rwH hA' (k1.re T d)) kB (fun v11 v12 v13 v14 v15 v16 v17 x w' hx hw => ⟨rfl, ⟨v11, v12, v13, v14, v15, v16, v17, x, hx, rfl⟩, (KeptH.of hw (Nat.le_refl _)).re'⟩)) [] _ (c0 :: cs)).trans ?_
  rintro mm t ⟨tt, u2, hq, ⟨v11, v12, v13, v14, v15, v16, v17, x, hx, ht⟩, k2⟩
  simp only [Act.mk.injEq, and_true] at ht
  subst ht
  revert hq
  revert t
  revert mm
  show To Try.prog _ _
  refine (cond_to (t := x) rfl).trans ?_
  have kB2 := bkH kB k2 (fun z => z)
  have kR2 := bkH kR k2 (fun z => z)
  have k02 := k1.trans k2
  cases x with
  | true =>
    have hno : playOk q p s n m k f f' = false := by
      unfold playOk
      revert hx
      cases (bandOk q p s n m f f' && decide (k ≤ 2000)) <;> simp
    rw [hno]
    refine seq_to.trans ?_
    refine (code_to (Q := fun a w => (∃ v19, a = ⟨#[.agg #[.int .i64 q, .int .i64 p, .int .i64 s, .slice A n c, .slice A' m c'], .slice (some ⟨O, 0, none⟩) k co, .pointer (some ⟨u.heap.size, 0, none⟩), undef, .pointer (some ⟨u.heap.size + 1, 0, none⟩), .slice none 0 0, undef, undef, undef, undef, undef, v11, v12, v13, v14, v15, v16, v17, .bool true, v19, undef, undef, undef, undef, undef, undef, undef, undef, undef, undef, undef, undef, undef, undef, undef, undef, undef, undef, undef, undef, undef, undef, undef], []⟩) ∧ Bk w (u.heap.size + 1) 29 #[.int .i64 0, .int .i64 0, .int .i64 0, .slice none 0 0, .slice none 0 0] ∧ KeptH (fun j => j = u.heap.size + 1) u2 w) (fun a w T d h => ⟨h.1, h.2.1, h.2.2.re T d⟩) plain_closed hb (plain_code (by kernel_rfl)) (fun T d =>
      r9_2_wp (re u2 T d) kR2 (fun v19 => ⟨rfl, ⟨v19, rfl⟩, setRow_heap _ _ _ _ _ _ kR2, ⟨rfl, rfl, by simp [World.setRow, re], fun j hj hp => setRow_other _ _ _ _ (fun e => hp e)⟩⟩)) [] _ (c0 :: cs)).trans ?_
    rintro mm t ⟨tt, u3, hq, ⟨v19, ht⟩, kR3, k3⟩
    simp only [Act.mk.injEq, and_true] at ht
    subst ht
    obtain ⟨z0, z1, z2, z3, z4⟩ := kR3.five
    have hret : ∀ (l : List Item), To Try.prog (Fq Try.prog X0 u3 (G { (bN 9).at ⟨#[.agg #[.int .i64 q, .int .i64 p, .int .i64 s, .slice A n c, .slice A' m c'], .slice (some ⟨O, 0, none⟩) k co, .pointer (some ⟨u.heap.size, 0, none⟩), undef, .pointer (some ⟨u.heap.size + 1, 0, none⟩), .slice none 0 0, undef, undef, undef, undef, undef, v11, v12, v13, v14, v15, v16, v17, .bool true, v19, undef, undef, undef, undef, undef, undef, undef, undef, undef, undef, undef, undef, undef, undef, undef, undef, undef, undef, undef, undef, undef, undef, undef], []⟩ l with mode := .returning } (c0 :: cs))) (Fq Try.prog X0 u3 (G (c0.finish (.tuple #[.agg #[.int .i64 0, .int .i64 0, .int .i64 0, .slice none 0 0, .slice none 0 0], .slice none 0 0])) cs)) := fun l => leave_up Try.func9 (by simp [results, Try.results9, go_sem, z0, z1, z2, z3, z4])
    obtain ⟨N1, m1, t1, q1, hq1⟩ := (stay_to (P := Try.prog) (X := X0) (u := u3) rfl (fun _ => stepG_ret')).trans (hret _) mm t hq
    have k03 : KeptH (fun _ => False) u u3 := ⟨k3.os.trans k02.os, k3.output.trans k02.output, Nat.le_trans k02.size k3.size, fun j hj hp => (k3.block j (Nat.lt_of_lt_of_le hj k02.size) (by omega)).trans (k02.block j hj hp)⟩
    exact ⟨N1, m1, t1, q1, X0, u3, _, fun j hj => Nat.lt_of_lt_of_le (hX j hj) k03.size, fun j hj => .inl hj, k03, PlayR.no, hq1⟩
  | false =>
    have hyes : bandOk q p s n m f f' = true ∧ k ≤ 2000 := by
      revert hx
      cases hbo : bandOk q p s n m f f' <;> by_cases hk2 : k ≤ 2000 <;> simp [hk2]
    have hok : playOk q p s n m k f f' = true := by simp [playOk, hyes.1, hyes.2]
    rw [hok]
    refine (stay_to rfl fun _ => stepG_skip).trans (seq_to.trans ?_)
    obtain ⟨a1, a2, a3, a4, hmn, a5, a6, a7, a8, a9, a10⟩ := bandOk_facts _ _ _ _ _ _ _ hyes.1
    obtain rfl : n = m := hmn.symm
    have hbok : bOk q n ⟨p, s, f, f'⟩ = true := hyes.1
    refine (code_to (Q := fun a w => ∃ (v20 v21 v22 v23 : Value) (gl gd : Nat) (w1 : World) (T : Nat → Question → Nat) (d : Nat), a = ⟨#[.agg #[.int .i64 q, .int .i64 p, .int .i64 s, .slice A n c, .slice A' n c'], .slice (some ⟨O, 0, none⟩) k co, .pointer (some ⟨u.heap.size, 0, none⟩), undef, .pointer (some ⟨u.heap.size + 1, 0, none⟩), .slice none 0 0, .pointer (some ⟨w1.heap.size + 1, 0, none⟩), undef, undef, undef, undef, v11, v12, v13, v14, v15, v16, v17, .bool false, undef, v20, v21, v22, v23, undef, undef, undef, undef, undef, undef, undef, undef, undef, undef, undef, undef, undef, undef, undef, undef, undef, undef, undef], []⟩ ∧ u2.heap.size ≤ gl ∧ gl < gd ∧ OwnV w1 gl n (fun i => .int .i64 (f i)) ∧ OwnV w1 gd n (fun i => .bool (f' i)) ∧ KeptH (fun _ => False) u2 w1 ∧
        w = re ((w1.alloc (.cells #[.int .i32 0, .int .u32 0, .int .i64 q, .int .i64 p, .int .i64 s, .slice (some ⟨gl, 0, none⟩) n n, .slice (some ⟨gd, 0, none⟩) n n] 62)).alloc (.cells #[.pointer (some ⟨w1.heap.size, 0, none⟩)] 53)) T d)
      (fun a w T d ⟨v20, v21, v22, v23, gl, gd, w1, _, _, h1, h2, h3, h4, h5, h6, h7⟩ => ⟨v20, v21, v22, v23, gl, gd, w1, T, d, h1, h2, h3, h4, h5, h6, by rw [h7]; rfl⟩) plain_closed hb (plain_code (by kernel_rfl)) (fun T d =>
      r9_3_wp (O := some ⟨O, 0, none⟩) (re u2 T d) hn hn (rwH hA (k02.re T d)) (rwH hA' (k02.re T d)) kB2 (fun v20 v21 v22 v23 gl gd w1 h1 h2 h3 h4 h5 => ⟨rfl, v20, v21, v22, v23, gl, gd, w1, _, _, rfl, h1, h2, h3, h4, (KeptH.of h5 (Nat.le_refl _)).re', rfl⟩)) [] _ (c0 :: cs)).trans ?_
    rintro mm t ⟨tt, _, hq, v20, v21, v22, v23, gl, gd, w1, T, d, ht, hg1, hg2, hl1, hd1, k3, rfl⟩
    simp only [Act.mk.injEq, and_true] at ht
    subst ht
    replace hq := hq.unre
    have kBk := (Bk.new w1 62 #[.int .i32 0, .int .u32 0, .int .i64 q, .int .i64 p, .int .i64 s, .slice (some ⟨gl, 0, none⟩) n n, .slice (some ⟨gd, 0, none⟩) n n]).alloc (.cells #[.pointer (some ⟨w1.heap.size, 0, none⟩)] 53)
    have kS := Bk.new' (w1.alloc (.cells #[.int .i32 0, .int .u32 0, .int .i64 q, .int .i64 p, .int .i64 s, .slice (some ⟨gl, 0, none⟩) n n, .slice (some ⟨gd, 0, none⟩) n n] 62)) (w1.heap.size + 1) 53 #[.pointer (some ⟨w1.heap.size, 0, none⟩)] (by simp)
    have k4 := (k3.alloc (.cells #[.int .i32 0, .int .u32 0, .int .i64 q, .int .i64 p, .int .i64 s, .slice (some ⟨gl, 0, none⟩) n n, .slice (some ⟨gd, 0, none⟩) n n] 62)).alloc (.cells #[.pointer (some ⟨w1.heap.size, 0, none⟩)] 53)
    have k14 := ((KeptH.refl (fun _ => False) w1).alloc (.cells #[.int .i32 0, .int .u32 0, .int .i64 q, .int .i64 p, .int .i64 s, .slice (some ⟨gl, 0, none⟩) n n, .slice (some ⟨gd, 0, none⟩) n n] 62)).alloc (.cells #[.pointer (some ⟨w1.heap.size, 0, none⟩)] 53)
    have hZ : ((w1.alloc (.cells #[.int .i32 0, .int .u32 0, .int .i64 q, .int .i64 p, .int .i64 s, .slice (some ⟨gl, 0, none⟩) n n, .slice (some ⟨gd, 0, none⟩) n n] 62)).alloc (.cells #[.pointer (some ⟨w1.heap.size, 0, none⟩)] 53)).heap.size = w1.heap.size + 2 := by simp [World.size_alloc]
    generalize ((w1.alloc (.cells #[.int .i32 0, .int .u32 0, .int .i64 q, .int .i64 p, .int .i64 s, .slice (some ⟨gl, 0, none⟩) n n, .slice (some ⟨gd, 0, none⟩) n n] 62)).alloc (.cells #[.pointer (some ⟨w1.heap.size, 0, none⟩)] 53)) = u4 at hq kBk kS k4 k14 hZ
    revert hq
    revert t
    revert mm
    show To Try.prog _ _
    refine seq_to.trans ?_
    refine (code_at (b := bN 9) (u2 := (u4.alloc (.cells (madeCells #[.int .i64 0] k) 3)).alloc (.cells #[.slice (some ⟨u4.heap.size, 0, none⟩) k k] 22)) (A := #[.agg #[.int .i64 q, .int .i64 p, .int .i64 s, .slice A n c, .slice A' n c'], .slice (some ⟨O, 0, none⟩) k co, .pointer (some ⟨u.heap.size, 0, none⟩), undef, .pointer (some ⟨u.heap.size + 1, 0, none⟩), .slice none 0 0, .pointer (some ⟨w1.heap.size + 1, 0, none⟩), .pointer (some ⟨u4.heap.size + 1, 0, none⟩), undef, undef, undef, v11, v12, v13, v14, v15, v16, v17, .bool false, undef, v20, v21, v22, v23, .slice (some ⟨O, 0, none⟩) k co, .int .i64 k, .slice (some ⟨u4.heap.size, 0, none⟩) k k, undef, undef, undef, undef, undef, undef, undef, undef, undef, undef, undef, undef, undef, undef, undef, undef]) plain_closed hb (plain_code (by kernel_rfl)) (fun T d => wp_mono (r9_4_wp (k := k) (re u4 T d) hk) fun e a w h => h) [] _ (c0 :: cs)).trans ?_
    have kC := (Bk.made u4 u4.heap.size 3 (.int .i64 0) k rfl).alloc (.cells #[.slice (some ⟨u4.heap.size, 0, none⟩) k k] 22)
    have kV := Bk.new' (u4.alloc (.cells (madeCells #[.int .i64 0] k) 3)) (u4.heap.size + 1) 22 #[.slice (some ⟨u4.heap.size, 0, none⟩) k k] (by simp)
    have k45 := ((KeptH.refl (fun _ => False) u4).alloc (.cells (madeCells #[.int .i64 0] k) 3)).alloc (.cells #[.slice (some ⟨u4.heap.size, 0, none⟩) k k] 22)
    have hZ5 : ((u4.alloc (.cells (madeCells #[.int .i64 0] k) 3)).alloc (.cells #[.slice (some ⟨u4.heap.size, 0, none⟩) k k] 22)).heap.size = u4.heap.size + 2 := by simp [World.size_alloc]
    generalize ((u4.alloc (.cells (madeCells #[.int .i64 0] k) 3)).alloc (.cells #[.slice (some ⟨u4.heap.size, 0, none⟩) k k] 22)) = u5 at kC kV k45 hZ5
    refine seq_to.trans (seq_to.trans ?_)
    refine (code_at (b := bN 9) (u2 := u5) (A := #[.agg #[.int .i64 q, .int .i64 p, .int .i64 s, .slice A n c, .slice A' n c'], .slice (some ⟨O, 0, none⟩) k co, .pointer (some ⟨u.heap.size, 0, none⟩), undef, .pointer (some ⟨u.heap.size + 1, 0, none⟩), .slice none 0 0, .pointer (some ⟨w1.heap.size + 1, 0, none⟩), .pointer (some ⟨u4.heap.size + 1, 0, none⟩), undef, undef, undef, v11, v12, v13, v14, v15, v16, v17, .bool false, undef, v20, v21, v22, v23, .slice (some ⟨O, 0, none⟩) k co, .int .i64 k, .slice (some ⟨u4.heap.size, 0, none⟩) k k, .slice (some ⟨O, 0, none⟩) k co, .int .i64 k, .int .i64 0, undef, undef, undef, undef, undef, undef, undef, undef, undef, undef, undef, undef, undef]) plain_closed hb (plain_code (by kernel_rfl)) (fun T d => wp_mono (r9_5_wp (re u5 T d)) fun e a w h => h) [] _ (c0 :: cs)).trans ?_
    refine block_to.trans (loop_to.trans ?_)
    have s12 := k2.size
    have s01 := k1.size
    have s23 := k3.size
    have k05 := ((k02.trans k4).trans k45)
    have sR := kR.lt
    have q1 := hl1.1
    have q2 := hd1.1
    have hst : L0 X0 u5 (u4.heap.size + 1) (w1.heap.size + 1) O w1.heap.size u4.heap.size gl gd k k o1 o2 o3 := by
      have hX' : ∀ j, u.heap.size ≤ j → ¬ X0 j := fun j hj hx => by have := hX j hx; omega
      have hOlt : 0 < k → O < u.heap.size := fun h => World.block_lt_of_cell? u _ (hO 0 h).1
      refine ⟨hX' _ (by omega), hX' _ (by omega), by omega, by omega, by omega, by omega, kV.cell 0, k45.cell (fun z => z) (kS.cell 0), fun i hi => ⟨k05.cell (fun z => z) (hO i hi).1, k05.cell (fun z => z) (hO i hi).2.1, k05.cell (fun z => z) (hO i hi).2.2⟩, ?_, ?_, fun hk0 => ?_, ?_⟩
      · rintro ((z | z | z) | z) <;> omega
      · rintro ((z | z | z) | z) <;> omega
      · have := hOlt hk0
        rintro ((z | z | z) | z) <;> omega
      · rintro (z | z | z) <;> omega
    have hI : LI X0 u5 w1.heap.size u4.heap.size gl gd n n n k q (.int .u32 0) o1 o2 o3 ⟨p, s, f, f'⟩ 0 X0 u5 := by
      refine ⟨fun j hj => by have := hX j hj; omega, fun j hj => .inl hj, ?_, fun j hj => absurd hj (Nat.not_lt_zero j), fun j hj => ⟨⟨.int .i64 0, by rw [kC.cell j]; simp [hj]⟩, kC.free j⟩, KeptH.refl _ _⟩
      exact bank_new (fun j => rfl) (bkH kBk k45 (fun z => z)) (ownvH hl1 (k14.trans k45) (fun z => z)) (ownvH hd1 (k14.trans k45) (fun z => z)) (by omega) (by omega) (by omega)
    refine (loop_all hmx hb (by omega) hbok hst k 0 (by omega) X0 u5 _ _ _ _ _ _ _ _ _ _ _ hI).trans ?_
    rintro mm t ⟨X', u6, y8, y9, y10, y31, y32, y33, y34, y35, y36, y37, hL, hq⟩
    revert hq
    revert t
    revert mm
    show To Try.prog _ _
    have k56 := hL.kept
    have s56 := k56.size
    have c4 : ∀ x, u.heap.size ≤ x ∨ ¬ own4 w1.heap.size gl gd u4.heap.size x := fun x => by
      by_cases hx : u.heap.size ≤ x
      · exact .inl hx
      · right
        rintro ((z | z | z) | z) <;> omega
    have kR6 : Bk u6 (u.heap.size + 1) 29 #[.int .i64 0, .int .i64 0, .int .i64 0, .slice none 0 0, .slice none 0 0] := by
      refine bkH (bkH (bkH kR2 k4 (fun z => z)) k45 (fun z => z)) k56 ?_
      rintro ((z | z | z) | z) <;> omega
    have b0 := @BandC.c0 (preOf (.int .i32 0) (.int .u32 0)) _ _ _ _ _ _ _ _ _ _ hL.band
    have b1 := @BandC.c1 (preOf (.int .i32 0) (.int .u32 0)) _ _ _ _ _ _ _ _ _ _ hL.band
    have b2 := @BandC.c2 (preOf (.int .i32 0) (.int .u32 0)) _ _ _ _ _ _ _ _ _ _ hL.band
    have b3 := @BandC.c3 (preOf (.int .i32 0) (.int .u32 0)) _ _ _ _ _ _ _ _ _ _ hL.band
    have b4 := @BandC.c4 (preOf (.int .i32 0) (.int .u32 0)) _ _ _ _ _ _ _ _ _ _ hL.band
    have bfl := @BandC.fl (preOf (.int .i32 0) (.int .u32 0)) _ _ _ _ _ _ _ _ _ _ hL.band
    have bfd := @BandC.fd (preOf (.int .i32 0) (.int .u32 0)) _ _ _ _ _ _ _ _ _ _ hL.band
    refine seq_to.trans ?_
    generalize hst' : stAt q n o1 o2 o3 ⟨p, s, f, f'⟩ k = st at hL b1 b2 bfl bfd
    refine (code_to (Q := fun a w => (∃ (a1 b1 c1 d1 e1 : Value), a = ⟨#[.agg #[.int .i64 q, .int .i64 p, .int .i64 s, .slice A n c, .slice A' n c'], .slice (some ⟨O, 0, none⟩) k co, .pointer (some ⟨u.heap.size, 0, none⟩), undef, .pointer (some ⟨u.heap.size + 1, 0, none⟩), .slice (some ⟨u4.heap.size, 0, none⟩) k k, .pointer (some ⟨w1.heap.size + 1, 0, none⟩), .pointer (some ⟨u4.heap.size + 1, 0, none⟩), y8, y9, y10, v11, v12, v13, v14, v15, v16, v17, .bool false, undef, v20, v21, v22, v23, .slice (some ⟨O, 0, none⟩) k co, .int .i64 k, .slice (some ⟨u4.heap.size, 0, none⟩) k k, .slice (some ⟨O, 0, none⟩) k co, .int .i64 k, .int .i64 k, .bool false, y31, y32, y33, y34, y35, y36, y37, a1, b1, c1, d1, e1], []⟩) ∧ Bk w (u.heap.size + 1) 29 #[.int .i64 q, .int .i64 st.p, .int .i64 st.s, .slice (some ⟨gl, 0, none⟩) n n, .slice (some ⟨gd, 0, none⟩) n n] ∧ KeptH (fun j => j = u.heap.size + 1) u6 w) (fun a w T d h => ⟨h.1, h.2.1, h.2.2.re T d⟩) plain_closed hb (plain_code (by kernel_rfl)) (fun T d =>
      wp_mono (r9_13_wp (QN := fun a w => (∃ (a1 b1 c1 d1 e1 : Value), a = ⟨#[.agg #[.int .i64 q, .int .i64 p, .int .i64 s, .slice A n c, .slice A' n c'], .slice (some ⟨O, 0, none⟩) k co, .pointer (some ⟨u.heap.size, 0, none⟩), undef, .pointer (some ⟨u.heap.size + 1, 0, none⟩), .slice (some ⟨u4.heap.size, 0, none⟩) k k, .pointer (some ⟨w1.heap.size + 1, 0, none⟩), .pointer (some ⟨u4.heap.size + 1, 0, none⟩), y8, y9, y10, v11, v12, v13, v14, v15, v16, v17, .bool false, undef, v20, v21, v22, v23, .slice (some ⟨O, 0, none⟩) k co, .int .i64 k, .slice (some ⟨u4.heap.size, 0, none⟩) k k, .slice (some ⟨O, 0, none⟩) k co, .int .i64 k, .int .i64 k, .bool false, y31, y32, y33, y34, y35, y36, y37, a1, b1, c1, d1, e1], []⟩) ∧ Bk w (u.heap.size + 1) 29 #[.int .i64 q, .int .i64 st.p, .int .i64 st.s, .slice (some ⟨gl, 0, none⟩) n n, .slice (some ⟨gd, 0, none⟩) n n] ∧ KeptH (fun j => j = u.heap.size + 1) u6 w)
        (re u6 T d) (u.heap.size + 1) (w1.heap.size + 1) (u4.heap.size + 1) w1.heap.size u4.heap.size k k q st.p st.s gl gd n n n n (by omega) kR6 (k56.cell (by show ¬ own4 _ _ _ _ (w1.heap.size + 1); rintro ((z | z | z) | z) <;> omega) hst.sh) (k56.cell (by show ¬ own4 _ _ _ _ (u4.heap.size + 1); rintro ((z | z | z) | z) <;> omega) hst.codes) b0 b1 b2 b3 b4
        (fun a b c d e w' h1 h2 => ⟨⟨a, b, c, d, e, rfl⟩, h1, (KeptH.ofK h2).re'⟩)) (fun e a w h => by cases e <;> first | exact ⟨rfl, h⟩ | exact h.elim)) [] _ (c0 :: cs)).trans ?_
    rintro mm t ⟨tt, u7, hq, ⟨a, b, c2, d, e, ht⟩, kR7, k67⟩
    simp only [Act.mk.injEq, and_true] at ht
    subst ht
    obtain ⟨z0, z1, z2, z3, z4⟩ := kR7.five
    have hret : ∀ (l : List Item), To Try.prog (Fq Try.prog X' u7 (G { (bN 9).at ⟨#[.agg #[.int .i64 q, .int .i64 p, .int .i64 s, .slice A n c, .slice A' n c'], .slice (some ⟨O, 0, none⟩) k co, .pointer (some ⟨u.heap.size, 0, none⟩), undef, .pointer (some ⟨u.heap.size + 1, 0, none⟩), .slice (some ⟨u4.heap.size, 0, none⟩) k k, .pointer (some ⟨w1.heap.size + 1, 0, none⟩), .pointer (some ⟨u4.heap.size + 1, 0, none⟩), y8, y9, y10, v11, v12, v13, v14, v15, v16, v17, .bool false, undef, v20, v21, v22, v23, .slice (some ⟨O, 0, none⟩) k co, .int .i64 k, .slice (some ⟨u4.heap.size, 0, none⟩) k k, .slice (some ⟨O, 0, none⟩) k co, .int .i64 k, .int .i64 k, .bool false, y31, y32, y33, y34, y35, y36, y37, a, b, c2, d, e], []⟩ l with mode := .returning } (c0 :: cs))) (Fq Try.prog X' u7 (G (c0.finish (.tuple #[.agg #[.int .i64 q, .int .i64 st.p, .int .i64 st.s, .slice (some ⟨gl, 0, none⟩) n n, .slice (some ⟨gd, 0, none⟩) n n], .slice (some ⟨u4.heap.size, 0, none⟩) k k])) cs)) := fun l => leave_up Try.func9 (by simp [results, Try.results9, go_sem, z0, z1, z2, z3, z4])
    obtain ⟨N1, m1, t1, r1, hq1⟩ := (stay_to (P := Try.prog) (X := X') (u := u7) rfl (fun _ => stepG_ret')).trans (hret _) mm t hq
    have s67 := k67.size
    have k07 : KeptH (fun _ => False) u u7 := ⟨k67.os.trans (k56.os.trans k05.os), k67.output.trans (k56.output.trans k05.output), Nat.le_trans k05.size (Nat.le_trans s56 s67), fun j hj _ =>
      (k67.block j (by have := k05.size; omega) (by omega)).trans ((k56.block j (by have := k05.size; omega) ((c4 j).resolve_left (by omega))).trans (k05.block j hj (fun z => z)))⟩
    refine ⟨N1, m1, t1, r1, X', u7, _, fun j hj => Nat.lt_of_lt_of_le (hL.lt j hj) s67, fun j hj => (hL.from_ j hj).imp id (fun z => by omega), k07, PlayR.yes (ownvH bfl k67 (by omega)) (ownvH bfd k67 (by omega)) ⟨by omega, fun i hi => k67.cell (by show ¬ u4.heap.size = _; omega) (hL.done i hi), fun i hi => ?_⟩ (by omega) (by omega) (by omega) (by omega) (by omega) (by omega), hq1⟩
    exact (World.frozen?_of_block (a := ⟨u4.heap.size, i, none⟩) (k67.block u4.heap.size (by omega) (by omega))).trans (hL.there i hi).2
end
end Go.Bp

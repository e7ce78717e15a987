/-
  The bank's method in company, out of (*Band).do's lone contract.
-/
import Derived.Test.YtfckhpkebdpkbaaPlayA5
import Derived.Test.YtfckhpkebdpkbaaPlayL6
import Derived.RegionTactic
import Derived.StillTailTactics
import Derived.Test.YtfckhpkebdpkbaaPlayA2
import Derived.Test.YtfckhpkebdpkbaaPlayL1
namespace Go.Bp
open Go Go.Conc Go.Proofs Go.RowKit

theorem r31_0_wp (B : Nat) (o1 o2 o3 : Int) (w : World) :
    r31_0.wp Try.prog (fun e a w' => e = .normal ∧ a = ⟨#[.pointer (some ⟨B, 0, none⟩), .agg #[.int .i64 o1, .int .i64 o2, .int .i64 o3], undef, .pointer (some ⟨w.heap.size, 0, none⟩), .int .i64 0, undef, undef, undef, undef, undef, undef, undef, undef, undef, undef, undef, undef], []⟩ ∧ w' = w.alloc (.cells #[.int .i64 o1, .int .i64 o2, .int .i64 o3] 48))
      ⟨#[.pointer (some ⟨B, 0, none⟩), .agg #[.int .i64 o1, .int .i64 o2, .int .i64 o3], undef, undef, undef, undef, undef, undef, undef, undef, undef, undef, undef, undef, undef, undef, undef], []⟩ w := by
  have er : r31_0 = .region 0 #[_, _] false := rfl
  rw [er]
  go_wp2

open Go.Proofs.Ytfckhpkebdpkbaa in
set_option maxHeartbeats 1000000 in
theorem r31_3_wp [Pre] (B g : Nat) (o1 o2 o3 q : Int) (n cl cd : Nat) (b : BSt) (gl gd : Nat) (w : World) (hb : bOk q n b = true) (h : BandC w B 2 q n cl cd b gl gd)
    (h0 : w.cell? ⟨g, 0, none⟩ = some (.int .i64 o1)) (h1 : w.cell? ⟨g, 1, none⟩ = some (.int .i64 o2)) (h2 : w.cell? ⟨g, 2, none⟩ = some (.int .i64 o3)) (op : Value) :
    r31_3.wp Try.prog (fun e a w' => match e with | .normal => a.tmps.getD 4 undef = .int .i64 (bandStep q n o1 o2 o3 b).2 ∧ BandR B 2 q n cl cd gl gd w (bandStep q n o1 o2 o3 b).1 w' | _ => False)
      ⟨#[.pointer (some ⟨B, 0, none⟩), op, undef, .pointer (some ⟨g, 0, none⟩), .int .i64 0, .pointer (some ⟨B, 0, none⟩), .pointer (some ⟨B, 0, none⟩), .pointer (some ⟨B, 0, none⟩), .tuple #[], .pointer (some ⟨B, 0, none⟩), .pointer (some ⟨B, 0, none⟩), .pointer (some ⟨B, 0, none⟩), undef, undef, undef, undef, undef], []⟩ w := by
  have er : r31_3 = .region 3 #[_, _, _, _, _, _] true := rfl
  rw [er]
  have H := Lib.hid h
  have HB := Lib.hid hb
  clear h hb
  go_region_with (go_at_call 56; refine (do_any B 2 q n cl cd b gl gd o1 o2 o3 HB.out _ H.out.drew).mono ?_; rintro e w1 ⟨rfl, hr1, hk1⟩; have HR1 := Lib.hid hr1; have HK1 := Lib.hid hk1; clear hr1 hk1)
  all_goals exact ⟨rfl, HR1.out, ((Kept.refl _ _).drew).trans HK1.out⟩
end Go.Bp

/- The bank's method in company, its Mutex free: DoOk. -/
namespace Go.Bp
open Go Go.Conc Go.Proofs Go.RowKit Go.Proofs.Ytfckhpkebdpkbaa

@[reducible] def preOf (v s : Value) : Pre := ⟨fun j => if j = 0 then some v else some s⟩

structure KeptH (p : Nat → Prop) (w w' : World) : Prop where
  os : w'.os = w.os
  output : w'.output = w.output
  size : w.heap.size ≤ w'.heap.size
  block : ∀ k, k < w.heap.size → ¬ p k → w'.heap[k]? = w.heap[k]?

theorem setMu {w : World} {B : Nat} {q : Int} {n cl cd : Nat} {b : BSt} {gl gd : Nat} {v v' s : Value} (h : @BandC (preOf v s) w B 2 q n cl cd b gl gd) : @BandC (preOf v' s) (w.setCell ⟨B, 0, none⟩ v') B 2 q n cl cd b gl gd := by
  letI := preOf v s
  have hp0 := h.pre 0 (by omega)
  have hp1 := h.pre 1 (by omega)
  refine @BandC.mk (preOf v' s) _ _ _ _ _ _ _ _ _ _ (cell_off h.c0 (by simp)) (cell_off h.c1 (by simp)) (cell_off h.c2 (by simp)) (cell_off h.c3 (by simp)) (cell_off h.c4 (by simp)) (by rw [World.frozen?_setCell]; exact h.f1) (by rw [World.frozen?_setCell]; exact h.f2)
    (h.fl.off (Ne.symm h.n1) _) (h.fd.off (Ne.symm h.n2) _) h.n1 h.n2 h.n3 fun j hj => ?_
  rcases (by omega : j = 0 ∨ j = 1) with rfl | rfl
  · exact ⟨World.cell?_setCell_same _ _ _ hp0.1, by rw [World.frozen?_setCell]; exact hp0.2⟩
  · exact ⟨cell_off hp1.1 (by simp), by rw [World.frozen?_setCell]; exact hp1.2⟩

theorem muAt {w : World} {B : Nat} {q : Int} {n cl cd : Nat} {b : BSt} {gl gd : Nat} {v s : Value} (h : @BandC (preOf v s) w B 2 q n cl cd b gl gd) : w.cell? ⟨B, 0, none⟩ = some v ∧ w.frozen? ⟨B, 0, none⟩ = false := by
  letI := preOf v s
  exact h.pre 0 (by omega)

def DoR (u : World) (B : Nat) (q : Int) (n cl cd : Nat) (b : BSt) (gl gd : Nat) (o1 o2 o3 : Int) (s : Value) (v : Value) (u1 : World) : Prop :=
  v = .int .i64 (bandStep q n o1 o2 o3 b).2 ∧ @BandC (preOf (.int .i32 0) s) u1 B 2 q n cl cd (bandStep q n o1 o2 o3 b).1 gl gd ∧ KeptH (own3 B gl gd) u u1

theorem band_re [Pre] {w : World} {gb o : Nat} {q : Int} {n cl cd : Nat} {b : BSt} {gl gd : Nat} (h : BandC w gb o q n cl cd b gl gd) (T : Nat → Question → Nat) (d : Nat) : BandC (re w T d) gb o q n cl cd b gl gd := h.same rfl rfl rfl (Nat.le_refl _)

set_option maxHeartbeats 1000000 in
theorem doOk {X : Nat → Prop} {u : World} {B : Nat} {q : Int} {n cl cd : Nat} {b : BSt} {gl gd : Nat} {o1 o2 o3 : Int} {s : Value} (hB : ¬ X B) (hb : bOk q n b = true) (h : @BandC (preOf (.int .i32 0) s) u B 2 q n cl cd b gl gd) :
    DoOk X u B (.agg #[.int .i64 o1, .int .i64 o2, .int .i64 o3]) (DoR u B q n cl cd b gl gd o1 o2 o3 s) := by
  intro Stop b₀ a₀ ops₀ i₀ rest₀ k₀ cs w hS hk
  have hlt : B < u.heap.size := by letI := preOf (.int .i32 0) s; exact h.lt
  let ob : Obj := .cells #[.int .i64 o1, .int .i64 o2, .int .i64 o3] 48
  have hA : @BandC (preOf (.int .i32 0) s) (u.alloc ob) B 2 q n cl cd b gl gd := by letI := preOf (.int .i32 0) s; exact BandC.below h ((Below.refl _ u).alloc (Nat.le_refl _) ob)
  have hM := setMu (v' := .int .i32 1) hA
  refine do_wd (Q1 := fun a u' => a.tmps.getD 3 undef = .pointer (some ⟨u.heap.size, 0, none⟩) ∧ ∃ T d, u' = re (u.alloc ob) T d)
    (Q3 := fun a u' => a.tmps.getD 4 undef = .int .i64 (bandStep q n o1 o2 o3 b).2 ∧ @BandC (preOf (.int .i32 1) s) u' B 2 q n cl cd (bandStep q n o1 o2 o3 b).1 gl gd ∧ KeptH (own3 B gl gd) u u')
    (fun a w T d ⟨h1, _, _, h2⟩ => ⟨h1, T, d, by rw [h2]; rfl⟩) (fun a w T d ⟨h1, h2, h3⟩ => ⟨h1, @band_re (preOf (.int .i32 1) s) _ _ _ _ _ _ _ _ _ _ h2 T d, h3.os, h3.output, h3.size, h3.block⟩) hB
    (fun T d => wp_mono (r31_0_wp B o1 o2 o3 (re u T d)) fun e a w ⟨h1, h2, h3⟩ => ⟨h1, _, h2, by rw [h2]; rfl, T, d, by rw [h3]; rfl⟩) ?_ ?_ ?_ hS ?_
  · rintro a _ ⟨_, T, d, rfl⟩
    exact (muAt hA : (u.alloc ob).cell? ⟨B, 0, none⟩ = some (.int .i32 0) ∧ (u.alloc ob).frozen? ⟨B, 0, none⟩ = false)
  · rintro p _ ⟨hp, T, d, rfl⟩ T' d'
    have hp' : p = .pointer (some ⟨u.heap.size, 0, none⟩) := hp
    subst hp'
    have hbx : ∀ j v, (#[Value.int .i64 o1, .int .i64 o2, .int .i64 o3] : Array Value)[j]? = some v → (re ((re (u.alloc ob) T d).setCell ⟨B, 0, none⟩ (.int .i32 1)) T' d').cell? ⟨u.heap.size, j, none⟩ = some v := by
      intro j v hv
      show ((u.alloc ob).setCell ⟨B, 0, none⟩ (.int .i32 1)).cell? ⟨u.heap.size, j, none⟩ = some v
      rw [World.cell?_setCell_other _ _ _ _ (by simp <;> omega), World.cell?_alloc_at _ _ _ _ rfl]
      exact hv
    refine wp_mono (@r31_3_wp (preOf (.int .i32 1) s) B u.heap.size o1 o2 o3 q n cl cd b gl gd _ hb (@band_re (preOf (.int .i32 1) s) _ _ _ _ _ _ _ _ _ _ hM T' d') (hbx 0 _ rfl) (hbx 1 _ rfl) (hbx 2 _ rfl) _) fun e a w' hh => ?_
    cases e <;> first | exact hh.elim | skip
    obtain ⟨h1, h2, h3⟩ := hh
    refine ⟨rfl, h1, h2, h3.os, h3.output, Nat.le_trans (by simp [re, World.setCell, World.size_alloc]) h3.size, fun k hk hn => (h3.block k (by simp [re, World.setCell, World.size_alloc]; omega) hn).trans ?_⟩
    show ((u.alloc ob).setCell ⟨B, 0, none⟩ (.int .i32 1)).heap[k]? = u.heap[k]?
    rw [setCell_other (fun e => hn (.inl e.symm)), Below.heap_alloc _ _ _ hk]
  · rintro a u' ⟨_, h2, _⟩
    exact muAt h2
  · rintro a u' w' ⟨h1, h2, h3⟩ hs
    refine hk _ _ w' ⟨h1, setMu h2, h3.os, h3.output, by simpa [World.setCell] using h3.size, fun k hk hn => ?_⟩ hs
    rw [setCell_other (fun e => hn (.inl e.symm))]
    exact h3.block k hk hn
end Go.Bp

/- What the bank's method keeps. -/
namespace Go.Bp
open Go Go.Conc Go.Proofs Go.RowKit Go.Proofs.Ytfckhpkebdpkbaa

theorem KeptH.cell {p : Nat → Prop} {u u1 : World} (h : KeptH p u u1) {a : Addr} {v : Value} (hp : ¬ p a.block) (hc : u.cell? a = some v) : u1.cell? a = some v :=
  (World.cell?_of_block (h.block _ (World.block_lt_of_cell? u _ hc) hp)).trans hc

structure Apart (Cv Av Sv Ov C B gl gd : Nat) : Prop where
  cv : ¬ own3 B gl gd Cv
  av : ¬ own3 B gl gd Av
  sv : ¬ own3 B gl gd Sv
  ov : ¬ own3 B gl gd Ov
  c : ¬ own3 B gl gd C
  c1 : C ≠ Cv
  c2 : C ≠ Av
  c3 : C ≠ Sv
  c4 : C ≠ Ov

theorem Vars.kept {Cv Av Sv Ov B C n c i gl gd : Nat} {o1 o2 o3 : Int} {u u1 : World} (h : Vars Cv Av Sv Ov B C n c i o1 o2 o3 u) (a : Apart Cv Av Sv Ov C B gl gd) (k : KeptH (own3 B gl gd) u u1) : Vars Cv Av Sv Ov B C n c i o1 o2 o3 u1 :=
  ⟨k.cell a.cv h.codes, k.cell a.av h.at_, k.cell a.sv h.sh, k.cell a.ov h.op1, k.cell a.ov h.op2, k.cell a.ov h.op3⟩
theorem Vars.put {Cv Av Sv Ov B C n c i gl gd : Nat} {o1 o2 o3 : Int} {u : World} (h : Vars Cv Av Sv Ov B C n c i o1 o2 o3 u) (a : Apart Cv Av Sv Ov C B gl gd) (j : Nat) (v : Value) : Vars Cv Av Sv Ov B C n c i o1 o2 o3 (u.setCell ⟨C, j, none⟩ v) :=
  ⟨cell_off h.codes (by simp [a.c1]), cell_off h.at_ (by simp [a.c2]), cell_off h.sh (by simp [a.c3]), cell_off h.op1 (by simp [a.c4]), cell_off h.op2 (by simp [a.c4]), cell_off h.op3 (by simp [a.c4])⟩

section
variable {Cv Av Sv Ov B C n c i gl gd m cl cd : Nat} {o1 o2 o3 q : Int} {b : BSt} {s : Value} {u : World}

/-- round_to's hypothesis on R. -/
theorem doR_ok (hV : Vars Cv Av Sv Ov B C n c i o1 o2 o3 u) (a : Apart Cv Av Sv Ov C B gl gd) {y : Value} (hy : u.cell? ⟨C, i, none⟩ = some y) (hz : u.frozen? ⟨C, i, none⟩ = false) :
    ∀ v u1, DoR u B q m cl cd b gl gd o1 o2 o3 s v u1 → Vars Cv Av Sv Ov B C n c i o1 o2 o3 u1 ∧ Vars Cv Av Sv Ov B C n c i o1 o2 o3 (u1.setCell ⟨C, i, none⟩ v) ∧ (∃ x, v = .int .i64 x) ∧ (∃ y, u1.cell? ⟨C, i, none⟩ = some y) ∧ u1.frozen? ⟨C, i, none⟩ = false := by
  rintro v u1 ⟨h1, h2, h3⟩
  have hv := hV.kept a h3
  exact ⟨hv, hv.put a i v, ⟨_, h1⟩, ⟨y, h3.cell a.c hy⟩, (World.frozen?_of_block (a := ⟨C, i, none⟩) (h3.block C (World.block_lt_of_cell? u _ hy) a.c)).trans hz⟩

/-- .. and on the variable 'at'. -/
theorem doR_full (a : Apart Cv Av Sv Ov C B gl gd) (hf : u.heap[Av]? = some (.cells #[.int .i64 i] 3)) :
    ∀ v u1, DoR u B q m cl cd b gl gd o1 o2 o3 s v u1 → (u1.setCell ⟨C, i, none⟩ v).heap[Av]? = some (.cells #[.int .i64 i] 3) := by
  rintro v u1 ⟨h1, h2, h3⟩
  rw [setCell_other a.c2]
  exact (h3.block Av (Array.getElem?_eq_some_iff.1 hf).1 a.av).trans hf
end
end Go.Bp

/- BandPlay's loop: its regions alone. -/
namespace Go.Bp
open Go Go.Conc Go.Proofs Go.RowKit Go.Proofs.Ytfckhpkebdpkbaa
noncomputable def r9_6 : Code := match loop9 with | .seq c _ => c | _ => .skip
noncomputable def r9_7 : Code := match loop9 with | .seq _ (.seq _ (.seq (.block _ (.seq c _)) _)) => c | _ => .skip
noncomputable def r9_8 : Code := match loop9 with | .seq _ (.seq _ (.seq (.block _ (.seq _ (.seq c _))) _)) => c | _ => .skip
noncomputable def r9_12 : Code := match loop9 with | .seq _ (.seq _ (.seq _ c)) => c | _ => .skip
theorem loop9_eq : loop9 = .seq r9_6 (.seq (.cond (.tmp 30) .skip (.exit 0)) (.seq (.block 1 (.seq r9_7 (.seq r9_8 go9))) r9_12)) := by kernel_rfl
section
variable {v0 v1 v2 v3 v4 v5 v6 v7 v8 v9 v10 v11 v12 v13 v14 v15 v16 v17 v18 v19 v20 v21 v22 v23 v24 v25 v26 v27 v28 v29 v30 v31 v32 v33 v34 v35 v36 v37 v38 v39 v40 v41 v42 : Value}
theorem r9_6_wp (i n : Nat) (w : World) : r9_6.wp Try.prog (fun e a w' => e = .normal ∧ a = ⟨#[v0, v1, v2, v3, v4, v5, v6, v7, v8, v9, v10, v11, v12, v13, v14, v15, v16, v17, v18, v19, v20, v21, v22, v23, v24, v25, v26, v27, .int .i64 n, .int .i64 i, .bool (decide ((i : Int) < n)), v31, v32, v33, v34, v35, v36, v37, v38, v39, v40, v41, v42], []⟩ ∧ w' = w)
    ⟨#[v0, v1, v2, v3, v4, v5, v6, v7, v8, v9, v10, v11, v12, v13, v14, v15, v16, v17, v18, v19, v20, v21, v22, v23, v24, v25, v26, v27, .int .i64 n, .int .i64 i, v30, v31, v32, v33, v34, v35, v36, v37, v38, v39, v40, v41, v42], []⟩ w := by
  have er : r9_6 = .region 6 #[_] false := rfl
  rw [er]
  go_wp2
theorem r9_8_wp (w : World) : r9_8.wp Try.prog (fun e a w' => e = .normal ∧ a = ⟨#[v0, v1, v2, v3, v4, v5, v6, v7, v8, v9, .pointer (some ⟨w.heap.size, 0, none⟩), v11, v12, v13, v14, v15, v16, v17, v18, v19, v20, v21, v22, v23, v24, v25, v26, v27, v28, v29, v30, v31, v32, v33, v34, v35, v36, v37, v38, v39, v40, v41, v42], []⟩ ∧ w' = w.alloc (.cells #[.int .u64 0, .int .u32 0] 69))
    ⟨#[v0, v1, v2, v3, v4, v5, v6, v7, v8, v9, v10, v11, v12, v13, v14, v15, v16, v17, v18, v19, v20, v21, v22, v23, v24, v25, v26, v27, v28, v29, v30, v31, v32, v33, v34, v35, v36, v37, v38, v39, v40, v41, v42], []⟩ w := by
  have er : r9_8 = .region 8 #[_] false := rfl
  rw [er]
  go_wp2
theorem r9_12_wp (i : Nat) (hi : i < 9223372036854775807) (w : World) : r9_12.wp Try.prog (fun e a w' => e = .normal ∧ a = ⟨#[v0, v1, v2, v3, v4, v5, v6, v7, v8, v9, v10, v11, v12, v13, v14, v15, v16, v17, v18, v19, v20, v21, v22, v23, v24, v25, v26, v27, v28, .int .i64 (i + 1), v30, v31, v32, v33, v34, v35, v36, .int .i64 (i + 1), v38, v39, v40, v41, v42], []⟩ ∧ w' = w)
    ⟨#[v0, v1, v2, v3, v4, v5, v6, v7, v8, v9, v10, v11, v12, v13, v14, v15, v16, v17, v18, v19, v20, v21, v22, v23, v24, v25, v26, v27, v28, .int .i64 i, v30, v31, v32, v33, v34, v35, v36, v37, v38, v39, v40, v41, v42], []⟩ w := by
  have er : r9_12 = .region 12 #[_, _] false := rfl
  rw [er]
  have hw : IntKind.i64.wrap ((i : Int) + 1) = i + 1 := by rw [IntKind.wrap_i64]; omega
  go_wp2
end
end Go.Bp

/- BandPlay, its seventh region alone. -/
namespace Go.Bp
open Go Go.Conc Go.Proofs Go.RowKit Go.Proofs.Ytfckhpkebdpkbaa
section
variable {v0 v1 v2 v3 v4 v5 v6 v7 v8 v9 v10 v11 v12 v13 v14 v15 v16 v17 v18 v19 v20 v21 v22 v23 v24 v25 v26 v27 v28 v29 v30 v31 v32 v33 v34 v35 v36 v37 v38 v39 v40 v41 v42 : Value}
theorem r9_7_wp (i n c O : Nat) (o1 o2 o3 : Int) (hi : i < n) (w : World) (h0 : w.cell? ⟨O, i * 3, none⟩ = some (.int .i64 o1)) (h1 : w.cell? ⟨O, i * 3 + 1, none⟩ = some (.int .i64 o2)) (h2 : w.cell? ⟨O, i * 3 + 2, none⟩ = some (.int .i64 o3)) :
    r9_7.wp Try.prog (fun e a w' => e = .normal ∧ a = ⟨#[v0, v1, v2, v3, v4, v5, v6, v7, .pointer (some ⟨w.heap.size, 0, none⟩), .pointer (some ⟨w.heap.size + 1, 0, none⟩), v10, v11, v12, v13, v14, v15, v16, v17, v18, v19, v20, v21, v22, v23, v24, v25, v26, .slice (some ⟨O, 0, none⟩) n c, v28, .int .i64 i, v30, .int .i64 i, .pointer (some ⟨O, i * 3, none⟩), .agg #[.int .i64 o1, .int .i64 o2, .int .i64 o3], v34, v35, v36, v37, v38, v39, v40, v41, v42], []⟩ ∧ w' = (w.alloc (.cells #[.int .i64 i] 3)).alloc (.cells #[.int .i64 o1, .int .i64 o2, .int .i64 o3] 48))
    ⟨#[v0, v1, v2, v3, v4, v5, v6, v7, v8, v9, v10, v11, v12, v13, v14, v15, v16, v17, v18, v19, v20, v21, v22, v23, v24, v25, v26, .slice (some ⟨O, 0, none⟩) n c, v28, .int .i64 i, v30, v31, v32, v33, v34, v35, v36, v37, v38, v39, v40, v41, v42], []⟩ w := by
  have er : r9_7 = .region 7 #[_, _, _, _, _, _, _] false := rfl
  rw [er]
  have hlt : (i : Int) < (n : Int) := by omega
  have hl0 : (0 : Int) ≤ (i : Int) := by omega
  go_wp2
end
end Go.Bp

/- A turn of BandPlay's loop, up to Add. -/
namespace Go.Bp
open Go Go.Conc Go.Proofs Go.RowKit Go.Proofs.Ytfckhpkebdpkbaa
section
variable {X : Nat → Prop} {b : Frame} {k : List Item} {cs : List Frame} {D : List Deferred} {v0 v1 v2 v3 v4 v5 v6 v7 v8 v9 v10 v11 v12 v13 v14 v15 v16 v17 v18 v19 v20 v21 v22 v23 v24 v25 v26 v27 v28 v29 v30 v31 v32 v33 v34 v35 v36 v37 v38 v39 v40 v41 v42 : Value} {i n c O : Nat} {o1 o2 o3 : Int} {u : World}

theorem head_to (hb : b.kind ≠ .early) : To Try.prog (Fq Try.prog X u (G (b.at ⟨#[v0, v1, v2, v3, v4, v5, v6, v7, v8, v9, v10, v11, v12, v13, v14, v15, v16, v17, v18, v19, v20, v21, v22, v23, v24, v25, v26, .slice (some ⟨O, 0, none⟩) n c, .int .i64 n, .int .i64 i, v30, v31, v32, v33, v34, v35, v36, v37, v38, v39, v40, v41, v42], D⟩ (.code loop9 :: k)) cs))
    (Fq Try.prog X u (G (b.at ⟨#[v0, v1, v2, v3, v4, v5, v6, v7, v8, v9, v10, v11, v12, v13, v14, v15, v16, v17, v18, v19, v20, v21, v22, v23, v24, v25, v26, .slice (some ⟨O, 0, none⟩) n c, .int .i64 n, .int .i64 i, .bool (decide ((i : Int) < n)), v31, v32, v33, v34, v35, v36, v37, v38, v39, v40, v41, v42], D⟩ (.code (.cond (.tmp 30) .skip (.exit 0)) :: .code (.seq (.block 1 (.seq r9_7 (.seq r9_8 go9))) r9_12) :: k)) cs)) := by
  rw [loop9_eq]
  refine seq_to.trans ?_
  refine (code_at (u2 := u) plain_closed hb (plain_code (by kernel_rfl)) (fun T d => wp_mono (r9_6_wp i n (re u T d)) fun e a w h => h) D _ cs).trans ?_
  exact seq_to

set_option maxHeartbeats 1000000 in
theorem half_to (hb : b.kind ≠ .early) (hi : i < n) (h0 : u.cell? ⟨O, i * 3, none⟩ = some (.int .i64 o1)) (h1 : u.cell? ⟨O, i * 3 + 1, none⟩ = some (.int .i64 o2)) (h2 : u.cell? ⟨O, i * 3 + 2, none⟩ = some (.int .i64 o3)) :
    To Try.prog (Fq Try.prog X u (G (b.at ⟨#[v0, v1, v2, v3, v4, v5, v6, v7, v8, v9, v10, v11, v12, v13, v14, v15, v16, v17, v18, v19, v20, v21, v22, v23, v24, v25, v26, .slice (some ⟨O, 0, none⟩) n c, .int .i64 n, .int .i64 i, v30, v31, v32, v33, v34, v35, v36, v37, v38, v39, v40, v41, v42], D⟩ (.code loop9 :: k)) cs))
      (Fq Try.prog X (((u.alloc (.cells #[.int .i64 i] 3)).alloc (.cells #[.int .i64 o1, .int .i64 o2, .int .i64 o3] 48)).alloc (.cells #[.int .u64 0, .int .u32 0] 69)) (G (b.at ⟨#[v0, v1, v2, v3, v4, v5, v6, v7, .pointer (some ⟨u.heap.size, 0, none⟩), .pointer (some ⟨u.heap.size + 1, 0, none⟩), .pointer (some ⟨u.heap.size + 2, 0, none⟩), v11, v12, v13, v14, v15, v16, v17, v18, v19, v20, v21, v22, v23, v24, v25, v26, .slice (some ⟨O, 0, none⟩) n c, .int .i64 n, .int .i64 i, .bool true, .int .i64 i, .pointer (some ⟨O, i * 3, none⟩), .agg #[.int .i64 o1, .int .i64 o2, .int .i64 o3], v34, v35, v36, v37, v38, v39, v40, v41, v42], D⟩ (.code go9 :: .inBlock 1 :: .code r9_12 :: k)) cs)) := by
  refine (head_to hb).trans ?_
  have hd : decide ((i : Int) < n) = true := by simp; omega
  rw [hd]
  refine (cond_to (t := true) rfl).trans ?_
  refine (stay_to rfl fun _ => stepG_skip).trans ?_
  refine seq_to.trans (block_to.trans (seq_to.trans ?_))
  refine (code_at (u2 := (u.alloc (.cells #[.int .i64 i] 3)).alloc (.cells #[.int .i64 o1, .int .i64 o2, .int .i64 o3] 48)) (A := #[v0, v1, v2, v3, v4, v5, v6, v7, .pointer (some ⟨u.heap.size, 0, none⟩), .pointer (some ⟨u.heap.size + 1, 0, none⟩), v10, v11, v12, v13, v14, v15, v16, v17, v18, v19, v20, v21, v22, v23, v24, v25, v26, .slice (some ⟨O, 0, none⟩) n c, .int .i64 n, .int .i64 i, .bool true, .int .i64 i, .pointer (some ⟨O, i * 3, none⟩), .agg #[.int .i64 o1, .int .i64 o2, .int .i64 o3], v34, v35, v36, v37, v38, v39, v40, v41, v42]) plain_closed hb (plain_code (by kernel_rfl)) (fun T d => wp_mono (r9_7_wp i n c O o1 o2 o3 hi (re u T d) h0 h1 h2) fun e a w h => h) D _ cs).trans ?_
  refine seq_to.trans ?_
  have hsz : ∀ T d, (re ((u.alloc (.cells #[.int .i64 i] 3)).alloc (.cells #[.int .i64 o1, .int .i64 o2, .int .i64 o3] 48)) T d).heap.size = u.heap.size + 2 := fun T d => by show ((u.alloc (.cells #[.int .i64 i] 3)).alloc (.cells #[.int .i64 o1, .int .i64 o2, .int .i64 o3] 48)).heap.size = _; simp [World.size_alloc]
  exact code_at (u2 := (((u.alloc (.cells #[.int .i64 i] 3)).alloc (.cells #[.int .i64 o1, .int .i64 o2, .int .i64 o3] 48)).alloc (.cells #[.int .u64 0, .int .u32 0] 69))) (A := #[v0, v1, v2, v3, v4, v5, v6, v7, .pointer (some ⟨u.heap.size, 0, none⟩), .pointer (some ⟨u.heap.size + 1, 0, none⟩), .pointer (some ⟨u.heap.size + 2, 0, none⟩), v11, v12, v13, v14, v15, v16, v17, v18, v19, v20, v21, v22, v23, v24, v25, v26, .slice (some ⟨O, 0, none⟩) n c, .int .i64 n, .int .i64 i, .bool true, .int .i64 i, .pointer (some ⟨O, i * 3, none⟩), .agg #[.int .i64 o1, .int .i64 o2, .int .i64 o3], v34, v35, v36, v37, v38, v39, v40, v41, v42]) plain_closed hb (plain_code (by kernel_rfl)) (fun T d => wp_mono (r9_8_wp (re ((u.alloc (.cells #[.int .i64 i] 3)).alloc (.cells #[.int .i64 o1, .int .i64 o2, .int .i64 o3] 48)) T d)) fun e a w ⟨h1, h2, h3⟩ => ⟨h1, by rw [h2, hsz], h3⟩) D _ cs
end
end Go.Bp

/- Cells of a world whose newest group is hidden. -/
namespace Go.Bp
open Go Go.Conc Go.Proofs Go.RowKit Go.Proofs.Ytfckhpkebdpkbaa

theorem hide_cell {Wg : Nat} {u : World} {a : Addr} (h : a.block ≠ Wg) : (hide Wg u).cell? a = u.cell? a := World.cell?_of_block (hide_other h)
theorem hide_frozen {Wg : Nat} {u : World} {a : Addr} (h : a.block ≠ Wg) : (hide Wg u).frozen? a = u.frozen? a := World.frozen?_of_block (hide_other h)
theorem hide_size {Wg : Nat} {u : World} : (hide Wg u).heap.size = u.heap.size := by simp [hide]
theorem hide_band [Pre] {w : World} {Wg gb o : Nat} {q : Int} {n cl cd : Nat} {b : BSt} {gl gd : Nat} (h : BandC w gb o q n cl cd b gl gd) (h1 : ¬ own3 gb gl gd Wg) : BandC (hide Wg w) gb o q n cl cd b gl gd :=
  h.same (hide_other fun e => h1 (.inl e.symm)) (hide_other fun e => h1 (.inr (.inl e.symm))) (hide_other fun e => h1 (.inr (.inr e.symm))) (by rw [hide_size]; exact Nat.le_refl _)
end Go.Bp

/- The newest group is hidden from here on. -/
namespace Go.Bp
open Go Go.Conc Go.Proofs
open Go.ConcX (WgAt)

theorem group_to {X : Nat → Prop} {u : World} {Wg : Nat} {g : Goroutine} (hX : ¬ X Wg) (hb : u.heap[Wg]? = some (.cells #[.int .u64 0, .int .u32 0] 69)) :
    To Try.prog (Fq Try.prog X u g) (fun m t => ∃ w, Fr Try.prog (Ps (plus X Wg) 0) g w m t ∧ FSt (plus X Wg) (hide Wg u) Wg 0 w) := fun m t h => by
  obtain ⟨w, h1, h2, h3⟩ := h.hide hX hb
  exact ⟨0, m, t, rfl, w, h1, h2, h3⟩
end Go.Bp

/- A turn of BandPlay's loop, up to the end of its round. -/
namespace Go.Bp
open Go Go.Conc Go.Proofs Go.RowKit Go.Proofs.Ytfckhpkebdpkbaa
section
variable {X : Nat → Prop} {b : Frame} {k : List Item} {cs : List Frame} {D : List Deferred} {v0 v1 v2 v3 v4 v5 v8 v9 v10 v11 v12 v13 v14 v15 v16 v17 v18 v19 v20 v21 v22 v23 v24 v25 v26 v27 v28 v29 v30 v31 v32 v33 v34 v35 v36 v37 v38 v39 v40 v41 v42 : Value} {i n c c2 O Sv Cv B C : Nat} {o1 o2 o3 : Int} {u : World} {R : Value → World → Prop}
set_option maxHeartbeats 1000000 in
theorem turn_to (hm : Try.prog.follows .mixedOrders = true) (hb : b.kind ≠ .early) (hi : i < n) (h0 : u.cell? ⟨O, i * 3, none⟩ = some (.int .i64 o1)) (h1 : u.cell? ⟨O, i * 3 + 1, none⟩ = some (.int .i64 o2)) (h2 : u.cell? ⟨O, i * 3 + 2, none⟩ = some (.int .i64 o3))
    (hX : ∀ j, X j → j < u.heap.size) (hV : Vars Cv u.heap.size Sv (u.heap.size + 1) B C n c2 i o1 o2 o3 (hide (u.heap.size + 2) (((u.alloc (.cells #[.int .i64 i] 3)).alloc (.cells #[.int .i64 o1, .int .i64 o2, .int .i64 o3] 48)).alloc (.cells #[.int .u64 0, .int .u32 0] 69))))
    (hdo : DoOk (plus X (u.heap.size + 2)) (hide (u.heap.size + 2) (((u.alloc (.cells #[.int .i64 i] 3)).alloc (.cells #[.int .i64 o1, .int .i64 o2, .int .i64 o3] 48)).alloc (.cells #[.int .u64 0, .int .u32 0] 69))) B (.agg #[.int .i64 o1, .int .i64 o2, .int .i64 o3]) R)
    (hR : ∀ v u1, R v u1 → Vars Cv u.heap.size Sv (u.heap.size + 1) B C n c2 i o1 o2 o3 u1 ∧ Vars Cv u.heap.size Sv (u.heap.size + 1) B C n c2 i o1 o2 o3 (u1.setCell ⟨C, i, none⟩ v) ∧ (∃ x, v = .int .i64 x) ∧ (∃ y, u1.cell? ⟨C, i, none⟩ = some y) ∧ u1.frozen? ⟨C, i, none⟩ = false)
    (hfull : ∀ v u1, R v u1 → (u1.setCell ⟨C, i, none⟩ v).heap[u.heap.size]? = some (.cells #[.int .i64 i] 3)) :
    To Try.prog (Fq Try.prog X u (G (b.at ⟨#[v0, v1, v2, v3, v4, v5, .pointer (some ⟨Sv, 0, none⟩), .pointer (some ⟨Cv, 0, none⟩), v8, v9, v10, v11, v12, v13, v14, v15, v16, v17, v18, v19, v20, v21, v22, v23, v24, v25, v26, .slice (some ⟨O, 0, none⟩) n c, .int .i64 n, .int .i64 i, v30, v31, v32, v33, v34, v35, v36, v37, v38, v39, v40, v41, v42], D⟩ (.code loop9 :: k)) cs))
      (fun m t => ∃ v u1, R v u1 ∧ Fq Try.prog (plus X (u.heap.size + 2)) (u1.setCell ⟨C, i, none⟩ v) (G (b.at ⟨#[v0, v1, v2, v3, v4, v5, .pointer (some ⟨Sv, 0, none⟩), .pointer (some ⟨Cv, 0, none⟩), .pointer (some ⟨u.heap.size, 0, none⟩), .pointer (some ⟨u.heap.size + 1, 0, none⟩), .pointer (some ⟨u.heap.size + 2, 0, none⟩), v11, v12, v13, v14, v15, v16, v17, v18, v19, v20, v21, v22, v23, v24, v25, v26, .slice (some ⟨O, 0, none⟩) n c, .int .i64 n, .int .i64 i, .bool true, .int .i64 i, .pointer (some ⟨O, i * 3, none⟩), .agg #[.int .i64 o1, .int .i64 o2, .int .i64 o3], .tuple #[], .func (.func 29) #[] #[.pointer (some ⟨u.heap.size + 2, 0, none⟩), .pointer (some ⟨Sv, 0, none⟩), .pointer (some ⟨u.heap.size + 1, 0, none⟩), .pointer (some ⟨Cv, 0, none⟩), .pointer (some ⟨u.heap.size, 0, none⟩)], .tuple #[], v37, v38, v39, v40, v41, v42], D⟩ (.inBlock 1 :: .code r9_12 :: k)) cs) m t) := by
  refine (half_to hb hi h0 h1 h2).trans ?_
  refine (group_to (Wg := u.heap.size + 2) (fun h => by have := hX _ h; omega) (by have := heap_alloc_new ((u.alloc (.cells #[.int .i64 i] 3)).alloc (.cells #[.int .i64 o1, .int .i64 o2, .int .i64 o3] 48)) (.cells #[.int .u64 0, .int .u32 0] 69); simpa only [World.size_alloc] using this)).trans ?_
  exact round_to hm hb (Or.inr rfl) (fun h => by rcases h with h | h; exact absurd (hX _ h) (Nat.lt_irrefl _); omega) hV hi hdo hR hfull
end
end Go.Bp

/- A turn's end: the count. -/
namespace Go.Bp
open Go Go.Conc Go.Proofs Go.RowKit Go.Proofs.Ytfckhpkebdpkbaa
section
variable {X : Nat → Prop} {b : Frame} {k : List Item} {cs : List Frame} {D : List Deferred} {v0 v1 v2 v3 v4 v5 v6 v7 v8 v9 v10 v11 v12 v13 v14 v15 v16 v17 v18 v19 v20 v21 v22 v23 v24 v25 v26 v27 v28 v29 v30 v31 v32 v33 v34 v35 v36 v37 v38 v39 v40 v41 v42 : Value} {i : Nat} {u : World}
theorem tail_to (hb : b.kind ≠ .early) (hi : i < 9223372036854775807) : To Try.prog (Fq Try.prog X u (G (b.at ⟨#[v0, v1, v2, v3, v4, v5, v6, v7, v8, v9, v10, v11, v12, v13, v14, v15, v16, v17, v18, v19, v20, v21, v22, v23, v24, v25, v26, v27, v28, .int .i64 i, v30, v31, v32, v33, v34, v35, v36, v37, v38, v39, v40, v41, v42], D⟩ (.inBlock 1 :: .code r9_12 :: .inLoop loop9 :: k)) cs))
    (Fq Try.prog X u (G (b.at ⟨#[v0, v1, v2, v3, v4, v5, v6, v7, v8, v9, v10, v11, v12, v13, v14, v15, v16, v17, v18, v19, v20, v21, v22, v23, v24, v25, v26, v27, v28, .int .i64 (i + 1), v30, v31, v32, v33, v34, v35, v36, .int .i64 (i + 1), v38, v39, v40, v41, v42], D⟩ (.code loop9 :: .inLoop loop9 :: k)) cs)) := by
  refine inBlock_to.trans ?_
  refine (code_at (u2 := u) plain_closed hb (plain_code (by kernel_rfl)) (fun T d => wp_mono (r9_12_wp i hi (re u T d)) fun e a w h => h) D _ cs).trans ?_
  exact inLoop_to
end
end Go.Bp

/- The loop is left. -/
namespace Go.Bp
open Go Go.Conc Go.Proofs Go.RowKit Go.Proofs.Ytfckhpkebdpkbaa
section
variable {X : Nat → Prop} {b : Frame} {k : List Item} {cs : List Frame} {D : List Deferred} {v0 v1 v2 v3 v4 v5 v6 v7 v8 v9 v10 v11 v12 v13 v14 v15 v16 v17 v18 v19 v20 v21 v22 v23 v24 v25 v26 v27 v28 v29 v30 v31 v32 v33 v34 v35 v36 v37 v38 v39 v40 v41 v42 : Value} {n c O : Nat} {u : World}
theorem leave_to (hb : b.kind ≠ .early) : To Try.prog (Fq Try.prog X u (G (b.at ⟨#[v0, v1, v2, v3, v4, v5, v6, v7, v8, v9, v10, v11, v12, v13, v14, v15, v16, v17, v18, v19, v20, v21, v22, v23, v24, v25, v26, .slice (some ⟨O, 0, none⟩) n c, .int .i64 n, .int .i64 n, v30, v31, v32, v33, v34, v35, v36, v37, v38, v39, v40, v41, v42], D⟩ (.code loop9 :: .inLoop loop9 :: .inBlock 0 :: k)) cs))
    (Fq Try.prog X u (G (b.at ⟨#[v0, v1, v2, v3, v4, v5, v6, v7, v8, v9, v10, v11, v12, v13, v14, v15, v16, v17, v18, v19, v20, v21, v22, v23, v24, v25, v26, .slice (some ⟨O, 0, none⟩) n c, .int .i64 n, .int .i64 n, .bool false, v31, v32, v33, v34, v35, v36, v37, v38, v39, v40, v41, v42], D⟩ k) cs)) := by
  refine (head_to hb).trans ?_
  have hd : decide ((n : Int) < n) = false := by simp
  rw [hd]
  refine (cond_to (t := false) rfl).trans ?_
  exact exit_to rfl
end
end Go.Bp

/- BandPlay's loop, whole: by induction on the turns that are left. -/
namespace Go.Bp
open Go Go.Conc Go.Proofs Go.RowKit Go.Proofs.Ytfckhpkebdpkbaa

theorem KeptH.refl (p : Nat → Prop) (w : World) : KeptH p w w := ⟨rfl, rfl, Nat.le_refl _, fun _ _ _ => rfl⟩
theorem KeptH.trans {p : Nat → Prop} {a b c : World} (h : KeptH p a b) (k : KeptH p b c) : KeptH p a c :=
  ⟨k.os.trans h.os, k.output.trans h.output, Nat.le_trans h.size k.size, fun i hi hp => (k.block i (Nat.lt_of_lt_of_le hi h.size) hp).trans (h.block i hi hp)⟩
theorem KeptH.mono {p q : Nat → Prop} {a b : World} (h : KeptH p a b) (hp : ∀ k, k < a.heap.size → p k → q k) : KeptH q a b :=
  ⟨h.os, h.output, h.size, fun i hi hq => h.block i hi fun hh => hq (hp i hi hh)⟩
theorem KeptH.alloc {p : Nat → Prop} {a b : World} (h : KeptH p a b) (o : Obj) : KeptH p a (b.alloc o) :=
  ⟨h.os, h.output, Nat.le_trans h.size (by simp [World.size_alloc]), fun i hi hp => (Below.heap_alloc _ _ _ (Nat.lt_of_lt_of_le hi h.size)).trans (h.block i hi hp)⟩
theorem KeptH.hide {p : Nat → Prop} {a b : World} (h : KeptH p a b) {Wg : Nat} (hw : a.heap.size ≤ Wg) : KeptH p a (Go.Bp.hide Wg b) :=
  ⟨h.os, h.output, by rw [hide_size]; exact h.size, fun i hi hp => (hide_other (by omega)).trans (h.block i hi hp)⟩
theorem KeptH.set {p : Nat → Prop} {a b : World} (h : KeptH p a b) {q : Addr} (hq : p q.block) (v : Value) : KeptH p a (b.setCell q v) :=
  ⟨h.os, h.output, by simpa [World.setCell] using h.size, fun i hi hp => (setCell_other fun e : q.block = i => hp (by rw [← e]; exact hq)).trans (h.block i hi hp)⟩

def own4 (B gl gd C : Nat) (k : Nat) : Prop := own3 B gl gd k ∨ k = C

/-- What holds at the loop's head, i turns behind it. -/
structure LI (X0 : Nat → Prop) (u0 : World) (B C gl gd m cl cd n : Nat) (q : Int) (s : Value) (o1 o2 o3 : Nat → Int) (b0 : BSt) (i : Nat) (X : Nat → Prop) (u : World) : Prop where
  lt : ∀ j, X j → j < u.heap.size
  from_ : ∀ j, X j → X0 j ∨ u0.heap.size ≤ j
  band : @BandC (preOf (.int .i32 0) s) u B 2 q m cl cd (stAt q m o1 o2 o3 b0 i) gl gd
  done : ∀ j, j < i → u.cell? ⟨C, j, none⟩ = some (.int .i64 (codeAt q m o1 o2 o3 b0 j))
  there : ∀ j, j < n → (∃ y, u.cell? ⟨C, j, none⟩ = some y) ∧ u.frozen? ⟨C, j, none⟩ = false
  kept : KeptH (own4 B gl gd C) u0 u

/-- What the loop begins with. -/
structure L0 (X0 : Nat → Prop) (u0 : World) (Cv Sv O B C gl gd n c2 : Nat) (o1 o2 o3 : Nat → Int) : Prop where
  x1 : ¬ X0 B
  x2 : ¬ X0 C
  ltb : B < u0.heap.size
  ltl : gl < u0.heap.size
  ltd : gd < u0.heap.size
  ltc : C < u0.heap.size
  codes : u0.cell? ⟨Cv, 0, none⟩ = some (.slice (some ⟨C, 0, none⟩) n c2)
  sh : u0.cell? ⟨Sv, 0, none⟩ = some (.pointer (some ⟨B, 0, none⟩))
  ops : ∀ i, i < n → u0.cell? ⟨O, i * 3, none⟩ = some (.int .i64 (o1 i)) ∧ u0.cell? ⟨O, i * 3 + 1, none⟩ = some (.int .i64 (o2 i)) ∧ u0.cell? ⟨O, i * 3 + 2, none⟩ = some (.int .i64 (o3 i))
  a1 : ¬ own4 B gl gd C Cv
  a2 : ¬ own4 B gl gd C Sv
  a3 : 0 < n → ¬ own4 B gl gd C O
  a4 : ¬ own3 B gl gd C

section
variable {X0 : Nat → Prop} {b : Frame} {k : List Item} {cs : List Frame} {D : List Deferred} {v0 v1 v2 v3 v4 v5 v11 v12 v13 v14 v15 v16 v17 v18 v19 v20 v21 v22 v23 v24 v25 v26 v38 v39 v40 v41 v42 : Value} {n c c2 O Sv Cv B C gl gd m cl cd : Nat} {q : Int} {s : Value} {o1 o2 o3 : Nat → Int} {b0 : BSt} {u0 : World}

theorem alloc3_cell {u : World} {a b c : Obj} {x : Addr} {v : Value} (h : u.cell? x = some v) : (hide (u.heap.size + 2) (((u.alloc a).alloc b).alloc c)).cell? x = some v := by
  have hb := World.block_lt_of_cell? u x h
  rw [hide_cell (by omega)]
  refine (World.cell?_of_block ?_).trans h
  rw [Below.heap_alloc _ _ _ (by simp [World.size_alloc]; omega), Below.heap_alloc _ _ _ (by simp [World.size_alloc]; omega), Below.heap_alloc _ _ _ hb]

theorem alloc3_kept {u : World} {a b c : Obj} {p : Nat → Prop} : KeptH p u (hide (u.heap.size + 2) (((u.alloc a).alloc b).alloc c)) :=
  ((((KeptH.refl p u).alloc a).alloc b).alloc c).hide (by omega)

theorem alloc3_new {u : World} {a b c : Obj} : (hide (u.heap.size + 2) (((u.alloc a).alloc b).alloc c)).heap[u.heap.size]? = some a ∧ (hide (u.heap.size + 2) (((u.alloc a).alloc b).alloc c)).heap[u.heap.size + 1]? = some b := by
  refine ⟨?_, ?_⟩
  · rw [hide_other (by omega), Below.heap_alloc _ _ _ (by simp [World.size_alloc]; omega), Below.heap_alloc _ _ _ (by simp [World.size_alloc])]
    exact heap_alloc_new u a
  · rw [hide_other (by omega), Below.heap_alloc _ _ _ (by simp [World.size_alloc])]
    have := heap_alloc_new (u.alloc a) b
    rwa [World.size_alloc] at this

set_option maxHeartbeats 1000000 in
theorem loop_all (hm : Try.prog.follows .mixedOrders = true) (hb : b.kind ≠ .early) (hn : n < 9223372036854775807) (hok : bOk q m b0 = true) (h0 : L0 X0 u0 Cv Sv O B C gl gd n c2 o1 o2 o3) :
    ∀ (r i : Nat), i + r = n → ∀ (X : Nat → Prop) (u : World) (v8 v9 v10 v30 v31 v32 v33 v34 v35 v36 v37 : Value), LI X0 u0 B C gl gd m cl cd n q s o1 o2 o3 b0 i X u →
    To Try.prog (Fq Try.prog X u (G (b.at ⟨#[v0, v1, v2, v3, v4, v5, .pointer (some ⟨Sv, 0, none⟩), .pointer (some ⟨Cv, 0, none⟩), v8, v9, v10, v11, v12, v13, v14, v15, v16, v17, v18, v19, v20, v21, v22, v23, v24, v25, v26, .slice (some ⟨O, 0, none⟩) n c, .int .i64 n, .int .i64 i, v30, v31, v32, v33, v34, v35, v36, v37, v38, v39, v40, v41, v42], D⟩ (.code loop9 :: .inLoop loop9 :: .inBlock 0 :: k)) cs))
      (fun mm t => ∃ (X' : Nat → Prop) (u' : World) (v8 v9 v10 v31 v32 v33 v34 v35 v36 v37 : Value), LI X0 u0 B C gl gd m cl cd n q s o1 o2 o3 b0 n X' u' ∧ Fq Try.prog X' u' (G (b.at ⟨#[v0, v1, v2, v3, v4, v5, .pointer (some ⟨Sv, 0, none⟩), .pointer (some ⟨Cv, 0, none⟩), v8, v9, v10, v11, v12, v13, v14, v15, v16, v17, v18, v19, v20, v21, v22, v23, v24, v25, v26, .slice (some ⟨O, 0, none⟩) n c, .int .i64 n, .int .i64 n, .bool false, v31, v32, v33, v34, v35, v36, v37, v38, v39, v40, v41, v42], D⟩ k) cs) mm t) := by
  intro r
  induction r with
  | zero =>
    intro i hi X u v8 v9 v10 v30 v31 v32 v33 v34 v35 v36 v37 h
    obtain rfl : i = n := by omega
    exact (leave_to hb).mono fun mm t hf => ⟨X, u, _, _, _, _, _, _, _, _, _, _, h, hf⟩
  | succ r ih =>
    intro i hi X u v8 v9 v10 v30 v31 v32 v33 v34 v35 v36 v37 h
    have hin : i < n := by omega
    obtain ⟨p0, p1, p2⟩ := h0.ops i hin
    have nX : ∀ j, j < u0.heap.size → ¬ X0 j → ¬ X j := fun j hj hx hh => by rcases h.from_ j hh with z | z; exact hx z; omega
    have hsz := h.kept.size
    have hK := alloc3_kept (u := u) (a := .cells #[.int .i64 i] 3) (b := .cells #[.int .i64 (o1 i), .int .i64 (o2 i), .int .i64 (o3 i)] 48) (c := .cells #[.int .u64 0, .int .u32 0] 69) (p := fun _ => False)
    have hN := alloc3_new (u := u) (a := .cells #[.int .i64 i] 3) (b := .cells #[.int .i64 (o1 i), .int .i64 (o2 i), .int .i64 (o3 i)] 48) (c := .cells #[.int .u64 0, .int .u32 0] 69)
    have lift : ∀ {x : Addr} {v : Value}, u.cell? x = some v → _ := fun {x v} hx => alloc3_cell (u := u) (a := .cells #[.int .i64 i] 3) (b := .cells #[.int .i64 (o1 i), .int .i64 (o2 i), .int .i64 (o3 i)] 48) (c := .cells #[.int .u64 0, .int .u32 0] 69) (x := x) (v := v) hx
    generalize huh : hide (u.heap.size + 2) (((u.alloc (.cells #[.int .i64 i] 3)).alloc (.cells #[.int .i64 (o1 i), .int .i64 (o2 i), .int .i64 (o3 i)] 48)).alloc (.cells #[.int .u64 0, .int .u32 0] 69)) = uh at hK hN lift
    have hV : Vars Cv u.heap.size Sv (u.heap.size + 1) B C n c2 i (o1 i) (o2 i) (o3 i) uh := by
      refine ⟨lift (h.kept.cell h0.a1 h0.codes), ?_, lift (h.kept.cell h0.a2 h0.sh), ?_, ?_, ?_⟩
      · simp [World.cell?, hN.1]
      all_goals simp [World.cell?, hN.2]
    have hband : @BandC (preOf (.int .i32 0) s) uh B 2 q m cl cd (stAt q m o1 o2 o3 b0 i) gl gd := by
      letI := preOf (.int .i32 0) s
      exact h.band.same (hK.block _ h.band.lt (fun x => x)) (hK.block _ h.band.fl.1 (fun x => x)) (hK.block _ h.band.fd.1 (fun x => x)) hK.size
    have hBo : ¬ plus X (u.heap.size + 2) B := by
      rintro (z | z)
      · exact nX B h0.ltb h0.x1 z
      · have := h0.ltb; omega
    have hap : Apart Cv u.heap.size Sv (u.heap.size + 1) C B gl gd := by
      have q1 := h0.ltb; have q2 := h0.ltl; have q3 := h0.ltd; have q4 := h0.ltc
      refine ⟨fun z => h0.a1 (.inl z), ?_, fun z => h0.a2 (.inl z), ?_, h0.a4, fun e => h0.a1 (.inr e.symm), by omega, fun e => h0.a2 (.inr e.symm), by omega⟩ <;> (rintro (z | z | z) <;> omega)
    obtain ⟨⟨y, hy⟩, hz⟩ := h.there i hin
    have hy' := lift hy
    have hz' : uh.frozen? ⟨C, i, none⟩ = false := (World.frozen?_of_block (a := ⟨C, i, none⟩) (hK.block C (World.block_lt_of_cell? u _ hy) (fun x => x))).trans hz
    have hst := stAt_ok (o1 := o1) (o2 := o2) (o3 := o3) hok i
    have ht := turn_to (X := X) (b := b) (k := .inLoop loop9 :: .inBlock 0 :: k) (cs := cs) (D := D) (c := c) (c2 := c2) (O := O) (Sv := Sv) (Cv := Cv) (B := B) (C := C) (o1 := o1 i) (o2 := o2 i) (o3 := o3 i) (u := u) (R := DoR uh B q m cl cd (stAt q m o1 o2 o3 b0 i) gl gd (o1 i) (o2 i) (o3 i) s)
      (v0 := v0) (v1 := v1) (v2 := v2) (v3 := v3) (v4 := v4) (v5 := v5) (v8 := v8) (v9 := v9) (v10 := v10) (v11 := v11) (v12 := v12) (v13 := v13) (v14 := v14) (v15 := v15) (v16 := v16) (v17 := v17) (v18 := v18) (v19 := v19) (v20 := v20) (v21 := v21) (v22 := v22) (v23 := v23) (v24 := v24) (v25 := v25) (v26 := v26) (v30 := v30) (v31 := v31) (v32 := v32) (v33 := v33) (v34 := v34) (v35 := v35) (v36 := v36) (v37 := v37) (v38 := v38) (v39 := v39) (v40 := v40) (v41 := v41) (v42 := v42) hm hb hin (h.kept.cell (h0.a3 (by omega)) p0) (h.kept.cell (h0.a3 (by omega)) p1) (h.kept.cell (h0.a3 (by omega)) p2) h.lt (by rw [huh]; exact hV) (by rw [huh]; exact doOk hBo hst hband) (doR_ok hV hap hy' hz') (doR_full hap hN.1)
    refine ht.trans ?_
    rintro mm t ⟨v, u1, hr, hq⟩
    have hi2 : ((i : Int) + 1) = ((i + 1 : Nat) : Int) := by omega
    obtain ⟨N1, m1, t1, r1, hq1⟩ := tail_to hb (by omega) mm t hq
    rw [hi2] at hq1
    obtain ⟨rfl, hb1, hk1⟩ := hr
    have hLI : LI X0 u0 B C gl gd m cl cd n q s o1 o2 o3 b0 (i + 1) (plus X (u.heap.size + 2)) (u1.setCell ⟨C, i, none⟩ (.int .i64 (codeAt q m o1 o2 o3 b0 i))) := by
      have hsz1 := hk1.size
      have hszh : uh.heap.size = u.heap.size + 3 := by rw [← huh, hide_size]; simp [World.size_alloc]
      have hc4 := h0.a4
      have hkk : KeptH (own4 B gl gd C) u0 (u1.setCell ⟨C, i, none⟩ (.int .i64 (codeAt q m o1 o2 o3 b0 i))) :=
        ((h.kept.trans (hK.mono fun _ _ z => z.elim)).trans (hk1.mono fun _ _ z => .inl z)).set (q := ⟨C, i, none⟩) (.inr rfl) _
      refine ⟨fun j hj => ?_, fun j hj => ?_, ?_, fun j hj => ?_, fun j hj => ?_, hkk⟩
      · have hs2 : (u1.setCell ⟨C, i, none⟩ (.int .i64 (codeAt q m o1 o2 o3 b0 i))).heap.size = u1.heap.size := by simp [World.setCell]
        show j < (u1.setCell ⟨C, i, none⟩ (.int .i64 (codeAt q m o1 o2 o3 b0 i))).heap.size
        rcases hj with hj | hj
        · have := h.lt j hj; omega
        · omega
      · rcases hj with hj | hj
        · exact h.from_ j hj
        · right; omega
      · letI := preOf (.int .i32 0) s
        exact hb1.same (setCell_other fun e => hc4 (.inl e)) (setCell_other fun e => hc4 (.inr (.inl e))) (setCell_other fun e => hc4 (.inr (.inr e))) (by simp [World.setCell])
      · by_cases e : j = i
        · subst e
          exact World.cell?_setCell_same _ _ _ (hk1.cell hc4 hy')
        · refine (World.cell?_setCell_other _ _ _ _ (by simp <;> omega)).trans (hk1.cell hc4 (lift (h.done j (by omega))))
      · obtain ⟨⟨y2, hy2⟩, hz2⟩ := h.there j hj
        have a1 := hk1.cell hc4 (lift hy2)
        refine ⟨?_, ?_⟩
        · by_cases e : j = i
          · subst e; exact ⟨_, World.cell?_setCell_same _ _ _ a1⟩
          · exact ⟨y2, (World.cell?_setCell_other _ _ _ _ (by simp <;> omega)).trans a1⟩
        · rw [World.frozen?_setCell]
          refine (World.frozen?_of_block (a := ⟨C, j, none⟩) (hk1.block C (by have := h0.ltc; omega) hc4)).trans ?_
          exact (World.frozen?_of_block (a := ⟨C, j, none⟩) (hK.block C (World.block_lt_of_cell? u _ hy2) (fun x => x))).trans hz2
    obtain ⟨N2, m2, t2, r2, hq2⟩ := ih (i + 1) (by omega) (plus X (u.heap.size + 2)) _ _ _ _ _ _ _ _ _ _ _ _ hLI m1 t1 hq1
    exact ⟨N1 + N2, m2, t2, by rw [runNT_add, r1]; exact r2, hq2⟩
end
end Go.Bp

/-
  BandPlay's regions outside its loop, each alone.
-/
import Derived.Test.YtfckhpkebdpkbaaPlayC1
import Derived.Test.YtfckhpkebdpkbaaPlayL7
import Derived.RegionTactic
import Derived.StillTailTactics
namespace Go.Bp
open Go Go.Conc Go.Proofs Go.RowKit Go.Proofs.Ytfckhpkebdpkbaa
noncomputable def r9_0 : Code := match body9 with | .seq c _ => c | _ => .skip
noncomputable def r9_1 : Code := match body9 with | .seq _ (.seq (.seq c _) _) => c | _ => .skip
noncomputable def r9_2 : Code := match body9 with | .seq _ (.seq (.seq _ (.cond _ (.seq c _) _)) _) => c | _ => .skip
noncomputable def r9_3 : Code := match body9 with | .seq _ (.seq _ (.seq c _)) => c | _ => .skip
noncomputable def r9_4 : Code := match body9 with | .seq _ (.seq _ (.seq _ (.seq c _))) => c | _ => .skip
noncomputable def r9_5 : Code := match body9 with | .seq _ (.seq _ (.seq _ (.seq _ (.seq (.seq c _) _)))) => c | _ => .skip
noncomputable def r9_13 : Code := match body9 with | .seq _ (.seq _ (.seq _ (.seq _ (.seq _ (.seq c _))))) => c | _ => .skip
theorem body9_eq : body9 = .seq r9_0 (.seq (.seq r9_1 (.cond (.tmp 18) (.seq r9_2 .ret) .skip)) (.seq r9_3 (.seq r9_4 (.seq (.seq r9_5 (.block 0 (.loop loop9))) (.seq r9_13 .ret))))) := by kernel_rfl
section
variable {q p s : Int} {A A' O : Option Addr} {n m c c' k co Bx Rx Sv Cv : Nat} {f : Nat → Int} {f' : Nat → Bool} {Q : Exit → Act → World → Prop} {v11 v12 v13 v14 v15 v16 v17 v18 v20 v21 v22 v23 v24 v25 v26 : Value}

theorem r9_0_wp (w : World) : r9_0.wp Try.prog (fun e a w' => e = .normal ∧ a = ⟨#[.agg #[.int .i64 q, .int .i64 p, .int .i64 s, .slice A n c, .slice A' m c'], .slice O k co, .pointer (some ⟨w.heap.size, 0, none⟩), undef, .pointer (some ⟨w.heap.size + 1, 0, none⟩), .slice none 0 0, undef, undef, undef, undef, undef, undef, undef, undef, undef, undef, undef, undef, undef, undef, undef, undef, undef, undef, undef, undef, undef, undef, undef, undef, undef, undef, undef, undef, undef, undef, undef, undef, undef, undef, undef, undef, undef], []⟩ ∧ w' = (w.alloc (.cells #[.int .i64 q, .int .i64 p, .int .i64 s, .slice A n c, .slice A' m c'] 29)).alloc (.cells #[.int .i64 0, .int .i64 0, .int .i64 0, .slice none 0 0, .slice none 0 0] 29))
    ⟨#[.agg #[.int .i64 q, .int .i64 p, .int .i64 s, .slice A n c, .slice A' m c'], .slice O k co, undef, undef, undef, undef, undef, undef, undef, undef, undef, undef, undef, undef, undef, undef, undef, undef, undef, undef, undef, undef, undef, undef, undef, undef, undef, undef, undef, undef, undef, undef, undef, undef, undef, undef, undef, undef, undef, undef, undef, undef, undef], []⟩ w := by
  have er : r9_0 = .region 0 #[_, _, _] false := rfl
  rw [er]
  go_wp2

set_option maxHeartbeats 1000000 in
theorem r9_1_wp (w : World) (hn : n ≤ 1048576) (hm : m ≤ 1048576) (hA : Rw w w.heap.size A n fun i => .int .i64 (f i)) (hA' : Rw w w.heap.size A' m fun i => .bool (f' i)) (hB : Bk w Bx 29 #[.int .i64 q, .int .i64 p, .int .i64 s, .slice A n c, .slice A' m c'])
    (hQ : ∀ (v11 v12 v13 v14 v15 v16 v17 : Value) x w', x = (!(bandOk q p s n m f f' && decide (k ≤ 2000))) → Below w.heap.size w w' → Q .normal ⟨#[.agg #[.int .i64 q, .int .i64 p, .int .i64 s, .slice A n c, .slice A' m c'], .slice O k co, .pointer (some ⟨Bx, 0, none⟩), undef, .pointer (some ⟨Rx, 0, none⟩), .slice none 0 0, undef, undef, undef, undef, undef, v11, v12, v13, v14, v15, v16, v17, .bool x, undef, undef, undef, undef, undef, undef, undef, undef, undef, undef, undef, undef, undef, undef, undef, undef, undef, undef, undef, undef, undef, undef, undef, undef], []⟩ w') :
    r9_1.wp Try.prog Q
    ⟨#[.agg #[.int .i64 q, .int .i64 p, .int .i64 s, .slice A n c, .slice A' m c'], .slice O k co, .pointer (some ⟨Bx, 0, none⟩), undef, .pointer (some ⟨Rx, 0, none⟩), .slice none 0 0, undef, undef, undef, undef, undef, undef, undef, undef, undef, undef, undef, undef, undef, undef, undef, undef, undef, undef, undef, undef, undef, undef, undef, undef, undef, undef, undef, undef, undef, undef, undef, undef, undef, undef, undef, undef, undef], []⟩ w := by
  have er : r9_1 = .region 1 #[_, _, _, _, _, _, _, _] false := rfl
  rw [er]
  have HA := Lib.hid hA
  have HA' := Lib.hid hA'
  have HB := Lib.hid hB
  clear hA hA' hB
  go_wp2_with (refine wpList_load_row rfl 29 _ rfl Bx rfl 29 _ (0, 0) _ HB.out Try.underlying29 rfl (by kernel_rfl) ?_)
  refine (iBandOk_any q p s A A' n m c c' (by omega) (by omega) f f' w w (Below.refl _ _) HA.out HA'.out).mono ?_
  rintro e w1 ⟨rfl, hb1⟩
  have HB1 := Lib.hid hb1
  clear hb1
  cases h0 : bandOk q p s n m f f'
  · have H0 := Lib.hid h0
    clear h0
    go_wp2
    exact hQ _ _ _ _ _ _ _ _ _ (by rw [H0.out]; rfl) HB1.out
  · have H0 := Lib.hid h0
    clear h0
    by_cases hk : k ≤ 2000
    · have hk' : ¬ (2000 : Int) < (k : Int) := by omega
      have hd : decide ((2000 : Int) < (k : Int)) = false := by simp; omega
      go_wp2
      exact hQ _ _ _ _ _ _ _ _ _ (by rw [H0.out]; simp; omega) HB1.out
    · have hk' : (2000 : Int) < (k : Int) := by omega
      have hd : decide ((2000 : Int) < (k : Int)) = true := by simp; omega
      go_wp2
      exact hQ _ _ _ _ _ _ _ _ _ (by rw [H0.out]; simp; omega) HB1.out

theorem r9_2_wp (w : World) (hR : Bk w Rx 29 #[.int .i64 0, .int .i64 0, .int .i64 0, .slice none 0 0, .slice none 0 0]) (hQ : ∀ v19, Q .normal ⟨#[.agg #[.int .i64 q, .int .i64 p, .int .i64 s, .slice A n c, .slice A' m c'], .slice O k co, .pointer (some ⟨Bx, 0, none⟩), undef, .pointer (some ⟨Rx, 0, none⟩), .slice none 0 0, undef, undef, undef, undef, undef, v11, v12, v13, v14, v15, v16, v17, v18, v19, undef, undef, undef, undef, undef, undef, undef, undef, undef, undef, undef, undef, undef, undef, undef, undef, undef, undef, undef, undef, undef, undef, undef], []⟩ (w.setRow Rx #[.int .i64 0, .int .i64 0, .int .i64 0, .slice none 0 0, .slice none 0 0])) :
    r9_2.wp Try.prog Q
    ⟨#[.agg #[.int .i64 q, .int .i64 p, .int .i64 s, .slice A n c, .slice A' m c'], .slice O k co, .pointer (some ⟨Bx, 0, none⟩), undef, .pointer (some ⟨Rx, 0, none⟩), .slice none 0 0, undef, undef, undef, undef, undef, v11, v12, v13, v14, v15, v16, v17, v18, undef, undef, undef, undef, undef, undef, undef, undef, undef, undef, undef, undef, undef, undef, undef, undef, undef, undef, undef, undef, undef, undef, undef, undef], []⟩ w := by
  have er : r9_2 = .region 2 #[_, _, _] false := rfl
  rw [er]
  have HR := Lib.hid hR
  clear hR
  go_wp2_with (refine wpList_store_row rfl 29 _ _ rfl Rx _ rfl rfl 29 _ HR.out (by kernel_rfl) rfl (by kernel_rfl) ?_)
  exact hQ _
end
end Go.Bp

/- BandPlay's regions outside its loop, each alone (2). -/
namespace Go.Bp
open Go Go.Conc Go.Proofs Go.RowKit Go.Proofs.Ytfckhpkebdpkbaa
section
variable {q p s : Int} {A A' O : Option Addr} {n m c c' k co Bx Rx Sv Cv : Nat} {f : Nat → Int} {f' : Nat → Bool} {Q : Exit → Act → World → Prop} {v11 v12 v13 v14 v15 v16 v17 v18 v20 v21 v22 v23 v24 v25 v26 : Value}
set_option maxHeartbeats 1000000 in
theorem r9_3_wp (w : World) (hn : n ≤ 1048576) (hm : m ≤ 1048576) (hA : Rw w w.heap.size A n fun i => .int .i64 (f i)) (hA' : Rw w w.heap.size A' m fun i => .bool (f' i)) (hB : Bk w Bx 29 #[.int .i64 q, .int .i64 p, .int .i64 s, .slice A n c, .slice A' m c'])
    (hQ : ∀ (v20 v21 v22 v23 : Value) gl gd w1, w.heap.size ≤ gl → gl < gd → OwnV w1 gl n (fun i => .int .i64 (f i)) → OwnV w1 gd m (fun i => .bool (f' i)) → Below w.heap.size w w1 →
      Q .normal ⟨#[.agg #[.int .i64 q, .int .i64 p, .int .i64 s, .slice A n c, .slice A' m c'], .slice O k co, .pointer (some ⟨Bx, 0, none⟩), undef, .pointer (some ⟨Rx, 0, none⟩), .slice none 0 0, .pointer (some ⟨w1.heap.size + 1, 0, none⟩), undef, undef, undef, undef, v11, v12, v13, v14, v15, v16, v17, v18, undef, v20, v21, v22, v23, undef, undef, undef, undef, undef, undef, undef, undef, undef, undef, undef, undef, undef, undef, undef, undef, undef, undef, undef], []⟩ ((w1.alloc (.cells #[.int .i32 0, .int .u32 0, .int .i64 q, .int .i64 p, .int .i64 s, .slice (some ⟨gl, 0, none⟩) n n, .slice (some ⟨gd, 0, none⟩) m m] 62)).alloc (.cells #[.pointer (some ⟨w1.heap.size, 0, none⟩)] 53))) :
    r9_3.wp Try.prog Q ⟨#[.agg #[.int .i64 q, .int .i64 p, .int .i64 s, .slice A n c, .slice A' m c'], .slice O k co, .pointer (some ⟨Bx, 0, none⟩), undef, .pointer (some ⟨Rx, 0, none⟩), .slice none 0 0, undef, undef, undef, undef, undef, v11, v12, v13, v14, v15, v16, v17, v18, undef, undef, undef, undef, undef, undef, undef, undef, undef, undef, undef, undef, undef, undef, undef, undef, undef, undef, undef, undef, undef, undef, undef, undef], []⟩ w := by
  have er : r9_3 = .region 3 #[_, _, _, _, _, _] false := rfl
  rw [er]
  have HA := Lib.hid hA
  have HA' := Lib.hid hA'
  have HB := Lib.hid hB
  clear hA hA' hB
  go_wp2_with (refine wpList_load_row rfl 29 _ rfl Bx rfl 29 _ (0, 0) _ HB.out Try.underlying29 rfl (by kernel_rfl) ?_)
  refine (bandCopy_any q p s A A' n m c c' hn hm f f' w w (Below.refl _ _) HA.out HA'.out).mono ?_
  rintro e w1 ⟨gl, gd, rfl, hg1, hg2, hl, hd, hb⟩
  have HL := Lib.hid hl
  have HD := Lib.hid hd
  have HB1 := Lib.hid hb
  clear hl hd hb
  go_wp2
  exact hQ _ _ _ _ _ _ _ hg1 hg2 HL.out HD.out HB1.out
theorem r9_4_wp (w : World) (hk : k ≤ 1048576) : r9_4.wp Try.prog (fun e a w' => e = .normal ∧ a = ⟨#[.agg #[.int .i64 q, .int .i64 p, .int .i64 s, .slice A n c, .slice A' m c'], .slice O k co, .pointer (some ⟨Bx, 0, none⟩), undef, .pointer (some ⟨Rx, 0, none⟩), .slice none 0 0, .pointer (some ⟨Sv, 0, none⟩), .pointer (some ⟨w.heap.size + 1, 0, none⟩), undef, undef, undef, v11, v12, v13, v14, v15, v16, v17, v18, undef, v20, v21, v22, v23, .slice O k co, .int .i64 k, .slice (some ⟨w.heap.size, 0, none⟩) k k, undef, undef, undef, undef, undef, undef, undef, undef, undef, undef, undef, undef, undef, undef, undef, undef], []⟩ ∧ w' = (w.alloc (.cells (madeCells #[.int .i64 0] k) 3)).alloc (.cells #[.slice (some ⟨w.heap.size, 0, none⟩) k k] 22))
    ⟨#[.agg #[.int .i64 q, .int .i64 p, .int .i64 s, .slice A n c, .slice A' m c'], .slice O k co, .pointer (some ⟨Bx, 0, none⟩), undef, .pointer (some ⟨Rx, 0, none⟩), .slice none 0 0, .pointer (some ⟨Sv, 0, none⟩), undef, undef, undef, undef, v11, v12, v13, v14, v15, v16, v17, v18, undef, v20, v21, v22, v23, undef, undef, undef, undef, undef, undef, undef, undef, undef, undef, undef, undef, undef, undef, undef, undef, undef, undef, undef], []⟩ w := by
  have er : r9_4 = .region 4 #[_, _, _, _, _] false := rfl
  rw [er]
  have hmk := make_toIntS k hk w
  go_wp2
theorem r9_5_wp (w : World) : r9_5.wp Try.prog (fun e a w' => e = .normal ∧ a = ⟨#[.agg #[.int .i64 q, .int .i64 p, .int .i64 s, .slice A n c, .slice A' m c'], .slice O k co, .pointer (some ⟨Bx, 0, none⟩), undef, .pointer (some ⟨Rx, 0, none⟩), .slice none 0 0, .pointer (some ⟨Sv, 0, none⟩), .pointer (some ⟨Cv, 0, none⟩), undef, undef, undef, v11, v12, v13, v14, v15, v16, v17, v18, undef, v20, v21, v22, v23, v24, v25, v26, .slice O k co, .int .i64 k, .int .i64 0, undef, undef, undef, undef, undef, undef, undef, undef, undef, undef, undef, undef, undef], []⟩ ∧ w' = w)
    ⟨#[.agg #[.int .i64 q, .int .i64 p, .int .i64 s, .slice A n c, .slice A' m c'], .slice O k co, .pointer (some ⟨Bx, 0, none⟩), undef, .pointer (some ⟨Rx, 0, none⟩), .slice none 0 0, .pointer (some ⟨Sv, 0, none⟩), .pointer (some ⟨Cv, 0, none⟩), undef, undef, undef, v11, v12, v13, v14, v15, v16, v17, v18, undef, v20, v21, v22, v23, v24, v25, v26, undef, undef, undef, undef, undef, undef, undef, undef, undef, undef, undef, undef, undef, undef, undef, undef], []⟩ w := by
  have er : r9_5 = .region 5 #[_, _, _] false := rfl
  rw [er]
  go_wp2
end
section
variable {QN : Act → World → Prop} {v0 v1 v2 v3 v4 v5 v6 v7 v8 v9 v10 v11 v12 v13 v14 v15 v16 v17 v18 v19 v20 v21 v22 v23 v24 v25 v26 v27 v28 v29 v30 v31 v32 v33 v34 v35 v36 v37 v38 v39 v40 v41 v42 : Value}
set_option maxHeartbeats 1000000 in
theorem r9_13_wp (w : World) (Rx Sv Cv B C kl kc : Nat) (q p s : Int) (gl gd n n' cl cd : Nat) (hne : Rx ≠ Cv) (hR : Bk w Rx 29 #[.int .i64 0, .int .i64 0, .int .i64 0, .slice none 0 0, .slice none 0 0]) (hSv : w.cell? ⟨Sv, 0, none⟩ = some (.pointer (some ⟨B, 0, none⟩))) (hCv : w.cell? ⟨Cv, 0, none⟩ = some (.slice (some ⟨C, 0, none⟩) kl kc))
    (h0 : w.cell? ⟨B, 2, none⟩ = some (.int .i64 q)) (h1 : w.cell? ⟨B, 3, none⟩ = some (.int .i64 p)) (h2 : w.cell? ⟨B, 4, none⟩ = some (.int .i64 s)) (h3 : w.cell? ⟨B, 5, none⟩ = some (.slice (some ⟨gl, 0, none⟩) n cl)) (h4 : w.cell? ⟨B, 6, none⟩ = some (.slice (some ⟨gd, 0, none⟩) n' cd))
    (hQ : ∀ (a b c d e : Value) w', Bk w' Rx 29 #[.int .i64 q, .int .i64 p, .int .i64 s, .slice (some ⟨gl, 0, none⟩) n cl, .slice (some ⟨gd, 0, none⟩) n' cd] → Go.Proofs.Ytfckhpkebdpkbaa.Kept (· = Rx) w w' → QN ⟨#[v0, v1, v2, v3, .pointer (some ⟨Rx, 0, none⟩), .slice (some ⟨C, 0, none⟩) kl kc, .pointer (some ⟨Sv, 0, none⟩), .pointer (some ⟨Cv, 0, none⟩), v8, v9, v10, v11, v12, v13, v14, v15, v16, v17, v18, v19, v20, v21, v22, v23, v24, v25, v26, v27, v28, v29, v30, v31, v32, v33, v34, v35, v36, v37, a, b, c, d, e], []⟩ w') :
    r9_13.wp Try.prog (fun e a w' => match e with | .normal => QN a w' | _ => False) ⟨#[v0, v1, v2, v3, .pointer (some ⟨Rx, 0, none⟩), v5, .pointer (some ⟨Sv, 0, none⟩), .pointer (some ⟨Cv, 0, none⟩), v8, v9, v10, v11, v12, v13, v14, v15, v16, v17, v18, v19, v20, v21, v22, v23, v24, v25, v26, v27, v28, v29, v30, v31, v32, v33, v34, v35, v36, v37, v38, v39, v40, v41, v42], []⟩ w := by
  have er : r9_13 = .region 13 #[_, _, _, _, _, _, _] true := rfl
  rw [er]
  obtain ⟨r0, r1, r2, r3, r4⟩ := hR.five
  have rf := hR.frees
  have HR := Lib.hid hR
  clear hR
  have hk := ((((((Go.Proofs.Ytfckhpkebdpkbaa.Kept.refl (· = Rx) w).setCell (q := ⟨Rx, 0, none⟩) rfl (.int .i64 q)).setCell (q := ⟨Rx, 1, none⟩) rfl (.int .i64 p)).setCell (q := ⟨Rx, 2, none⟩) rfl (.int .i64 s)).setCell (q := ⟨Rx, 3, none⟩) rfl (.slice (some ⟨gl, 0, none⟩) n cl)).setCell (q := ⟨Rx, 4, none⟩) rfl (.slice (some ⟨gd, 0, none⟩) n' cd)).drew
  have hb := (((((HR.out.put 0 (.int .i64 q)).put 1 (.int .i64 p)).put 2 (.int .i64 s)).put 3 (.slice (some ⟨gl, 0, none⟩) n cl)).put 4 (.slice (some ⟨gd, 0, none⟩) n' cd)).drewN 1
  have HK := Lib.hid hk
  have HBk := Lib.hid hb
  clear er hk hb
  go_region
  all_goals exact hQ _ _ _ _ _ _ HBk.out HK.out
end
end Go.Bp

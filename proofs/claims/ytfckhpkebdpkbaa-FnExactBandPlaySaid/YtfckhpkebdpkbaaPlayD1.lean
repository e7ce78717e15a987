/-
  The law's first statements, alone; how it ends.
-/
import Derived.Test.YtfckhpkebdpkbaaPlayC4
import Derived.Test.YtfckhpkebdpkbaaPlayC5
import Derived.Test.YtfckhpkebdpkbaaPlayA2
namespace Go.Bp
open Go Go.Conc Go.Proofs Go.RowKit Go.Proofs.Ytfckhpkebdpkbaa
noncomputable def rr3 : Code := match lawA' with | .seq (.seq c _) _ => c | _ => .skip
noncomputable def rr4 : Code := match lawA' with | .seq (.seq _ (.cond _ (.seq c _) _)) _ => c | _ => .skip
noncomputable def rr5 : Code := match lawA' with | .seq _ (.seq c _) => c | _ => .skip
noncomputable def rr6 : Code := match lawA' with | .seq _ (.seq _ (.seq (.seq c _) _)) => c | _ => .skip
noncomputable def rr7 : Code := match lawA' with | .seq _ (.seq _ (.seq (.seq _ (.cond _ (.seq c _) _)) _)) => c | _ => .skip
theorem lawA'_eq : lawA' = .seq (.seq rr3 (.cond (.tmp 21) (.seq rr4 .ret) .skip)) (.seq rr5 (.seq (.seq rr6 (.cond (.tmp 26) (.seq rr7 .ret) .skip)) lawC0)) := by kernel_rfl
section
variable {q p s : Int} {A A' O : Option Addr} {n m c c' k co : Nat} {f : Nat → Int} {f' : Nat → Bool} {QN : Act → World → Prop}
set_option maxRecDepth 100000 in
set_option maxHeartbeats 4000000 in
theorem lawA_wp (w : World) (hn : (n : Int) ≤ 9223372036854775807) (hm : (m : Int) ≤ 9223372036854775807)
    (hQ : ∀ (a : Act) (w' : World), a.defers = [] → a.tmps.size = 135 → a.tmps[1]? = some (.slice O k co) → a.tmps[2]? = some (.pointer (some ⟨w.heap.size, 0, none⟩)) → a.tmps[5]? = some (.int .i64 (szB 1048576 n m)) → SA w q p s A n c A' m c' w' → QN a w') :
    lawA.wp Try.prog (fun e a w' => match e with | .normal => QN a w' | _ => False) ⟨#[.agg #[.int .i64 q, .int .i64 p, .int .i64 s, .slice A n c, .slice A' m c'], .slice O k co, undef, undef, undef, undef, undef, undef, undef, undef, undef, undef, undef, undef, undef, undef, undef, undef, undef, undef, undef, undef, undef, undef, undef, undef, undef, undef, undef, undef, undef, undef, undef, undef, undef, undef, undef, undef, undef, undef, undef, undef, undef, undef, undef, undef, undef, undef, undef, undef, undef, undef, undef, undef, undef, undef, undef, undef, undef, undef, undef, undef, undef, undef, undef, undef, undef, undef, undef, undef, undef, undef, undef, undef, undef, undef, undef, undef, undef, undef, undef, undef, undef, undef, undef, undef, undef, undef, undef, undef, undef, undef, undef, undef, undef, undef, undef, undef, undef, undef, undef, undef, undef, undef, undef, undef, undef, undef, undef, undef, undef, undef, undef, undef, undef, undef, undef, undef, undef, undef, undef, undef, undef, undef, undef, undef, undef, undef, undef, undef, undef, undef, undef, undef, undef], []⟩ w := by
  have er : lawA = (.seq (.region 0 #[_, _] false) (.seq (.region 1 #[_] false) (.region 2 #[_, _, _, _] false))) := rfl
  rw [er]
  clear er
  have HQ := Lib.hid hQ
  clear hQ
  have kb := Bk.new w 25 #[.int .i64 q, .int .i64 p, .int .i64 s, .slice A n c, .slice A' m c']
  have KB := Lib.hid kb
  clear kb
  go_wp2_with fail
  refine (szBand_any q p s 1048576 A A' n m c c' (by omega) (by omega) hn hm _ _ (Below.refl _ _)).mono ?_
  rintro e w1 ⟨rfl, hb⟩
  have hz := hb.size
  simp only [World.size_alloc] at hz
  have hsa : SA w q p s A n c A' m c' w1 := ⟨((KeptH.refl _ w).alloc _).trans (KeptH.bel hb), by omega, bkH KB.out (KeptH.bel hb) (fun z => z)⟩
  have HSA := Lib.hid hsa
  clear hb hsa
  go_wp2_with fail
  exact HQ.out _ _ rfl rfl rfl rfl rfl HSA.out

section
variable {v0 v1 v2 v3 v4 v5 v6 v7 v8 v9 v10 v11 v12 v13 v14 v15 v16 v17 v18 v19 v20 v21 v22 v23 v24 v25 v26 v27 v28 v29 v30 v31 v32 v33 v34 v35 v36 v37 v38 v39 v40 v41 v42 v43 v44 v45 v46 v47 v48 v49 v50 v51 v52 v53 v54 v55 v56 v57 v58 v59 v60 v61 v62 v63 v64 v65 v66 v67 v68 v69 v70 v71 v72 v73 v74 v75 v76 v77 v78 v79 v80 v81 v82 v83 v84 v85 v86 v87 v88 v89 v90 v91 v92 v93 v94 v95 v96 v97 v98 v99 v100 v101 v102 v103 v104 v105 v106 v107 v108 v109 v110 v111 v112 v113 v114 v115 v116 v117 v118 v119 v120 v121 v122 v123 v124 v125 v126 v127 v128 v129 v130 v131 v132 v133 v134 : Value} {L : Int}
theorem rr3_wp (w : World) : rr3.wp Try.prog (fun e a w' => e = .normal ∧ a = ⟨#[v0, v1, v2, v3, v4, .int .i64 L, v6, v7, v8, v9, v10, v11, v12, v13, v14, v15, v16, v17, v18, v19, .int .i64 L, .bool (decide (L < 0)), v22, v23, v24, v25, v26, v27, v28, v29, v30, v31, v32, v33, v34, v35, v36, v37, v38, v39, v40, v41, v42, v43, v44, v45, v46, v47, v48, v49, v50, v51, v52, v53, v54, v55, v56, v57, v58, v59, v60, v61, v62, v63, v64, v65, v66, v67, v68, v69, v70, v71, v72, v73, v74, v75, v76, v77, v78, v79, v80, v81, v82, v83, v84, v85, v86, v87, v88, v89, v90, v91, v92, v93, v94, v95, v96, v97, v98, v99, v100, v101, v102, v103, v104, v105, v106, v107, v108, v109, v110, v111, v112, v113, v114, v115, v116, v117, v118, v119, v120, v121, v122, v123, v124, v125, v126, v127, v128, v129, v130, v131, v132, v133, v134], []⟩ ∧ w' = w) ⟨#[v0, v1, v2, v3, v4, .int .i64 L, v6, v7, v8, v9, v10, v11, v12, v13, v14, v15, v16, v17, v18, v19, v20, v21, v22, v23, v24, v25, v26, v27, v28, v29, v30, v31, v32, v33, v34, v35, v36, v37, v38, v39, v40, v41, v42, v43, v44, v45, v46, v47, v48, v49, v50, v51, v52, v53, v54, v55, v56, v57, v58, v59, v60, v61, v62, v63, v64, v65, v66, v67, v68, v69, v70, v71, v72, v73, v74, v75, v76, v77, v78, v79, v80, v81, v82, v83, v84, v85, v86, v87, v88, v89, v90, v91, v92, v93, v94, v95, v96, v97, v98, v99, v100, v101, v102, v103, v104, v105, v106, v107, v108, v109, v110, v111, v112, v113, v114, v115, v116, v117, v118, v119, v120, v121, v122, v123, v124, v125, v126, v127, v128, v129, v130, v131, v132, v133, v134], []⟩ w := by
  have er : rr3 = .region 3 #[_, _] false := rfl
  rw [er]
  go_wp2
theorem rr4_wp (w : World) : rr4.wp Try.prog (fun e a w' => e = .normal ∧ a = ⟨#[v0, v1, v2, v3, .bool true, v5, v6, v7, v8, v9, v10, v11, v12, v13, v14, v15, v16, v17, v18, v19, v20, v21, v22, v23, v24, v25, v26, v27, v28, v29, v30, v31, v32, v33, v34, v35, v36, v37, v38, v39, v40, v41, v42, v43, v44, v45, v46, v47, v48, v49, v50, v51, v52, v53, v54, v55, v56, v57, v58, v59, v60, v61, v62, v63, v64, v65, v66, v67, v68, v69, v70, v71, v72, v73, v74, v75, v76, v77, v78, v79, v80, v81, v82, v83, v84, v85, v86, v87, v88, v89, v90, v91, v92, v93, v94, v95, v96, v97, v98, v99, v100, v101, v102, v103, v104, v105, v106, v107, v108, v109, v110, v111, v112, v113, v114, v115, v116, v117, v118, v119, v120, v121, v122, v123, v124, v125, v126, v127, v128, v129, v130, v131, v132, v133, v134], []⟩ ∧ w' = w) ⟨#[v0, v1, v2, v3, v4, v5, v6, v7, v8, v9, v10, v11, v12, v13, v14, v15, v16, v17, v18, v19, v20, v21, v22, v23, v24, v25, v26, v27, v28, v29, v30, v31, v32, v33, v34, v35, v36, v37, v38, v39, v40, v41, v42, v43, v44, v45, v46, v47, v48, v49, v50, v51, v52, v53, v54, v55, v56, v57, v58, v59, v60, v61, v62, v63, v64, v65, v66, v67, v68, v69, v70, v71, v72, v73, v74, v75, v76, v77, v78, v79, v80, v81, v82, v83, v84, v85, v86, v87, v88, v89, v90, v91, v92, v93, v94, v95, v96, v97, v98, v99, v100, v101, v102, v103, v104, v105, v106, v107, v108, v109, v110, v111, v112, v113, v114, v115, v116, v117, v118, v119, v120, v121, v122, v123, v124, v125, v126, v127, v128, v129, v130, v131, v132, v133, v134], []⟩ w := by
  have er : rr4 = .region 4 #[_] false := rfl
  rw [er]
  go_wp2
theorem rr5_wp (w : World) (h0 : 0 ≤ L) (hl : L ≤ 1048576) (hk : (k : Int) ≤ 9223372036854775807) : rr5.wp Try.prog (fun e a w' => e = .normal ∧ a = ⟨#[v0, .slice O k co, v2, v3, v4, .int .i64 (szN L k), v6, v7, v8, v9, v10, v11, v12, v13, v14, v15, v16, v17, v18, v19, v20, v21, .slice O k co, .int .i64 L, .int .i64 (szN L k), v25, v26, v27, v28, v29, v30, v31, v32, v33, v34, v35, v36, v37, v38, v39, v40, v41, v42, v43, v44, v45, v46, v47, v48, v49, v50, v51, v52, v53, v54, v55, v56, v57, v58, v59, v60, v61, v62, v63, v64, v65, v66, v67, v68, v69, v70, v71, v72, v73, v74, v75, v76, v77, v78, v79, v80, v81, v82, v83, v84, v85, v86, v87, v88, v89, v90, v91, v92, v93, v94, v95, v96, v97, v98, v99, v100, v101, v102, v103, v104, v105, v106, v107, v108, v109, v110, v111, v112, v113, v114, v115, v116, v117, v118, v119, v120, v121, v122, v123, v124, v125, v126, v127, v128, v129, v130, v131, v132, v133, v134], []⟩ ∧ w' = w) ⟨#[v0, .slice O k co, v2, v3, v4, .int .i64 L, v6, v7, v8, v9, v10, v11, v12, v13, v14, v15, v16, v17, v18, v19, v20, v21, v22, v23, v24, v25, v26, v27, v28, v29, v30, v31, v32, v33, v34, v35, v36, v37, v38, v39, v40, v41, v42, v43, v44, v45, v46, v47, v48, v49, v50, v51, v52, v53, v54, v55, v56, v57, v58, v59, v60, v61, v62, v63, v64, v65, v66, v67, v68, v69, v70, v71, v72, v73, v74, v75, v76, v77, v78, v79, v80, v81, v82, v83, v84, v85, v86, v87, v88, v89, v90, v91, v92, v93, v94, v95, v96, v97, v98, v99, v100, v101, v102, v103, v104, v105, v106, v107, v108, v109, v110, v111, v112, v113, v114, v115, v116, v117, v118, v119, v120, v121, v122, v123, v124, v125, v126, v127, v128, v129, v130, v131, v132, v133, v134], []⟩ w := by
  have er : rr5 = .region 5 #[_, _, _, _] false := rfl
  rw [er]
  go_wp2_with fail
  refine (szBandOpS_any O k co L h0 hl hk _).mono ?_
  rintro e w1 ⟨rfl, rfl⟩
  go_wp2
theorem rr6_wp (w : World) : rr6.wp Try.prog (fun e a w' => e = .normal ∧ a = ⟨#[v0, v1, v2, v3, v4, .int .i64 L, v6, v7, v8, v9, v10, v11, v12, v13, v14, v15, v16, v17, v18, v19, v20, v21, v22, v23, v24, .int .i64 L, .bool (decide (L < 0)), v27, v28, v29, v30, v31, v32, v33, v34, v35, v36, v37, v38, v39, v40, v41, v42, v43, v44, v45, v46, v47, v48, v49, v50, v51, v52, v53, v54, v55, v56, v57, v58, v59, v60, v61, v62, v63, v64, v65, v66, v67, v68, v69, v70, v71, v72, v73, v74, v75, v76, v77, v78, v79, v80, v81, v82, v83, v84, v85, v86, v87, v88, v89, v90, v91, v92, v93, v94, v95, v96, v97, v98, v99, v100, v101, v102, v103, v104, v105, v106, v107, v108, v109, v110, v111, v112, v113, v114, v115, v116, v117, v118, v119, v120, v121, v122, v123, v124, v125, v126, v127, v128, v129, v130, v131, v132, v133, v134], []⟩ ∧ w' = w) ⟨#[v0, v1, v2, v3, v4, .int .i64 L, v6, v7, v8, v9, v10, v11, v12, v13, v14, v15, v16, v17, v18, v19, v20, v21, v22, v23, v24, v25, v26, v27, v28, v29, v30, v31, v32, v33, v34, v35, v36, v37, v38, v39, v40, v41, v42, v43, v44, v45, v46, v47, v48, v49, v50, v51, v52, v53, v54, v55, v56, v57, v58, v59, v60, v61, v62, v63, v64, v65, v66, v67, v68, v69, v70, v71, v72, v73, v74, v75, v76, v77, v78, v79, v80, v81, v82, v83, v84, v85, v86, v87, v88, v89, v90, v91, v92, v93, v94, v95, v96, v97, v98, v99, v100, v101, v102, v103, v104, v105, v106, v107, v108, v109, v110, v111, v112, v113, v114, v115, v116, v117, v118, v119, v120, v121, v122, v123, v124, v125, v126, v127, v128, v129, v130, v131, v132, v133, v134], []⟩ w := by
  have er : rr6 = .region 6 #[_, _] false := rfl
  rw [er]
  go_wp2
theorem rr7_wp (w : World) : rr7.wp Try.prog (fun e a w' => e = .normal ∧ a = ⟨#[v0, v1, v2, v3, .bool true, v5, v6, v7, v8, v9, v10, v11, v12, v13, v14, v15, v16, v17, v18, v19, v20, v21, v22, v23, v24, v25, v26, v27, v28, v29, v30, v31, v32, v33, v34, v35, v36, v37, v38, v39, v40, v41, v42, v43, v44, v45, v46, v47, v48, v49, v50, v51, v52, v53, v54, v55, v56, v57, v58, v59, v60, v61, v62, v63, v64, v65, v66, v67, v68, v69, v70, v71, v72, v73, v74, v75, v76, v77, v78, v79, v80, v81, v82, v83, v84, v85, v86, v87, v88, v89, v90, v91, v92, v93, v94, v95, v96, v97, v98, v99, v100, v101, v102, v103, v104, v105, v106, v107, v108, v109, v110, v111, v112, v113, v114, v115, v116, v117, v118, v119, v120, v121, v122, v123, v124, v125, v126, v127, v128, v129, v130, v131, v132, v133, v134], []⟩ ∧ w' = w) ⟨#[v0, v1, v2, v3, v4, v5, v6, v7, v8, v9, v10, v11, v12, v13, v14, v15, v16, v17, v18, v19, v20, v21, v22, v23, v24, v25, v26, v27, v28, v29, v30, v31, v32, v33, v34, v35, v36, v37, v38, v39, v40, v41, v42, v43, v44, v45, v46, v47, v48, v49, v50, v51, v52, v53, v54, v55, v56, v57, v58, v59, v60, v61, v62, v63, v64, v65, v66, v67, v68, v69, v70, v71, v72, v73, v74, v75, v76, v77, v78, v79, v80, v81, v82, v83, v84, v85, v86, v87, v88, v89, v90, v91, v92, v93, v94, v95, v96, v97, v98, v99, v100, v101, v102, v103, v104, v105, v106, v107, v108, v109, v110, v111, v112, v113, v114, v115, v116, v117, v118, v119, v120, v121, v122, v123, v124, v125, v126, v127, v128, v129, v130, v131, v132, v133, v134], []⟩ w := by
  have er : rr7 = .region 7 #[_] false := rfl
  rw [er]
  go_wp2
end
end

/-! ### the end -/
def EndsAt (P : Program) (Post : Value → World → Prop) (m : Machine) (t : Trace) : Prop :=
  ∃ N last o w' t', runNT P (N + 1) m t = (.ended o w', t') ∧ runN P N m = .next last ∧ step P last = .ended o w' ∧ Go.Conc.Good P Post last o w' t'
theorem ends_to {P : Program} {Post : Value → World → Prop} {S S' : Machine → Trace → Prop} (h : To P S S') (k : ∀ m t, S' m t → EndsAt P Post m t) : ∀ m t, S m t → EndsAt P Post m t := fun m t hs => by
  obtain ⟨N1, m1, t1, r1, h1⟩ := h m t hs
  obtain ⟨N, last, o, w', t', e1, e2, e3, e4⟩ := k m1 t1 h1
  refine ⟨N1 + N, last, o, w', t', ?_, ?_, e3, e4⟩
  · rw [Nat.add_assoc, runNT_add, r1]; exact e1
  · rw [runN_add, ← runNT_fst P N1 m t, r1]; exact e2
theorem EndsAt.mono {P : Program} {Post Post' : Value → World → Prop} {m : Machine} {t : Trace} (h : EndsAt P Post m t) (hp : ∀ v w, Post v w → Post' v w) : EndsAt P Post' m t := by
  obtain ⟨N, last, o, w', t', e1, e2, e3, v, e4, e5, e6⟩ := h
  exact ⟨N, last, o, w', t', e1, e2, e3, v, e4, hp _ _ e5, e6⟩

/-- The law's answer: true, and all that is older than the call is as it was. -/
def TrueKept (W : World) (v : Value) (w' : World) : Prop := v = .bool true ∧ KeptH (fun _ => False) W w'

theorem finish_true {W : World} {X : Nat → Prop} {u : World} {t : Array Value} {l : List Item} (hX : ∀ j, X j → W.heap.size ≤ j) (hk : KeptH (fun _ => False) W u) (h4 : t[4]? = some (.bool true)) :
    ∀ m tr, Fq Try.prog X u (G ((bN 3).at ⟨t, []⟩ (.code .ret :: l)) []) m tr → EndsAt Try.prog (TrueKept W) m tr := by
  refine ends_to (stay_to rfl (fun _ => stepG_ret')) fun m tr h => ?_
  have hg : t.getD 4 undef = .bool true := by simp [Array.getD_eq_getD_getElem?, h4]
  have := ret_ends (v := .bool true) Try.func3 (by kernel_rfl) (by rw [results_tmp Try.results3, hg]) h
  refine EndsAt.mono this fun v w' h => ⟨h.1, ?_⟩
  have hS := h.2
  refine ⟨hS.os.trans hk.os, hS.output.trans hk.output, by rw [hS.size]; exact hk.size, fun j hj _ => ?_⟩
  rw [hS.same j (fun hx => by have := hX j hx; omega)]
  exact hk.block j hj (fun z => z)
end Go.Bp

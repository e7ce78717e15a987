/-
  The law ahead of its first call of BandPlay, and behind its second, alone.
-/
import Derived.Test.YtfckhpkebdpkbaaPlayC4
import Derived.Test.YtfckhpkebdpkbaaPlayC5
import Derived.Deep.RegionWith
import Derived.Deep.CutRange
namespace Go.Bp
open Go Go.Conc Go.Proofs Go.RowKit Go.Proofs.Ytfckhpkebdpkbaa
section
variable {W : World} {q p s : Int} {A A' O : Option Addr} {n m c c' k co : Nat} {f : Nat → Int} {f' : Nat → Bool} {o1 o2 o3 : Nat → Int} {Q P S : Int} {N K : Nat} {F : Nat → Int} {D : Nat → Bool} {CO : Nat → Int} {QN : Act → World → Prop}
section
variable {v0 v3 v4 v5 v6 v7 v8 v9 v10 v11 v12 v13 v14 v15 v16 v17 v18 v19 v20 v21 v22 v23 v24 v25 v26 v27 v28 v29 v30 v31 v32 v33 v34 v35 v36 v37 v38 v39 v40 v41 v42 v43 v44 v45 v46 v47 v48 v49 v50 v51 v52 v53 v54 v55 v56 v57 v58 v59 v60 v61 v62 v63 v64 v65 v66 v67 v68 v69 v70 v71 v72 v73 v74 v75 v76 v77 v78 v79 v80 v81 v82 v83 v84 v85 v86 v87 v88 v89 v90 v91 v92 v93 v94 v95 v96 v97 v98 v99 v100 v101 v102 v103 v104 v105 v106 v107 v108 v109 v110 v111 v112 v113 v114 v115 v116 v117 v118 v119 v120 v121 v122 v123 v124 v125 v126 v127 v128 v129 v130 v131 v132 v133 v134 : Value}
set_option maxRecDepth 100000 in
set_option maxHeartbeats 8000000 in
theorem lawC_wp (w : World) (hn : n ≤ 1048576) (hm : m ≤ 1048576) (hk : k ≤ 1048576) (hA : Rw W W.heap.size A n fun i => .int .i64 (f i)) (hA' : Rw W W.heap.size A' m fun i => .bool (f' i)) (hO : Rs W W.heap.size O k 3 (fun i => [.int .i64 (o1 i), .int .i64 (o2 i), .int .i64 (o3 i)]))
    (hS : ∀ (x : World) (B B' R : Option Addr) (d d' e' : Nat), Rw x x.heap.size B n (fun i => .int .i64 (f i)) → Rw x x.heap.size B' m (fun i => .bool (f' i)) → Rs x x.heap.size R k 3 (fun i => [.int .i64 (o1 i), .int .i64 (o2 i), .int .i64 (o3 i)]) →
      Calls Try.prog 6 #[.agg #[.int .i64 q, .int .i64 p, .int .i64 s, .slice B n d, .slice B' m d'], .slice R k e'] x fun e w' => ∃ v, e = .returned v ∧ PV Q P S N K F D CO x.heap.size v w' ∧ Below x.heap.size x w')
    (hSA : SA W q p s A n c A' m c' w)
    (hQ : ∀ (a : Act) (w' : World) (Wl Wd Wc : Option Addr) (wl wd wc B6 G6 Xl Xd G8 X9 : Nat), a.defers = [] → a.tmps.size = 135 → a.tmps[1]? = some (.slice O k co) → a.tmps[2]? = some (.pointer (some ⟨W.heap.size, 0, none⟩)) → a.tmps[6]? = some (.pointer (some ⟨G6, 0, none⟩)) → a.tmps[7]? = some (.slice Wc K wc) → a.tmps[8]? = some (.pointer (some ⟨G8, 0, none⟩)) → a.tmps[9]? = some (.slice (some ⟨X9, 0, none⟩) k k) →
      W.heap.size < B6 → B6 ≤ G6 → G6 < Xl → Xl < Xd → Xd < G8 → G8 < X9 → X9 < w'.heap.size →
      SA W q p s A n c A' m c' w' → SG w' B6 G6 Q P S N K (fun i => .int .i64 (F i)) (fun i => .bool (D i)) (fun i => .int .i64 (CO i)) Wl wl Wd wd Wc → XC w' G8 X9 q p s Xl n Xd m k f f' o1 o2 o3 → QN a w') :
    lawC.wp Try.prog (fun e a w' => match e with | .normal => QN a w' | _ => False) ⟨#[v0, .slice O k co, .pointer (some ⟨W.heap.size, 0, none⟩), v3, v4, v5, v6, v7, v8, v9, v10, v11, v12, v13, v14, v15, v16, v17, v18, v19, v20, v21, v22, v23, v24, v25, v26, v27, v28, v29, v30, v31, v32, v33, v34, v35, v36, v37, v38, v39, v40, v41, v42, v43, v44, v45, v46, v47, v48, v49, v50, v51, v52, v53, v54, v55, v56, v57, v58, v59, v60, v61, v62, v63, v64, v65, v66, v67, v68, v69, v70, v71, v72, v73, v74, v75, v76, v77, v78, v79, v80, v81, v82, v83, v84, v85, v86, v87, v88, v89, v90, v91, v92, v93, v94, v95, v96, v97, v98, v99, v100, v101, v102, v103, v104, v105, v106, v107, v108, v109, v110, v111, v112, v113, v114, v115, v116, v117, v118, v119, v120, v121, v122, v123, v124, v125, v126, v127, v128, v129, v130, v131, v132, v133, v134], []⟩ w := by
  have er : lawC = (.seq (.region 8 #[_, _, _, _, _, _, _, _, _, _, _] false) (.seq (.region 9 #[_, _, _, _] false) (.region 10 #[_, _, _] false))) := rfl
  rw [er]
  clear er
  have SA0 := Lib.hid hSA
  have HA := Lib.hid hA
  have HA' := Lib.hid hA'
  have HO := Lib.hid hO
  have HS := Lib.hid hS
  have HQ := Lib.hid hQ
  clear hSA hA hA' hO hS hQ
  go_wp2_with (first | refine wpList_load_row rfl 25 _ rfl W.heap.size rfl 25 _ (0, 0) _ SA0.out.kb Try.underlying25 rfl (by kernel_rfl) ?_)
  refine (toBand_any q p s A A' n m c c' hn hm f f' w w (Below.refl _ _) (rwH HA.out SA0.out.kp) (rwH HA'.out SA0.out.kp)).mono ?_
  rintro e w1 ⟨g, g', rfl, hg, hg', hO1, hO1', hb⟩
  have hz1 := hb.size
  have SA1 := Lib.hid (SA0.out.go (KeptH.bel hb) (fun _ _ z => z))
  have HL := Lib.hid hO1.ownV
  have HD := Lib.hid hO1'.ownV
  have l0 := SA0.out.lt
  clear hb hO1 hO1' SA0
  go_wp2_with fail
  refine (toBandOpS_any O k co hk o1 o2 o3 w1 w1 (Below.refl _ _) (rsH HO.out SA1.out.kp)).mono ?_
  rintro e w2 ⟨rfl, ho, hb⟩
  have hz2 := hb.size
  have SA2 := Lib.hid (SA1.out.go (KeptH.bel hb) (fun _ _ z => z))
  have HL2 := Lib.hid (ownvH HL.out (KeptH.bel hb) (fun z => z))
  have HD2 := Lib.hid (ownvH HD.out (KeptH.bel hb) (fun z => z))
  have HO2 := Lib.hid ho
  clear hb ho SA1 HL HD
  go_wp2_with fail
  refine (HS.out w2 _ _ _ _ _ _ (ownV_rw HL2.out) (ownV_rw HD2.out) HO2.out.rs).mono ?_
  rintro e w3 ⟨v, rfl, ⟨Wl, wl, Wd, wd, Wc, wc, rfl, h1, h2, h3, h4, h5⟩, hb⟩
  have hz3 := hb.size
  have SA3 := Lib.hid (SA2.out.go (KeptH.bel hb) (fun _ _ z => z))
  have HV3 := Lib.hid (RV.of h1 h2 h3 h4 h5)
  clear hb h1 h2 h3 h4 h5 SA2 HL2 HD2 HO2
  have ka := (KeptH.refl (fun _ => False) w3).alloc (.cells #[.int .i64 Q, .int .i64 P, .int .i64 S, .slice Wl N wl, .slice Wd N wd] 29)
  have SA4 := Lib.hid (SA3.out.go ka (fun _ _ z => z))
  have WG4 : Hid (SG (w3.alloc (.cells #[.int .i64 Q, .int .i64 P, .int .i64 S, .slice Wl N wl, .slice Wd N wd] 29)) w2.heap.size w3.heap.size Q P S N K (fun i => .int .i64 (F i)) (fun i => .bool (D i)) (fun i => .int .i64 (CO i)) Wl wl Wd wd Wc) := Lib.hid ⟨Bk.new _ _ _, HV3.out.go ka (fun _ _ _ z => z)⟩
  clear ka
  obtain ⟨y0, y1, y2, y3, y4⟩ := SA4.out.kb.five
  go_wp2_with fail
  have hz4 : (w3.alloc (.cells #[.int .i64 Q, .int .i64 P, .int .i64 S, .slice Wl N wl, .slice Wd N wd] 29)).heap.size = w3.heap.size + 1 := by simp
  refine (toBand_any q p s A A' n m c c' hn hm f f' _ _ (Below.refl _ _) (rwH HA.out SA4.out.kp) (rwH HA'.out SA4.out.kp)).mono ?_
  clear y0 y1 y2 y3 y4
  rintro e w5 ⟨Xl, Xd, rfl, hg2, hg2', hO1, hO1', hb⟩
  have hz5 := hb.size
  have SA5 := Lib.hid (SA4.out.go (KeptH.bel hb) (fun _ _ z => z))
  have WG5 := Lib.hid (WG4.out.go (KeptH.bel hb) (by omega) (fun _ _ _ z => z))
  have HL5 := Lib.hid hO1.ownV
  have HD5 := Lib.hid hO1'.ownV
  have hlt5 := hO1'.ownV.1
  clear hb hO1 hO1' SA4 WG4
  have ka := (KeptH.refl (fun _ => False) w5).alloc (.cells #[.int .i64 q, .int .i64 p, .int .i64 s, .slice (some ⟨Xl, 0, none⟩) n n, .slice (some ⟨Xd, 0, none⟩) m m] 29)
  have SA6 := Lib.hid (SA5.out.go ka (fun _ _ z => z))
  have WG6 := Lib.hid (WG5.out.go ka (by omega) (fun _ _ _ z => z))
  have HL6 := Lib.hid (ownvH HL5.out ka (fun z => z))
  have HD6 := Lib.hid (ownvH HD5.out ka (fun z => z))
  have KX6 := Lib.hid (Bk.new w5 29 #[.int .i64 q, .int .i64 p, .int .i64 s, .slice (some ⟨Xl, 0, none⟩) n n, .slice (some ⟨Xd, 0, none⟩) m m])
  have hz6 : (w5.alloc (.cells #[.int .i64 q, .int .i64 p, .int .i64 s, .slice (some ⟨Xl, 0, none⟩) n n, .slice (some ⟨Xd, 0, none⟩) m m] 29)).heap.size = w5.heap.size + 1 := by simp
  clear ka SA5 WG5 HL5 HD5
  go_wp2_with fail
  refine (toBandOpS_any O k co hk o1 o2 o3 _ _ (Below.refl _ _) (rsH HO.out SA6.out.kp)).mono ?_
  rintro e w7 ⟨rfl, ho, hb⟩
  rw [hz6] at ho
  have hz7 := ho.1
  have SA7 := Lib.hid (SA6.out.go (KeptH.bel hb) (fun _ _ z => z))
  have WG7 := Lib.hid (WG6.out.go (KeptH.bel hb) (by omega) (fun _ _ _ z => z))
  have HX7 : Hid (XC w7 w5.heap.size _ q p s Xl n Xd m k f f' o1 o2 o3) := Lib.hid ⟨bkH KX6.out (KeptH.bel hb) (fun z => z), ownvH HL6.out (KeptH.bel hb) (fun z => z), ownvH HD6.out (KeptH.bel hb) (fun z => z), ho⟩
  clear hb ho SA6 WG6 HL6 HD6 KX6
  go_wp2_with fail
  exact HQ.out _ _ Wl Wd Wc wl wd wc w2.heap.size w3.heap.size Xl Xd w5.heap.size _ rfl rfl rfl rfl rfl rfl rfl rfl (by omega) (by omega) (by omega) (by omega) (by omega) (by omega) (by omega) SA7.out WG7.out HX7.out
end
section
variable {Wl Wd Wc Gl Gd Gc Hl Hd Hc : Option Addr} {wl wd wc gl gd gc hl hd' hc B6 G6 B10 G10 B15 G15 : Nat} {v0 v3 v4 v5 v8 v9 v12 v14 v17 v18 v19 v20 v21 v22 v23 v24 v25 v26 v27 v28 v29 v30 v31 v32 v33 v34 v35 v36 v37 v38 v39 v40 v41 v42 v43 v44 v45 v46 v47 v48 v49 v50 v51 v52 v53 v54 v55 v56 v57 v58 v59 v60 v61 v62 v63 v64 v65 v66 v67 v68 v69 v70 v71 v72 v73 v74 v75 v76 v77 v78 v79 v80 v81 v82 v83 v84 v85 v86 v87 v88 v89 v90 v91 v92 v93 v94 v95 v96 v97 v98 v99 v100 v101 v102 v103 v104 v105 v106 v107 v108 v109 v110 v111 v112 v113 v114 v115 v116 v117 v118 v119 v120 v121 v122 v123 v124 v125 v126 v127 v128 v129 v130 v131 v132 v133 v134 : Value}
set_option maxRecDepth 100000 in
set_option maxHeartbeats 8000000 in
theorem lawG_wp (w : World) (hN : N ≤ 1048576) (hK : K ≤ 1048576) (b1 : B6 ≤ G6) (b2 : B10 ≤ G10) (b3 : B15 ≤ G15)
    (hSA : SA W q p s A n c A' m c' w) (hW : SG w B6 G6 Q P S N K (fun i => .int .i64 (F i)) (fun i => .bool (D i)) (fun i => .int .i64 (CO i)) Wl wl Wd wd Wc) (hG : SG w B10 G10 Q P S N K (fun i => markVIntS (1 + i)) (fun i => markVBoolS (1 + N + i)) (fun i => markVIntS (1 + N + N + i)) Gl gl Gd gd Gc) (hH : SG w B15 G15 Q P S N K (fun i => .int .i64 (F i)) (fun i => .bool (D i)) (fun i => .int .i64 (CO i)) Hl hl Hd hd' Hc)
    (hQ : ∀ (a : Act) (w' : World), a.defers = [] → a.tmps.size = 135 → a.tmps[4]? = some (.bool true) → SA W q p s A n c A' m c' w' → QN a w') :
    lawG.wp Try.prog (fun e a w' => match e with | .normal => QN a w' | _ => False) ⟨#[v0, .slice O k co, .pointer (some ⟨W.heap.size, 0, none⟩), v3, v4, v5, .pointer (some ⟨G6, 0, none⟩), .slice Wc K wc, v8, v9, .pointer (some ⟨G10, 0, none⟩), .slice Gc K gc, v12, .int .i64 (1 + N + N + K), v14, .pointer (some ⟨G15, 0, none⟩), .slice Hc K hc, v17, v18, v19, v20, v21, v22, v23, v24, v25, v26, v27, v28, v29, v30, v31, v32, v33, v34, v35, v36, v37, v38, v39, v40, v41, v42, v43, v44, v45, v46, v47, v48, v49, v50, v51, v52, v53, v54, v55, v56, v57, v58, v59, v60, v61, v62, v63, v64, v65, v66, v67, v68, v69, v70, v71, v72, v73, v74, v75, v76, v77, v78, v79, v80, v81, v82, v83, v84, v85, v86, v87, v88, v89, v90, v91, v92, v93, v94, v95, v96, v97, v98, v99, v100, v101, v102, v103, v104, v105, v106, v107, v108, v109, v110, v111, v112, v113, v114, v115, v116, v117, v118, v119, v120, v121, v122, v123, v124, v125, v126, v127, v128, v129, v130, v131, v132, v133, v134], []⟩ w := by
  have er : lawG = (.seq (.seq (.region 36 #[_, _, _, _, _, _, _, _, _, _] false) (.cond (.tmp 121) (.seq (.region 37 #[_] false) .ret) .skip)) (.seq (.region 38 #[_] false) (.seq (.region 39 #[_, _, _, _] false) (.seq (.seq (.region 40 #[_, _] false) (.cond (.tmp 126) (.seq (.region 41 #[_] false) .ret) .skip)) (.seq (.region 42 #[_, _, _, _] false) (.seq (.seq (.region 43 #[_, _] false) (.cond (.tmp 131) (.seq (.region 44 #[_] false) .ret) .skip)) (.seq (.seq (.region 45 #[_, _, _] false) (.cond (.tmp 134) (.seq (.region 46 #[_] false) .ret) .skip)) (.region 47 #[_] false)))))))) := rfl
  rw [er]
  clear er
  have SA0 := Lib.hid hSA
  have WG0 := Lib.hid hW
  have GG0 := Lib.hid hG
  have HH := Lib.hid hH
  have HQ := Lib.hid hQ
  clear hSA hW hG hH hQ
  obtain ⟨a0, a1, a2, a3, a4⟩ := HH.out.k.five
  obtain ⟨e0, e1, e2, e3, e4⟩ := WG0.out.k.five
  go_wp2_with fail
  refine (eqBand_t Q P S _ _ _ _ N N _ _ _ _ hN hN F D _ w (Below.refl _ _) HH.out.r.l.rw_ HH.out.r.d.rw_ WG0.out.r.l.rw_ WG0.out.r.d.rw_).mono ?_
  rintro e w1 ⟨rfl, hb⟩
  clear a0 a1 a2 a3 a4 e0 e1 e2 e3 e4
  have SA1 := Lib.hid (SA0.out.go (KeptH.bel hb) (fun _ _ z => z))
  have WG1 := Lib.hid (WG0.out.go (KeptH.bel hb) (by omega) (fun _ _ _ z => z))
  have GG1 := Lib.hid (GG0.out.go (KeptH.bel hb) (by omega) (fun _ _ _ z => z))
  have HH1 := Lib.hid (HH.out.go (KeptH.bel hb) (by omega) (fun _ _ _ z => z))
  clear hb SA0 WG0 GG0 HH
  go_wp2_with fail
  refine (eqIntS_t _ _ K _ _ hK CO _ w1 (Below.refl _ _) HH1.out.r.c.rw_ WG1.out.r.c.rw_).mono ?_
  rintro e w2 ⟨rfl, hb⟩
  have SA2 := Lib.hid (SA1.out.go (KeptH.bel hb) (fun _ _ z => z))
  have GG2 := Lib.hid (GG1.out.go (KeptH.bel hb) (by omega) (fun _ _ _ z => z))
  clear hb SA1 WG1 GG1 HH1
  go_wp2_with (first | refine wpList_load_row rfl 29 _ rfl G10 rfl 29 _ (0, 0) _ GG2.out.k Try.underlying29 rfl (by kernel_rfl) ?_)
  refine (heldBand_any Q P S Gl Gd N gl gd 1 (by omega) (by omega) hN w2 w2 (Below.refl _ _) GG2.out.r.l.rw_ GG2.out.r.d.rw_).mono ?_
  rintro e w3 ⟨rfl, hb⟩
  have SA3 := Lib.hid (SA2.out.go (KeptH.bel hb) (fun _ _ z => z))
  have GG3 := Lib.hid (GG2.out.go (KeptH.bel hb) (by omega) (fun _ _ _ z => z))
  clear hb SA2 GG2
  have hm2 : ¬ (1 : Int) + N + N < 0 := by omega
  go_wp2_with fail
  refine (heldIntS_any Gc K gc (1 + N + N) (by omega) (by omega) hK w3 w3 (Below.refl _ _) GG3.out.r.c.rw_).mono ?_
  rintro e w4 ⟨rfl, rfl⟩
  have hm3 : ¬ (1 : Int) + N + N + K < 0 := by omega
  go_wp2_with fail
  exact HQ.out _ _ rfl rfl rfl SA3.out
end
end
end Go.Bp

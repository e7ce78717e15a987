/-
  The law between its two calls of BandPlay, alone.
-/
import Derived.Test.YtfckhpkebdpkbaaPlayC4
import Derived.Test.YtfckhpkebdpkbaaPlayC5
import Derived.Deep.RegionWith
import Derived.Deep.CutRange
namespace Go.Bp
open Go Go.Conc Go.Proofs Go.RowKit Go.Proofs.Ytfckhpkebdpkbaa
theorem xAlloc {a b : World} (h : Below a.heap.size a b) (o : Obj) : Below a.heap.size a (b.alloc o) := h.alloc h.size o
theorem xDrew {a b : World} (h : Below a.heap.size a b) : Below a.heap.size a b.drew := h.drew
section
variable {W : World} {q p s : Int} {A A' O : Option Addr} {n m c c' k co : Nat} {f : Nat → Int} {f' : Nat → Bool} {o1 o2 o3 : Nat → Int} {Q P S : Int} {N K : Nat} {F : Nat → Int} {D : Nat → Bool} {CO : Nat → Int}
  {Wl Wd Wc Gl Gd Gc : Option Addr} {wl wd wc gl gd gc B6 G6 Xl Xd G8 X9 B10 G10 : Nat} {QN : Act → World → Prop} {v0 v3 v4 v5 v12 v13 v14 v15 v16 v17 v18 v19 v20 v21 v22 v23 v24 v25 v26 v27 v28 v29 v30 v31 v32 v33 v34 v35 v36 v37 v38 v39 v40 v41 v42 v43 v44 v45 v46 v47 v48 v49 v50 v51 v52 v53 v54 v55 v56 v57 v58 v59 v60 v61 v62 v63 v64 v65 v66 v67 v68 v69 v70 v71 v72 v73 v74 v75 v76 v77 v78 v79 v80 v81 v82 v83 v84 v85 v86 v87 v88 v89 v90 v91 v92 v93 v94 v95 v96 v97 v98 v99 v100 v101 v102 v103 v104 v105 v106 v107 v108 v109 v110 v111 v112 v113 v114 v115 v116 v117 v118 v119 v120 v121 v122 v123 v124 v125 v126 v127 v128 v129 v130 v131 v132 v133 v134 : Value}
set_option maxRecDepth 100000 in
set_option maxHeartbeats 8000000 in
theorem lawB_wp (w : World) (hn : n ≤ 1048576) (hm : m ≤ 1048576) (hk : k ≤ 1048576) (_hnm : n + m + k ≤ 1048576) (hN : N ≤ 1048576) (hK : K ≤ 1048576) (hA : Rw W W.heap.size A n fun i => .int .i64 (f i)) (hA' : Rw W W.heap.size A' m fun i => .bool (f' i)) (hO : Rs W W.heap.size O k 3 (fun i => [.int .i64 (o1 i), .int .i64 (o2 i), .int .i64 (o3 i)]))
    (b1 : W.heap.size < B6) (b2 : B6 ≤ G6) (b3 : G6 < Xl) (b4 : Xl < Xd) (b5 : Xd < G8) (b6 : G8 < X9) (b7 : X9 < B10) (b8 : B10 ≤ G10)
    (hSA : SA W q p s A n c A' m c' w) (hW : SG w B6 G6 Q P S N K (fun i => .int .i64 (F i)) (fun i => .bool (D i)) (fun i => .int .i64 (CO i)) Wl wl Wd wd Wc) (hX : XC w G8 X9 q p s Xl n Xd m k f f' o1 o2 o3)
    (hG : SG w B10 G10 Q P S N K (fun i => .int .i64 (F i)) (fun i => .bool (D i)) (fun i => .int .i64 (CO i)) Gl gl Gd gd Gc)
    (hQ : ∀ (a : Act) (w' : World), a.defers = [] → a.tmps.size = 135 → a.tmps[1]? = some (.slice O k co) → a.tmps[2]? = some (.pointer (some ⟨W.heap.size, 0, none⟩)) → a.tmps[6]? = some (.pointer (some ⟨G6, 0, none⟩)) → a.tmps[7]? = some (.slice Wc K wc) → a.tmps[10]? = some (.pointer (some ⟨G10, 0, none⟩)) → a.tmps[11]? = some (.slice Gc K gc) → a.tmps[13]? = some (.int .i64 (1 + N + N + K)) →
      SA W q p s A n c A' m c' w' → SG w' B6 G6 Q P S N K (fun i => .int .i64 (F i)) (fun i => .bool (D i)) (fun i => .int .i64 (CO i)) Wl wl Wd wd Wc → SG w' B10 G10 Q P S N K (fun i => markVIntS (1 + i)) (fun i => markVBoolS (1 + N + i)) (fun i => markVIntS (1 + N + N + i)) Gl gl Gd gd Gc → QN a w') :
    lawB.wp Try.prog (fun e a w' => match e with | .normal => QN a w' | _ => False) ⟨#[v0, .slice O k co, .pointer (some ⟨W.heap.size, 0, none⟩), v3, v4, v5, .pointer (some ⟨G6, 0, none⟩), .slice Wc K wc, .pointer (some ⟨G8, 0, none⟩), .slice (some ⟨X9, 0, none⟩) k k, .pointer (some ⟨G10, 0, none⟩), .slice Gc K gc, v12, v13, v14, v15, v16, v17, v18, v19, v20, v21, v22, v23, v24, v25, v26, v27, v28, v29, v30, v31, v32, v33, v34, v35, v36, v37, v38, v39, v40, v41, v42, v43, v44, v45, v46, v47, v48, v49, v50, v51, v52, v53, v54, v55, v56, v57, v58, v59, v60, v61, v62, v63, v64, v65, v66, v67, v68, v69, v70, v71, v72, v73, v74, v75, v76, v77, v78, v79, v80, v81, v82, v83, v84, v85, v86, v87, v88, v89, v90, v91, v92, v93, v94, v95, v96, v97, v98, v99, v100, v101, v102, v103, v104, v105, v106, v107, v108, v109, v110, v111, v112, v113, v114, v115, v116, v117, v118, v119, v120, v121, v122, v123, v124, v125, v126, v127, v128, v129, v130, v131, v132, v133, v134], []⟩ w := by
  have er : lawB = (.seq (.seq (.region 12 #[_, _, _, _, _, _, _, _, _, _] false) (.cond (.tmp 54) (.seq (.region 13 #[_] false) .ret) .skip)) (.seq (.seq (.region 14 #[_, _, _, _, _] true) (.cond (.tmp 59) (.seq (.region 15 #[_] false) .ret) .skip)) (.seq (.seq (.region 16 #[_, _, _, _, _] false) (.cond (.tmp 64) (.seq (.region 17 #[_] false) .ret) .skip)) (.seq (.region 18 #[_] false) (.seq (.region 19 #[_, _, _, _] false) (.seq (.region 20 #[_, _, _, _] false) (.seq (.seq (.region 21 #[_, _, _, _, _, _, _, _, _, _, _, _, _, _] false) (.cond (.tmp 84) (.seq (.region 22 #[_] false) .ret) .skip)) (.seq (.region 23 #[_] false) (.seq (.region 24 #[_, _, _, _] false) (.seq (.region 25 #[_, _, _, _] false) (.seq (.region 26 #[_] false) (.seq (.region 27 #[_, _, _, _] false) (.seq (.seq (.region 28 #[_, _] false) (.cond (.tmp 95) (.seq (.region 29 #[_] false) .ret) .skip)) (.seq (.region 30 #[_, _, _, _] false) (.seq (.seq (.region 31 #[_, _] false) (.cond (.tmp 100) (.seq (.region 32 #[_] false) .ret) .skip)) (.seq (.region 33 #[_, _, _] false) (.cond (.tmp 103) (.seq (.region 34 #[_] false) .ret) .skip))))))))))))))))) := rfl
  rw [er]
  clear er
  have SA0 := Lib.hid hSA
  have WG0 := Lib.hid hW
  have XC0 := Lib.hid hX
  have GG0 := Lib.hid hG
  have HA := Lib.hid hA
  have HA' := Lib.hid hA'
  have HO := Lib.hid hO
  have HQ := Lib.hid hQ
  clear hSA hW hX hG hA hA' hO hQ
  obtain ⟨a0, a1, a2, a3, a4⟩ := GG0.out.k.five
  obtain ⟨e0, e1, e2, e3, e4⟩ := WG0.out.k.five
  go_wp2_with fail
  refine (eqBand_t Q P S _ _ _ _ N N _ _ _ _ hN hN F D _ w (Below.refl _ _) GG0.out.r.l.rw_ GG0.out.r.d.rw_ WG0.out.r.l.rw_ WG0.out.r.d.rw_).mono ?_
  rintro e w1 ⟨rfl, hb⟩
  clear a0 a1 a2 a3 a4 e0 e1 e2 e3 e4
  have SA1 := Lib.hid (SA0.out.go (KeptH.bel hb) (fun _ _ z => z))
  have WG1 := Lib.hid (WG0.out.go (KeptH.bel hb) (by omega) (fun _ _ _ z => z))
  have XC1 := Lib.hid (XC0.out.all (KeptH.bel hb))
  have GG1 := Lib.hid (GG0.out.go (KeptH.bel hb) (by omega) (fun _ _ _ z => z))
  clear hb SA0 WG0 XC0 GG0
  go_wp2_with fail
  refine (eqIntS_t _ _ K _ _ hK CO _ w1 (Below.refl _ _) GG1.out.r.c.rw_ WG1.out.r.c.rw_).mono ?_
  rintro e w2 ⟨rfl, hb⟩
  have SA2 := Lib.hid (SA1.out.go (KeptH.bel hb) (fun _ _ z => z))
  have WG2 := Lib.hid (WG1.out.go (KeptH.bel hb) (by omega) (fun _ _ _ z => z))
  have XC2 := Lib.hid (XC1.out.all (KeptH.bel hb))
  have GG2 := Lib.hid (GG1.out.go (KeptH.bel hb) (by omega) (fun _ _ _ z => z))
  clear hb SA1 WG1 XC1 GG1
  go_upto_region 14 with fail
  go_cut [59] from 55 to 58 (fun a wx => a = .bool false ∧ Below w2.heap.size w2 wx)
  case first =>
    obtain ⟨y0, y1, y2, y3, y4⟩ := SA2.out.kb.five
    obtain ⟨z0, z1, z2, z3, z4⟩ := XC2.out.kb.five
    have RA2 := Lib.hid (rwH HA.out SA2.out.kp)
    have RA2' := Lib.hid (rwH HA'.out SA2.out.kp)
    go_region_with (first
      | (go_at_call 7; refine (toBand_any q p s A A' n m c c' hn hm f f' _ w2 (by repeat (first | with_reducible exact Below.refl _ _ | refine xAlloc ?_ _ | with_reducible refine xDrew ?_ | with_reducible refine bel ?_ hbE | with_reducible refine bel ?_ hbT)) RA2.out RA2'.out).mono ?_; rintro e wT ⟨ga, ga', rfl, hga, hga', hO, hO', hbT⟩; have HT : Below w2.heap.size w2 wT := (by repeat (first | with_reducible exact Below.refl _ _ | refine xAlloc ?_ _ | with_reducible refine xDrew ?_ | with_reducible refine bel ?_ hbE | with_reducible refine bel ?_ hbT)); have HO1 := Lib.hid hO.rw_; have HO1' := Lib.hid hO'.rw_; have kT := XC2.out.kb.below HT XC2.out.kb.lt; obtain ⟨_, _, _, _, _⟩ := kT.five; clear kT hO hO')
      | (go_at_call 10; refine (eqBand_t q p s _ _ _ _ n m _ _ _ _ hn hm f f' _ wT (Below.refl _ _) ((ownV_rw XC2.out.l).at_ HT) ((ownV_rw XC2.out.d).at_ HT) HO1.out HO1'.out).mono ?_; rintro e wE ⟨rfl, hbE⟩))
    all_goals
      go_wp2_with fail
      go_meet
      exact ⟨rfl, bel HT hbE⟩
  case rest =>
    rename World => w3
    obtain ⟨rfl, hb⟩ := hcut
    have SA3 := Lib.hid (SA2.out.go (KeptH.bel hb) (fun _ _ z => z))
    have WG3 := Lib.hid (WG2.out.go (KeptH.bel hb) (by omega) (fun _ _ _ z => z))
    have XC3 := Lib.hid (XC2.out.all (KeptH.bel hb))
    have GG3 := Lib.hid (GG2.out.go (KeptH.bel hb) (by omega) (fun _ _ _ z => z))
    clear hb SA2 WG2 XC2 GG2
    go_wp2_with fail
    refine (toBandOpS_any O k co hk o1 o2 o3 w3 w3 (Below.refl _ _) (rsH HO.out SA3.out.kp)).mono ?_
    rintro e w4 ⟨rfl, ho, hb⟩
    have HO4 := Lib.hid ho
    have SA4 := Lib.hid (SA3.out.go (KeptH.bel hb) (fun _ _ z => z))
    have WG4 := Lib.hid (WG3.out.go (KeptH.bel hb) (by omega) (fun _ _ _ z => z))
    have XC4 := Lib.hid (XC3.out.all (KeptH.bel hb))
    have GG4 := Lib.hid (GG3.out.go (KeptH.bel hb) (by omega) (fun _ _ _ z => z))
    clear hb ho SA3 WG3 XC3 GG3
    go_wp2_with fail
    refine (eqBandOpS_t _ _ k _ _ hk o1 o2 o3 w4 w4 (Below.refl _ _) XC4.out.o.rs HO4.out.rs).mono ?_
    rintro e w5 ⟨rfl, hb⟩
    have SA5 := Lib.hid (SA4.out.go (KeptH.bel hb) (fun _ _ z => z))
    have WG5 := Lib.hid (WG4.out.go (KeptH.bel hb) (by omega) (fun _ _ _ z => z))
    have XC5 := Lib.hid (XC4.out.all (KeptH.bel hb))
    have GG5 := Lib.hid (GG4.out.go (KeptH.bel hb) (by omega) (fun _ _ _ z => z))
    clear hb HO4 SA4 WG4 XC4 GG4
    go_wp2_with (first | refine wpList_load_row rfl 29 _ rfl G8 rfl 29 _ (0, 0) _ XC5.out.kb Try.underlying29 rfl (by kernel_rfl) ?_)
    refine (markBand3_any q p s _ _ n m n m Xl 1 (by omega) (by omega) hn hm _ _ w5 ⟨fun _ => ⟨Xl, rfl, Nat.le_refl _, XC5.out.l⟩, fun _ => ⟨Xd, rfl, by omega, XC5.out.d⟩, fun x h1 h2 => by have e1 := hd_some h1; have e2 := hd_some h2; omega⟩).mono ?_
    rintro e w6 ⟨rfl, hkk⟩
    have hp6 : ∀ x, hd3 Xl (some ⟨Xl, 0, none⟩) (some ⟨Xd, 0, none⟩) n m x → x = Xl ∨ x = Xd := fun x h => h.hd.imp hd_some hd_some
    have SA6 := Lib.hid (SA5.out.go (KeptH.ofK hkk) (fun x hx h => by have := hp6 x h; omega))
    have WG6 := Lib.hid (WG5.out.go (KeptH.ofK hkk) (by omega) (fun x _ hx h => by have := hp6 x h; omega))
    have XO6 := Lib.hid (ownsH XC5.out.o (KeptH.ofK hkk) (fun h => by have := hp6 _ h; omega))
    have GG6 := Lib.hid (GG5.out.go (KeptH.ofK hkk) (by omega) (fun x hx _ h => by have := hp6 x h; omega))
    clear hkk hp6 SA5 WG5 XC5 GG5
    have hk1 : (1 : Int) + n + m ≤ 1000000000 := by omega
    go_wp2_with fail
    refine (markBandOpS_any _ k k X9 (1 + n + m) (by omega) (by omega) hk _ (fun i => rfl) w6 (fun _ => ⟨X9, rfl, Nat.le_refl _, XO6.out⟩)).mono ?_
    rintro e w7 ⟨rfl, hkk, _⟩
    have hp7 : ∀ x, (0 < k ∧ X9 ≤ x ∧ hd (some ⟨X9, 0, none⟩) x) → x = X9 := fun x h => hd_some h.2.2
    have SA7 := Lib.hid (SA6.out.go (KeptH.ofK hkk) (fun x hx h => by have := hp7 x h; omega))
    have WG7 := Lib.hid (WG6.out.go (KeptH.ofK hkk) (by omega) (fun x _ hx h => by have := hp7 x h; omega))
    have GG7 := Lib.hid (GG6.out.go (KeptH.ofK hkk) (by omega) (fun x hx _ h => by have := hp7 x h; omega))
    clear hkk hp7 SA6 WG6 XO6 GG6
    have hm1 : ¬ (1 : Int) + n + m + 3 * k < 0 := by omega
    obtain ⟨a0, a1, a2, a3, a4⟩ := GG7.out.k.five
    obtain ⟨e0, e1, e2, e3, e4⟩ := WG7.out.k.five
    go_wp2_with fail
    refine (eqBand_t Q P S _ _ _ _ N N _ _ _ _ hN hN F D _ w7 (Below.refl _ _) GG7.out.r.l.rw_ GG7.out.r.d.rw_ WG7.out.r.l.rw_ WG7.out.r.d.rw_).mono ?_
    rintro e w8 ⟨rfl, hb⟩
    clear a0 a1 a2 a3 a4 e0 e1 e2 e3 e4
    have SA8 := Lib.hid (SA7.out.go (KeptH.bel hb) (fun _ _ z => z))
    have WG8 := Lib.hid (WG7.out.go (KeptH.bel hb) (by omega) (fun _ _ _ z => z))
    have GG8 := Lib.hid (GG7.out.go (KeptH.bel hb) (by omega) (fun _ _ _ z => z))
    clear hb SA7 WG7 GG7
    go_wp2_with fail
    refine (eqIntS_t _ _ K _ _ hK CO _ w8 (Below.refl _ _) GG8.out.r.c.rw_ WG8.out.r.c.rw_).mono ?_
    rintro e w9 ⟨rfl, hb⟩
    have SA9 := Lib.hid (SA8.out.go (KeptH.bel hb) (fun _ _ z => z))
    have WG9 := Lib.hid (WG8.out.go (KeptH.bel hb) (by omega) (fun _ _ _ z => z))
    have GG9 := Lib.hid (GG8.out.go (KeptH.bel hb) (by omega) (fun _ _ _ z => z))
    clear hb SA8 WG8 GG8
    go_wp2_with (first | refine wpList_load_row rfl 29 _ rfl G10 rfl 29 _ (0, 0) _ GG9.out.k Try.underlying29 rfl (by kernel_rfl) ?_)
    refine (markBand_any Q P S Gl Gd N gl gd B10 1 (by omega) (by omega) hN _ _ w9 ⟨GG9.out.r.l, GG9.out.r.d, GG9.out.r.s1⟩).mono ?_
    rintro e w10 ⟨rfl, hkk, ho⟩
    have SA10 := Lib.hid (SA9.out.go (KeptH.ofK hkk) (fun x hx h => by have := h.2.1; omega))
    have WG10 := Lib.hid (WG9.out.go (KeptH.ofK hkk) (by omega) (fun x _ hx h => by have := h.2.1; omega))
    have KG10 := Lib.hid (bkH GG9.out.k (KeptH.ofK hkk) (fun h => by rcases h.2.2 with z | z; exact absurd (GG9.out.r.bl h.1 _ z) (by omega); exact absurd (GG9.out.r.bd h.1 _ z) (by omega)))
    have RC10 := Lib.hid (ownrH GG9.out.r.c (KeptH.ofK hkk) (fun hK0 x _ hh h => by have := GG9.out.r.s2 h.1 hK0 x hh; exact h.2.2.elim this.1 this.2))
    have RM10 := Lib.hid ho
    have GR := Lib.hid GG9.out.r
    clear hkk ho SA9 WG9 GG9
    go_wp2_with fail
    refine (markIntS_any Gc K gc B10 (1 + N + N) (by omega) (by omega) hK _ w10 RC10.out).mono ?_
    rintro e w11 ⟨rfl, hkk, ho⟩
    have SA11 := Lib.hid (SA10.out.go (KeptH.ofK hkk) (fun x hx h => by have := h.2.1; omega))
    have WG11 := Lib.hid (WG10.out.go (KeptH.ofK hkk) (by omega) (fun x _ hx h => by have := h.2.1; omega))
    have hg11 : SG w11 B10 G10 Q P S N K (fun i => markVIntS (1 + i)) (fun i => markVBoolS (1 + N + i)) (fun i => markVIntS (1 + N + N + i)) Gl gl Gd gd Gc :=
      ⟨bkH KG10.out (KeptH.ofK hkk) (fun h => absurd (GR.out.bc h.1 _ h.2.2) (by omega)), ⟨ownrH RM10.out.1 (KeptH.ofK hkk) (fun hN0 x _ hh h => (GR.out.s2 hN0 h.1 x h.2.2).1 hh), ownrH RM10.out.2.1 (KeptH.ofK hkk) (fun hN0 x _ hh h => (GR.out.s2 hN0 h.1 x h.2.2).2 hh), ho, GR.out.bl, GR.out.bd, GR.out.bc, GR.out.s1, GR.out.s2⟩⟩
    have GG11 := Lib.hid hg11
    clear hkk ho hg11 SA10 WG10 KG10 RC10 RM10 GR
    go_wp2_with (first | refine wpList_load_row rfl 29 _ rfl G10 rfl 29 _ (0, 0) _ GG11.out.k Try.underlying29 rfl (by kernel_rfl) ?_)
    refine (heldBand_any Q P S Gl Gd N gl gd 1 (by omega) (by omega) hN w11 w11 (Below.refl _ _) GG11.out.r.l.rw_ GG11.out.r.d.rw_).mono ?_
    rintro e w12 ⟨rfl, hb⟩
    have SA12 := Lib.hid (SA11.out.go (KeptH.bel hb) (fun _ _ z => z))
    have WG12 := Lib.hid (WG11.out.go (KeptH.bel hb) (by omega) (fun _ _ _ z => z))
    have GG12 := Lib.hid (GG11.out.go (KeptH.bel hb) (by omega) (fun _ _ _ z => z))
    clear hb SA11 WG11 GG11
    have hm2 : ¬ (1 : Int) + N + N < 0 := by omega
    go_wp2_with fail
    refine (heldIntS_any Gc K gc (1 + N + N) (by omega) (by omega) hK w12 w12 (Below.refl _ _) GG12.out.r.c.rw_).mono ?_
    rintro e w13 ⟨rfl, rfl⟩
    have hm3 : ¬ (1 : Int) + N + N + K < 0 := by omega
    go_wp2_with fail
    exact HQ.out _ _ rfl rfl rfl rfl rfl rfl rfl rfl rfl SA12.out WG12.out GG12.out
end
end Go.Bp

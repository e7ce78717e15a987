/- Trees: the program's nodes, walked. -/
import Derived.Test.YtndbmeedimhohaaGreatFCE
import Derived.Deep.CutRange
namespace Go.Proofs.YtndbmeedimhohaaGreat
open Go.RowKit Go.Maps
theorem LinkS.below {w w' W : World} {ab mb : Nat} {nb : Nat → Nat} {us : Nat → Bool} {pa : Nat → Int} {nm : Nat → ByteArray} {k : Nat} {D : DataW Unit} (h : LinkS w W ab mb nb us pa nm k D) (hb : Below w.heap.size w w') : LinkS w' W ab mb nb us pa nm k D := by
  have hm := h.mp.lt
  refine ⟨h.all.same (hb.block _ h.all.1) hb.size, h.nd.below hb (fun i hi hui => by have := h.sep i hi hui; omega), h.mp.kept (row := none) ⟨hb.os, hb.tape, hb.output, hb.size, fun i hi _ => hb.block i hi⟩ (by simp), h.ks, h.sep, h.up, h.bel.trans (hb.mono h.bel.size), h.ge, h.mlt⟩
theorem linkB_unused {ok : ByteArray → Bool} {u : Nat → Bool} {p : Nat → Int} {nm : Nat → ByteArray} {n g : Nat} (h : u g = false) : linkB ok u p nm n g = true := by simp [linkB, h]
theorem linkB_name {ok : ByteArray → Bool} {u : Nat → Bool} {p : Nat → Int} {nm : Nat → ByteArray} {n g : Nat} (hu : u g = true) (h : ok (nm g) = false) : linkB ok u p nm n g = false := by simp [linkB, hu, h]
theorem linkB_up {ok : ByteArray → Bool} {u : Nat → Bool} {p : Nat → Int} {nm : Nat → ByteArray} {n g : Nat} (hu : u g = true) (h : usedB u n (p g) = false) : linkB ok u p nm n g = false := by simp [linkB, hu, h]
theorem linkB_twin {ok : ByteArray → Bool} {u : Nat → Bool} {p : Nat → Int} {nm : Nat → ByteArray} {n g : Nat} (hu : u g = true) (h : twinB u p nm g = true) : linkB ok u p nm n g = false := by simp [linkB, hu, h]
theorem linkB_good {ok : ByteArray → Bool} {u : Nat → Bool} {p : Nat → Int} {nm : Nat → ByteArray} {n g : Nat} (h1 : ok (nm g) = true) (h2 : usedB u n (p g) = true) (h3 : twinB u p nm g = false) : linkB ok u p nm n g = true := by simp [linkB, h1, h2, h3]
theorem make_nodes (w : World) : (Instr.makeSlice 108 (.int .i64 8) (.int .i64 8)).run Tryz.prog w = .ok (.slice (some ⟨w.heap.size, 0, none⟩) 8 8) (w.alloc (.cells (madeCells #[.pointer none] 8) 123)) := by
  have hinfo : (Tryz.prog.info? 123).map (fun i => (i.zero, i.size, i.bytes)) = some (some (.pointer none), 1, 8) := by kernel_rfl
  obtain ⟨i0, hi, hz0, hz1, hz2⟩ := info_parts hinfo
  have := run_make (P := Tryz.prog) w 108 123 i0 _ Tryz.underlying108 hi hz0 .i64 .i64 8 8 (by omega) (by omega) (by
    rw [hz2]
    omega) (by omega)
  rw [hz1] at this
  simpa [Value.cells] using this
theorem MadeS.start (w : World) (us : Nat → Bool) (nm : Nat → ByteArray) : MadeS (w.alloc (.cells (madeCells #[.pointer none] 8) 123)) w w.heap.size (fun _ => 0) us nm 0 := by
  have hm := made1 (.pointer none) 8
  refine ⟨Own1.ownV (t := 123) ⟨_, Bk.new _ _ _, hm.1, fun i hi => by rw [hm.2 i hi]; simp⟩, fun h hh => by omega, fun h h' _ hh => by omega, (Below.refl _ _).alloc (Nat.le_refl _) _, Nat.le_refl _⟩
theorem zeroInt (w : World) : (zeroValue 3).run Tryz.prog w = .ok (.int .i64 0) w := by kernel_rfl
/-- The slots below k + 1 are linked, their keys below k are known. -/
def LinkZ (w W : World) (ab mb : Nat) (nb : Nat → Nat) (us : Nat → Bool) (pa : Nat → Int) (nm : Nat → ByteArray) (k : Nat) (D : DataW Unit) : Prop :=
  OwnV w ab 8 (fun h => .pointer (if us h then some ⟨nb h, 0, none⟩ else none)) ∧ NodesAt w nb us pa nm (fun h => decide (1 ≤ h) && decide (h < k + 1)) ∧
    w.ownsMap Tryz.prog 128 (plainElem Tryz.prog 3) mb k D ∧ Below W.heap.size W w
def LinkK (ab mb : Nat) (nb : Nat → Nat) (us : Nat → Bool) (pa : Nat → Int) (nm : Nat → ByteArray) (k : Nat) (D : DataW Unit) : Prop :=
  KeysAre D us pa nm k ∧ (∀ h, h < 8 → us h = true → ab < nb h ∧ nb h < mb) ∧ (∀ h h', h < h' → h' < 8 → us h = true → us h' = true → nb h < nb h') ∧ ab < mb
theorem LinkZ.below {w w' W : World} {ab mb : Nat} {nb : Nat → Nat} {us : Nat → Bool} {pa : Nat → Int} {nm : Nat → ByteArray} {k : Nat} {D : DataW Unit} (h : LinkZ w W ab mb nb us pa nm k D) (hb : Below w.heap.size w w') (hk : LinkK ab mb nb us pa nm k D) : LinkZ w' W ab mb nb us pa nm k D := by
  obtain ⟨h1, h2, h3, h4⟩ := h
  have hm := h3.lt
  exact ⟨h1.same (hb.block _ h1.1) hb.size, h2.below hb (fun i hi hui => by have := hk.2.1 i hi hui; omega), h3.kept (row := none) ⟨hb.os, hb.tape, hb.output, hb.size, fun i hi _ => hb.block i hi⟩ (by simp), h4.trans (hb.mono h4.size)⟩
theorem LinkS.mk' {w w1 W : World} {mb : Nat} {nb : Nat → Nat} {us : Nat → Bool} {pa : Nat → Int} {nm : Nat → ByteArray} {k : Nat} {D : DataW Unit} {d : DataW Unit} (h : LinkZ w W W.heap.size mb nb us pa nm k D) (hk : LinkK W.heap.size mb nb us pa nm k D) (F : Flds us pa nm) (hk1 : 1 ≤ k) (hlt : k < 8) (hu : us k = true)
    (hown : w1.ownsMap Tryz.prog 128 (plainElem Tryz.prog 3) mb (k + 1) (D.put (keyL (pa k) (nm k)) d)) (hg : w.grownBy w1 (some mb)) : LinkS w1 W W.heap.size mb nb us pa nm (k + 1) (D.put (keyL (pa k) (nm k)) d) := by
  obtain ⟨h1, h2, h3, h4⟩ := h
  obtain ⟨k1, k2, k3, k4⟩ := hk
  refine ⟨h1.same (hg.block _ h1.1 (by simp; omega)) hg.size, fun i hi hui => (h2 i hi hui).grown hg (by have := k2 i hi hui; simp; omega), hown, k1.put F hk1 hlt hu d, k2, k3, h4.grown hg h4.size (fun j hj => by cases hj; omega), Nat.le_refl _, k4⟩
/-- What nodes gives. -/
def NodesR (us : Nat → Bool) (pa : Nat → Int) (nm : Nat → ByteArray) (n : Nat) (e : Ending) (w' : World) : Prop :=
  if treeOk nameOk us pa nm n then ∃ ab nb, e = .returned (.tuple #[.slice (some ⟨ab, 0, none⟩) 8 8, .bool true]) ∧ OwnV w' ab 8 (fun h => .pointer (if us h then some ⟨nb h, 0, none⟩ else none)) ∧ NodesAt w' nb us pa nm (fun h => decide (1 ≤ h)) ∧ (∀ h, h < 8 → us h = true → nb h < w'.heap.size)
  else e = .returned (.tuple #[.slice none 0 0, .bool false])
theorem NodesR.no {us : Nat → Bool} {pa : Nat → Int} {nm : Nat → ByteArray} {n : Nat} {w' : World} (h : treeOk nameOk us pa nm n = false) : NodesR us pa nm n (.returned (.tuple #[.slice none 0 0, .bool false])) w' := by
  unfold NodesR
  rw [h]
  rfl
set_option maxRecDepth 100000 in
set_option maxHeartbeats 8000000 in
theorem nodes_any (A : Option Addr) (n c : Nat) (hn : n ≤ 1048576) (us : Nat → Bool) (pa : Nat → Int) (nm : Nat → ByteArray) (hF : n = 8 → Flds us pa nm) (w W : World) (hb : Below W.heap.size W w) (hT0 : TRd W W.heap.size A n us pa nm) :
    Calls Tryz.prog 107 #[.slice A n c] w fun e w' => NodesR us pa nm n e w' ∧ Below w.heap.size w w' := by
  have hT := hT0.at_ hb
  clear hT0
  by_cases h8 : n = 8
  case neg =>
    have HE := Lib.hid (treeOk_root (ok := nameOk) (n := n) (by cases hh : rootB us pa nm n with | false => rfl | true => exact absurd (rootB_iff.1 hh).1 h8))
    clear hT hF
    have h8' : ¬ ((n : Int) = 8) := by omega
    go_enter Tryz.func107, Tryz.ntmps107
    go_wp2
    go_ret2
    exact ⟨NodesR.no HE.out, Below.refl _ _⟩
  subst h8
  have HFl := Lib.hid (hF rfl)
  clear hF
  obtain ⟨ga, oa, rfl, hga, hc⟩ := hT (by omega)
  obtain ⟨c0, c1, c2⟩ := hc 0 (by omega)
  simp only [Nat.zero_mul, Nat.add_zero] at c0 c1 c2
  have HC := Lib.hid hc
  have HT := Lib.hid hT
  clear hc hT
  have hmk := make_nodes
  cases hu0 : us 0
  case false =>
    have HE := Lib.hid (treeOk_root (ok := nameOk) (n := 8) (by cases hh : rootB us pa nm 8 with | false => rfl | true => exact absurd (rootB_iff.1 hh).2.1 (by simp [hu0])))
    rw [hu0] at c0
    go_enter Tryz.func107, Tryz.ntmps107
    go_wp2
    go_ret2
    exact ⟨NodesR.no HE.out, Below.refl _ _⟩
  rw [hu0] at c0
  by_cases hp0 : pa 0 = -1
  case neg =>
    have HE := Lib.hid (treeOk_root (ok := nameOk) (n := 8) (by cases hh : rootB us pa nm 8 with | false => rfl | true => exact absurd (rootB_iff.1 hh).2.2.1 hp0))
    go_enter Tryz.func107, Tryz.ntmps107
    go_wp2
    go_ret2
    exact ⟨NodesR.no HE.out, Below.refl _ _⟩
  rw [hp0] at c1
  by_cases hm0 : nm 0 = ByteArray.empty
  case neg =>
    have HE := Lib.hid (treeOk_root (ok := nameOk) (n := 8) (by cases hh : rootB us pa nm 8 with | false => rfl | true => exact absurd (rootB_iff.1 hh).2.2.2 hm0))
    have hm1 : (nm 0).toList.isEmpty = false := by
      rw [ByteArray.toList_eq]
      cases hh : (nm 0).data.toList with
      | nil => exact absurd (show nm 0 = ByteArray.empty from ByteArray.ext (Array.toList_inj.1 (by rw [hh]; rfl))) hm0
      | cons a b => rfl
    clear hm0
    go_enter Tryz.func107, Tryz.ntmps107
    go_wp2
    go_ret2
    exact ⟨NodesR.no HE.out, Below.refl _ _⟩
  rw [show nm 0 = ⟨#[]⟩ from hm0] at c2
  have HR : Hid (rootB us pa nm 8 = true) := Lib.hid (rootB_iff.2 ⟨rfl, hu0, hp0, hm0⟩)
  clear hu0 hp0 hm0
  have hmm := @run_makeMap Tryz.prog
  go_enter Tryz.func107, Tryz.ntmps107
  go_wp2
  clear c0 c1 c2
  go_loopw [40] (fun i wr => ∃ k : Nat, k ≤ 8 ∧ i = .int .i64 k ∧ ∃ nb, Hid (MadeS wr w w.heap.size nb us nm k)) (fun i _ => 8 - (intOf i).toNat)
  case atStart => exact ⟨0, by omega, rfl, _, MadeS.start w us nm⟩
  case round =>
    obtain ⟨k, hk, rfl, nb, HM⟩ := hrel
    by_cases hlt : k < 8
    · obtain ⟨d0, _, d2⟩ := HC.out k hlt
      have hbr := HM.out.bel
      have d0 := (hbr.cell (p := ⟨ga, oa + k * 14, none⟩) hga).trans d0
      have d2 := (hbr.cell (p := ⟨ga, oa + k * 14 + 2, none⟩) hga).trans d2
      cases hu : us k
      · rw [hu] at d0
        have HN := Lib.hid (HM.out.skip hu)
        clear d2 hbr HM
        go_wp2
        go_roundw
        case rel => exact ⟨k + 1, by omega, by go_num, nb, HN⟩
        case measure => simp [intOf]; omega
      · rw [hu] at d0
        have HN := Lib.hid (HM.out.step hlt hu)
        have a0 := HM.out.all.2.1 k hlt
        have a1 := HM.out.all.2.2 k hlt
        have hltz := HM.out.all.1
        have hgr : ga < wr.heap.size := by omega
        clear hbr HM
        go_wp2
        go_roundw
        case rel => exact ⟨k + 1, by omega, by go_num, _, HN⟩
        case measure => simp [intOf]; omega
    · obtain rfl : k = 8 := by omega
      have HL0 := Lib.hid (HM.out.link (pa := pa))
      clear HM
      go_wp2
      have ES : ∃ mb, mb = wr.heap.size := ⟨_, rfl⟩
      obtain ⟨mb, hmb⟩ := ES
      rw [← hmb] at HL0
      rw [← hmb]
      have HABM : Hid (w.heap.size < mb) := HL0.out.mlt
      generalize wr.alloc (.map #[] 0) = wm at *
      clear hmb
      go_loopw [7] (fun i wx => ∃ k : Nat, k ≤ 8 ∧ 1 ≤ k ∧ i = .int .i64 k ∧ (∃ D, Hid (LinkS wx w w.heap.size mb nb us pa nm k D)) ∧ Hid (∀ g, 1 ≤ g → g < k → linkB nameOk us pa nm 8 g = true)) (fun i _ => 8 - (intOf i).toNat)
      case atStart => exact ⟨1, by omega, by omega, rfl, ⟨_, HL0⟩, fun g h1 h2 => by omega⟩
      case round =>
        rename World => wx
        obtain ⟨k, hk, hk1, rfl, ⟨D, HL⟩, HG⟩ := hrel
        by_cases hlt : k < 8
        · have hbx := HL.out.bel
          cases hu : us k
          · have a0 : wx.cell? ⟨w.heap.size, k, none⟩ = some (.pointer none) := by
              have := HL.out.all.2.1 k hlt
              simpa [hu] using this
            have HN := Lib.hid (HL.out.skip hu)
            have HGN : Hid (∀ g, 1 ≤ g → g < k + 1 → linkB nameOk us pa nm 8 g = true) := fun g h1 h2 => by
              by_cases e : g = k
              · subst e; exact linkB_unused hu
              · exact HG.out g h1 (by omega)
            clear hbx HL HG
            go_wp2
            go_roundw
            case rel => exact ⟨k + 1, by omega, by omega, by go_num, ⟨_, HN⟩, HGN⟩
            case measure => simp [intOf]; omega
          · have a0 : wx.cell? ⟨w.heap.size, k, none⟩ = some (.pointer (some ⟨nb k, 0, none⟩)) := by
              have := HL.out.all.2.1 k hlt
              simpa [hu] using this
            obtain ⟨_, d1, d2⟩ := HC.out k hlt
            have d1 := (hbx.cell (p := ⟨ga, oa + k * 14 + 1, none⟩) hga).trans d1
            have d2 := (hbx.cell (p := ⟨ga, oa + k * 14 + 2, none⟩) hga).trans d2
            have hgx : ga < wx.heap.size := Nat.lt_of_lt_of_le hga hbx.size
            have HBX := Lib.hid hbx
            clear hbx
            cases ho : nameOk (nm k)
            · have HE := Lib.hid (treeOk_link hk1 hlt (linkB_name (p := pa) (n := 8) hu ho))
              go_wp2_with (go_at_call 124; refine (iNameOk_any (nm k) _ _ (Below.refl _ _)).mono ?_; rintro e wn ⟨rfl, hbn⟩)
              go_ret2
              exact ⟨NodesR.no HE.out, HBX.out.trans (hbn.mono HBX.out.size)⟩
            cases hup : usedB us 8 (pa k)
            · have HE := Lib.hid (treeOk_link hk1 hlt (linkB_up (ok := nameOk) (nm := nm) hu hup))
              go_wp2_with (first
                | (go_at_call 124; refine (iNameOk_any (nm k) _ _ (Below.refl _ _)).mono ?_; rintro e wn ⟨rfl, hbn⟩; have d1n := (hbn.cell (p := ⟨ga, oa + k * 14 + 1, none⟩) hgx).trans d1; have HBN := Lib.hid (bel HBX.out hbn); clear hbn)
                | (go_at_call 53; refine (iUsed_any _ 8 c hn us pa nm (pa k) _ (HT.out.at_ HBN.out)).mono ?_; rintro e w' ⟨rfl, rfl⟩))
              go_ret2
              exact ⟨NodesR.no HE.out, HBN.out⟩
            obtain ⟨u1, u2, u3⟩ := usedB_iff.1 hup
            obtain ⟨j, hj⟩ := Int.eq_ofNat_of_zero_le u1
            have hj8 : j < 8 := by omega
            have huj : us j = true := by rw [hj] at u3; simpa using u3
            rw [hj] at d1 hup
            clear u1 u2 u3
            go_upto_region 17 with (first
                | (go_at_call 124; refine (iNameOk_any (nm k) _ _ (Below.refl _ _)).mono ?_; rintro e wn ⟨rfl, hbn⟩; have d1n := (hbn.cell (p := ⟨ga, oa + k * 14 + 1, none⟩) hgx).trans d1; have HBN := Lib.hid (bel HBX.out hbn); have HLN := Lib.hid (HL.out.below hbn); clear hbn)
                | (go_at_call 53; refine (iUsed_any _ 8 c hn us pa nm (j : Int) _ (HT.out.at_ HBN.out)).mono ?_; rintro e w' ⟨rfl, rfl⟩))
            have hjn : (pa k).toNat = j := by rw [hj]; simp
            have b0 : wn.cell? ⟨w.heap.size, k, none⟩ = some (.pointer (some ⟨nb k, 0, none⟩)) := by
              have := HLN.out.all.2.1 k hlt
              simpa [hu] using this
            have b1 : wn.cell? ⟨w.heap.size, j, none⟩ = some (.pointer (some ⟨nb j, 0, none⟩)) := by
              have := HLN.out.all.2.1 j hj8
              simpa [huj] using this
            have b2 : wn.cell? ⟨nb k, 2, none⟩ = some (.pointer none) := by
              have := (HLN.out.nd k hlt hu).cell 2
              simpa using this
            have b3 : wn.frozen? ⟨nb k, 2, none⟩ = false := (HLN.out.nd k hlt hu).free 2
            have HX : Hid (OwnV (wn.drew.setCell ⟨nb k, 2, none⟩ (.pointer (some ⟨nb j, 0, none⟩))) w.heap.size 8 (fun h => .pointer (if us h then some ⟨nb h, 0, none⟩ else none)) ∧
                NodesAt (wn.drew.setCell ⟨nb k, 2, none⟩ (.pointer (some ⟨nb j, 0, none⟩))) nb us pa nm (fun h => decide (1 ≤ h) && decide (h < k + 1)) ∧
                (wn.drew.setCell ⟨nb k, 2, none⟩ (.pointer (some ⟨nb j, 0, none⟩))).ownsMap Tryz.prog 128 (plainElem Tryz.prog 3) mb k D ∧
                Below w.heap.size w (wn.drew.setCell ⟨nb k, 2, none⟩ (.pointer (some ⟨nb j, 0, none⟩)))) := by
              have := (HLN.out.below ((Below.refl wn.heap.size wn).drew)).tie hk1 hlt hu
              rw [hjn] at this
              exact this
            have HST : Hid (LinkK w.heap.size mb nb us pa nm k D) := Lib.hid ⟨HL.out.ks, HL.out.sep, HL.out.up, HL.out.mlt⟩
            clear HLN HL hjn a0 d1 d2
            go_cut [7] from 61 to 121 (fun i wy => i = .int .i64 (k : Int) ∧ Hid (LinkZ wy w w.heap.size mb nb us pa nm k D))
            case first =>
              go_region
              all_goals
                go_wp2
                go_meet
                exact ⟨rfl, HX⟩
            case rest =>
              rename World => wy
              obtain ⟨rfl, HY⟩ := hcut
              clear HX b0 b1 b2 b3 d1n HBN
              have hby := HY.out.2.2.2
              obtain ⟨_, d1, d2⟩ := HC.out k hlt
              have d1 := (hby.cell (p := ⟨ga, oa + k * 14 + 1, none⟩) hga).trans d1
              have d2 := (hby.cell (p := ⟨ga, oa + k * 14 + 2, none⟩) hga).trans d2
              rw [hj] at d1
              have hgy : ga < wy.heap.size := Nat.lt_of_lt_of_le hga hby.size
              clear hby
              go_upto_region 18 with fail
              go_cut [7, 8] from 61 to 121 (fun i t wz => i = .int .i64 (k : Int) ∧ ∃ kb, t = .pointer (some ⟨kb, 0, none⟩) ∧ Bk wz kb 128 #[.int .i64 (j : Int), .string (nm k)] ∧ Below wy.heap.size wy wz)
              case first =>
                go_region
                all_goals
                  go_wp2
                  go_meet
                  exact ⟨rfl, _, rfl, (Bk.new wy _ _).drew, ((Below.refl _ wy).alloc (Nat.le_refl _) _).drew⟩
              case rest =>
                rename World => wz
                obtain ⟨rfl, kb, rfl, hkb, hbz⟩ := hcut
                have HZ := Lib.hid (HY.out.below hbz HST.out)
                have k0 : wz.cell? ⟨kb, 0, none⟩ = some (.int .i64 (j : Int)) := hkb.cell 0
                have k1 : wz.cell? ⟨kb, 1, none⟩ = some (.string (nm k)) := hkb.cell 1
                have HO := Lib.hid HZ.out.2.2.1
                have HKEY : Hid (keyOf Tryz.prog 128 (.agg #[.int .i64 (j : Int), .string (nm k)]) = some (keyL (j : Int) (nm k))) := Lib.hid (keyNode j (nm k) (by rw [← hj]; exact HFl.out.wf k hlt) (HFl.out.ln k hlt))
                have HHAS := Lib.hid (HST.out.1.2 k hlt hu)
                clear d1 d2 hkb hbz HY
                cases hh : Maps.has D (keyL (j : Int) (nm k))
                · have HTW : Hid (twinB us pa nm k = false) := Lib.hid (twinB_not (fun h h1 h2 h3 => by
                    have := HHAS.out.2 ⟨h, h1, h2, h3⟩
                    rw [hj, hh] at this
                    cases this))
                  have HGN : Hid (∀ g, 1 ≤ g → g < k + 1 → linkB nameOk us pa nm 8 g = true) := fun g h1 h2 => by
                    by_cases e : g = k
                    · subst e; exact linkB_good ho (by rw [hj]; exact hup) HTW.out
                    · exact HG.out g h1 (by omega)
                  clear HTW HHAS HG
                  go_wp2_with (first
                    | (at_lookup; refine wpList_lookup_own_ok_int _ rfl _ _ 126 rfl 128 3 .i64 keyLaw Tryz.underlying126 Tryz.underlying3 (zeroInt _) mb k _ rfl HO.out _ _ rfl HKEY.out ?_; rw [hh]; intro cv hat hwc)
                    | (at_mapUpdate; refine wpList_mapUpdate_own _ rfl _ _ _ 126 rfl 128 3 keyLaw Tryz.underlying126 _ mb k _ rfl HO.out (by unfold maxLen; omega) _ _ _ rfl rfl HKEY.out _ [] (plainElem_int Tryz.underlying3 (WalkArith.wf_i64 (by omega))) ?_; intro w1 hown1 hgrow1; have HN := Lib.hid (LinkS.mk' HZ.out HST.out HFl.out hk1 hlt hu (by rw [hj]; exact hown1) hgrow1); clear hown1 hgrow1; go_frame))
                  go_roundw
                  case rel =>
                    repeat apply Exists.intro
                    refine ⟨?_, rfl⟩
                    exact ⟨k + 1, by omega, by omega, by go_num, ⟨_, HN⟩, HGN⟩
                  case measure => simp [intOf]; omega
                · obtain ⟨h, h1, h2, h3, h4, h5⟩ := HHAS.out.1 (by rw [hj]; exact hh)
                  have HE := Lib.hid (treeOk_link hk1 hlt (linkB_twin (ok := nameOk) (n := 8) hu (twinB_of (p := pa) (nm := nm) h1 h2 h3 h4 h5)))
                  clear h1 h2 h3 h4 h5 HHAS
                  go_wp2_with (at_lookup; refine wpList_lookup_own_ok_int _ rfl _ _ 126 rfl 128 3 .i64 keyLaw Tryz.underlying126 Tryz.underlying3 (zeroInt _) mb k _ rfl HO.out _ _ rfl HKEY.out ?_; rw [hh]; intro cv hat hwc)
                  go_ret2
                  exact ⟨NodesR.no HE.out, HZ.out.2.2.2⟩
        · obtain rfl : k = 8 := by omega
          have HAL := Lib.hid HL.out.all
          have HND : Hid (NodesAt wx nb us pa nm (fun h => decide (1 ≤ h))) := by
            intro i hi hui
            have := HL.out.nd i hi hui
            have e : (decide (1 ≤ i) && decide (i < 8)) = decide (1 ≤ i) := by simp [hi]
            simpa only [e] using this
          have HSZ : Hid (∀ h, h < 8 → us h = true → nb h < wx.heap.size) := fun i hi hui => (HL.out.nd i hi hui).lt
          have HBX := Lib.hid HL.out.bel
          have HUP : Hid (∀ h, 1 ≤ h → h < 8 → us h = true → usedB us 8 (pa h) = true) := fun i h1 h2 h3 => by
            have := HG.out i h1 h2
            unfold linkB at this
            simp only [h3, Bool.not_true, Bool.false_or, Bool.and_eq_true] at this
            exact this.1.2
          clear HL HL0
          go_wp2
          go_loop [124] (fun i => ∃ m : Nat, m ≤ 8 ∧ i = .int .i64 m ∧ Hid (∀ g, g < m → us g = true → 0 ≤ dep us pa 8 4 g)) (fun i => 8 - (intOf i).toNat)
          case atStart => exact ⟨0, by omega, rfl, fun g hg => by omega⟩
          case round =>
            obtain ⟨m, hm, rfl, HD⟩ := hrel
            by_cases hm8 : m < 8
            · cases hu : us m
              · have a0 : wx.cell? ⟨w.heap.size, m, none⟩ = some (.pointer none) := by
                  have := HAL.out.2.1 m hm8
                  simpa [hu] using this
                have HDN : Hid (∀ g, g < m + 1 → us g = true → 0 ≤ dep us pa 8 4 g) := fun g hg hug => by
                  by_cases e : g = m
                  · subst e; rw [hu] at hug; cases hug
                  · exact HD.out g (by omega) hug
                clear HD
                go_wp2
                go_round
                case rel => first | exact ⟨m + 1, by omega, by go_num, HDN⟩ | (refine ⟨trivial, ?_⟩; (repeat apply Exists.intro); refine ⟨?_, rfl⟩; exact ⟨m + 1, by omega, by go_num, HDN⟩)
                case measure => simp [intOf]; omega
              · have a0 : wx.cell? ⟨w.heap.size, m, none⟩ = some (.pointer (some ⟨nb m, 0, none⟩)) := by
                  have := HAL.out.2.1 m hm8
                  simpa [hu] using this
                have HDP : Hid (Calls Tryz.prog 125 #[.pointer (some ⟨nb m, 0, none⟩)] wx fun e w' => e = .returned (.int .i64 (dep us pa 8 4 m)) ∧ wx = w') := Lib.hid (iDepth_any nb us pa nm m hm8 hu HUP.out wx HND.out)
                by_cases hd : dep us pa 8 4 m < 0
                · have HE := Lib.hid (treeOk_deep (ok := nameOk) (nm := nm) hm8 hu hd rfl)
                  generalize dep us pa 8 4 m = dd at *
                  go_wp2_with (go_at_call 125; refine HDP.out.mono ?_; rintro e w' ⟨rfl, rfl⟩)
                  go_ret2
                  exact ⟨NodesR.no HE.out, HBX.out⟩
                · have HDN : Hid (∀ g, g < m + 1 → us g = true → 0 ≤ dep us pa 8 4 g) := fun g hg hug => by
                    by_cases e : g = m
                    · subst e; omega
                    · exact HD.out g (by omega) hug
                  clear HD
                  generalize dep us pa 8 4 m = dd at HDP hd
                  go_wp2_with (go_at_call 125; refine HDP.out.mono ?_; rintro e w' ⟨rfl, rfl⟩)
                  go_round
                  case rel => first | exact ⟨m + 1, by omega, by go_num, HDN⟩ | (refine ⟨trivial, ?_⟩; (repeat apply Exists.intro); refine ⟨?_, rfl⟩; exact ⟨m + 1, by omega, by go_num, HDN⟩)
                  case measure => simp [intOf]; omega
            · obtain rfl : m = 8 := by omega
              have HE := Lib.hid (treeOk_links HR.out HG.out HD.out)
              go_wp2
              go_ret2
              refine ⟨?_, HBX.out⟩
              unfold NodesR
              rw [show treeOk nameOk us pa nm 8 = true from HE.out]
              exact ⟨_, nb, rfl, HAL.out, HND.out, HSZ.out⟩
end Go.Proofs.YtndbmeedimhohaaGreat

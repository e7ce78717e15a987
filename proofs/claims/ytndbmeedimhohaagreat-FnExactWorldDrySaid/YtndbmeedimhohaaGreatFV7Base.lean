/- Worlds: the groups of a world (printed by mkv.py). -/
import Derived.Test.YtndbmeedimhohaaGreatFCG
namespace Go.Proofs.YtndbmeedimhohaaGreat
open Go.RowKit
set_option maxHeartbeats 4000000 in
set_option maxRecDepth 100000 in
theorem maskFull_any (x : Int) (w : World) :
    Calls Tryz.prog 87 #[.int .i64 x] w fun e w' => e = .returned (.bool (inR x 0 15 && (x != 0))) ∧ w = w' := by
  cases h : (x != 0)
  · go_enter Tryz.func87, Tryz.ntmps87
    go_wp2
    go_ret
    exact ⟨ret_boolB (by simp), rfl⟩
  · go_enter Tryz.func87, Tryz.ntmps87
    go_wp2_with (go_at_call 109; refine (iMaskOk_any _ _).mono ?_; rintro e w9 ⟨rfl, rfl⟩)
    go_ret
    exact ⟨ret_boolB (by simp), rfl⟩
set_option maxHeartbeats 4000000 in
set_option maxRecDepth 100000 in
theorem groupsOk_any (V : WV) (a : WA) (hw : Nat) (hnow : timeB V.now = true) (hcn : V.cn ≤ 4) (h8 : V.gn ≤ 1048576) (h1 : 0 < V.gn) (hl : ∀ i, i < V.gn → GLen (V.gv i)) (w : World) (hk : Bk w hw 33 #[.int .i64 V.now, .slice (some ⟨a.ca, a.oc, none⟩) V.cn a.cc, .slice (some ⟨a.ta, a.ot, none⟩) V.tn a.tc, .slice (some ⟨a.ga, a.og, none⟩) V.gn a.gc]) (m : MR w V a) :
    Calls Tryz.prog 47 #[.pointer (some ⟨hw, 0, none⟩)] w fun e w' => e = .returned (.bool (allTo (groupI V) V.gn && rootI V)) ∧ Below w.heap.size w w' := by
  obtain ⟨k0, k1, k2, k3⟩ := hk.four
  have hkl := hk.lt
  have hgl := m.gl
  have HK := Lib.hid hk
  have HM := Lib.hid m
  have HQQ : Hid (∀ k, k < V.gn → ∀ x : World, Below w.heap.size w x → Calls Tryz.prog 88 #[.pointer (some ⟨hw, 0, none⟩), .agg #[.bool (V.gv k).us, .int .i64 (V.gv k).pa, .string (V.gv k).nm, .int .i64 (V.gv k).we, .int .i64 (V.gv k).cp, .int .i64 (V.gv k).pe, .int .i64 (V.gv k).ne, .int .i64 (V.gv k).su, .int .i64 (V.gv k).qu, .int .i64 (V.gv k).po, .int .i64 (V.gv k).sp, .slice (a.gh k).la (V.gv k).ln (a.gh k).lc, .slice (a.gh k).da (V.gv k).dn (a.gh k).dc, .slice (a.gh k).sa (V.gv k).sn (a.gh k).sc]] x fun e w' => e = .returned (.bool (quotaI V (V.gv k))) ∧ Below x.heap.size x w') := fun k hk x hx => quotaOk_any V (V.gv k) (a.gh k) hw _ _ _ _ hnow hcn (hl k hk).l (hl k hk).d x (HK.out.below hx hkl) ((HM.out.d k hk).at_ hx)
  clear hk m hl hnow
  go_enter Tryz.func47, Tryz.ntmps47
  go_wp2
  go_loopw [11] (fun i wr => ∃ k : Nat, k ≤ V.gn ∧ i = .int .i64 k ∧ Hid (allTo (groupI V) k = true) ∧ Hid (Below w.heap.size w wr)) (fun i _ => V.gn - (intOf i).toNat)
  case atStart => exact ⟨0, Nat.zero_le _, rfl, rfl, Below.refl _ _⟩
  case round =>
    obtain ⟨k, hk, rfl, HA, HB⟩ := hrel
    have hz := HB.out.size
    by_cases hlt : k < V.gn
    · have hr : Hid (wr.rangeAt a.ga (a.og + k * 14) [.bool (V.gv k).us, .int .i64 (V.gv k).pa, .string (V.gv k).nm, .int .i64 (V.gv k).we, .int .i64 (V.gv k).cp, .int .i64 (V.gv k).pe, .int .i64 (V.gv k).ne, .int .i64 (V.gv k).su, .int .i64 (V.gv k).qu, .int .i64 (V.gv k).po, .int .i64 (V.gv k).sp, .slice (a.gh k).la (V.gv k).ln (a.gh k).lc, .slice (a.gh k).da (V.gv k).dn (a.gh k).dc, .slice (a.gh k).sa (V.gv k).sn (a.gh k).sc]) := rangeAt_below (HM.out.g k hlt) HB.out hgl
      have HE : Hid (groupI V k = if (V.gv k).us then usedG V (V.gv k) && quotaI V (V.gv k) else zeroG (V.gv k)) := rfl
      have HF : Hid (groupI V k = false → (allTo (groupI V) V.gn && rootI V) = false) := fun h => by rw [allTo_false _ k _ hlt h]; rfl
      have HT : Hid (groupI V k = true → allTo (groupI V) (k + 1) = true) := fun h => allTo_next _ k HA.out h
      have HQ : Hid (∀ x : World, Below w.heap.size w x → Calls Tryz.prog 88 #[.pointer (some ⟨hw, 0, none⟩), .agg #[.bool (V.gv k).us, .int .i64 (V.gv k).pa, .string (V.gv k).nm, .int .i64 (V.gv k).we, .int .i64 (V.gv k).cp, .int .i64 (V.gv k).pe, .int .i64 (V.gv k).ne, .int .i64 (V.gv k).su, .int .i64 (V.gv k).qu, .int .i64 (V.gv k).po, .int .i64 (V.gv k).sp, .slice (a.gh k).la (V.gv k).ln (a.gh k).lc, .slice (a.gh k).da (V.gv k).dn (a.gh k).dc, .slice (a.gh k).sa (V.gv k).sn (a.gh k).sc]] x fun e w' => e = .returned (.bool (quotaI V (V.gv k))) ∧ Below x.heap.size x w') := HQQ.out k hlt
      have HZ : Hid (∀ x : World, Calls Tryz.prog 85 #[.agg #[.bool (V.gv k).us, .int .i64 (V.gv k).pa, .string (V.gv k).nm, .int .i64 (V.gv k).we, .int .i64 (V.gv k).cp, .int .i64 (V.gv k).pe, .int .i64 (V.gv k).ne, .int .i64 (V.gv k).su, .int .i64 (V.gv k).qu, .int .i64 (V.gv k).po, .int .i64 (V.gv k).sp, .slice (a.gh k).la (V.gv k).ln (a.gh k).lc, .slice (a.gh k).da (V.gv k).dn (a.gh k).dc, .slice (a.gh k).sa (V.gv k).sn (a.gh k).sc]] x fun e w' => e = .returned (.bool (!(V.gv k).us && zeroG (V.gv k))) ∧ Below x.heap.size x w') := fun x => groupZero_any (V.gv k) (a.gh k) x
      clear HA HQQ
      cases hu : (V.gv k).us
      case false =>
        rw [hu] at hr HE HZ
        obtain ⟨Z, hZ⟩ : ∃ Z, Z = zeroG (V.gv k) := ⟨_, rfl⟩
        rw [← hZ] at HE HZ
        clear hZ HQ
        cases Z
        · go_wp2_with (refine wpList_load_mid rfl 68 _ rfl a.ga (a.og + k * 14) rfl _ _ (rangeAt_below hr.out (B := w.heap.size) (by go_grown) hgl) Tryz.underlying68 rfl (by kernel_rfl) ?_)
          go_wp2_with (go_at_call 85; refine (HZ.out _).mono ?_; rintro e w1 ⟨rfl, hb1⟩; have hbx := (HB.out.alloc hz (.cells #[.bool false, .int .i64 (V.gv k).pa, .string (V.gv k).nm, .int .i64 (V.gv k).we, .int .i64 (V.gv k).cp, .int .i64 (V.gv k).pe, .int .i64 (V.gv k).ne, .int .i64 (V.gv k).su, .int .i64 (V.gv k).qu, .int .i64 (V.gv k).po, .int .i64 (V.gv k).sp, .slice (a.gh k).la (V.gv k).ln (a.gh k).lc, .slice (a.gh k).da (V.gv k).dn (a.gh k).dc, .slice (a.gh k).sa (V.gv k).sn (a.gh k).sc] 68)).trans (hb1.mono (by simp; omega)))
          go_ret
          exact ⟨ret_boolB (HF.out (by rw [HE.out]; rfl)).symm, hbx⟩
        · go_wp2_with (refine wpList_load_mid rfl 68 _ rfl a.ga (a.og + k * 14) rfl _ _ (rangeAt_below hr.out (B := w.heap.size) (by go_grown) hgl) Tryz.underlying68 rfl (by kernel_rfl) ?_)
          go_wp2_with (go_at_call 85; refine (HZ.out _).mono ?_; rintro e w1 ⟨rfl, hb1⟩; have hbx := (HB.out.alloc hz (.cells #[.bool false, .int .i64 (V.gv k).pa, .string (V.gv k).nm, .int .i64 (V.gv k).we, .int .i64 (V.gv k).cp, .int .i64 (V.gv k).pe, .int .i64 (V.gv k).ne, .int .i64 (V.gv k).su, .int .i64 (V.gv k).qu, .int .i64 (V.gv k).po, .int .i64 (V.gv k).sp, .slice (a.gh k).la (V.gv k).ln (a.gh k).lc, .slice (a.gh k).da (V.gv k).dn (a.gh k).dc, .slice (a.gh k).sa (V.gv k).sn (a.gh k).sc] 68)).trans (hb1.mono (by simp; omega)))
          go_roundw
          case rel => exact ⟨k + 1, by omega, by go_num, HT.out (by rw [HE.out]; rfl), hbx⟩
          case measure => simp [intOf]; omega
      case true =>
        rw [hu] at hr HE HQ
        clear HZ
        go_wp2_with (refine wpList_load_mid rfl 68 _ rfl a.ga (a.og + k * 14) rfl _ _ (rangeAt_below hr.out (B := w.heap.size) (by go_grown) hgl) Tryz.underlying68 rfl (by kernel_rfl) ?_)
        go_upto_region 7 with (fail)
        go_cut [54] from 12 to 55 (fun c wx => c = .bool (!(usedG V (V.gv k) && quotaI V (V.gv k))) ∧ Hid (Below w.heap.size w wx))
        case first =>
          have hkx : Bk (wr.alloc (.cells #[.bool true, .int .i64 (V.gv k).pa, .string (V.gv k).nm, .int .i64 (V.gv k).we, .int .i64 (V.gv k).cp, .int .i64 (V.gv k).pe, .int .i64 (V.gv k).ne, .int .i64 (V.gv k).su, .int .i64 (V.gv k).qu, .int .i64 (V.gv k).po, .int .i64 (V.gv k).sp, .slice (a.gh k).la (V.gv k).ln (a.gh k).lc, .slice (a.gh k).da (V.gv k).dn (a.gh k).dc, .slice (a.gh k).sa (V.gv k).sn (a.gh k).sc] 68)) wr.heap.size 68 #[.bool true, .int .i64 (V.gv k).pa, .string (V.gv k).nm, .int .i64 (V.gv k).we, .int .i64 (V.gv k).cp, .int .i64 (V.gv k).pe, .int .i64 (V.gv k).ne, .int .i64 (V.gv k).su, .int .i64 (V.gv k).qu, .int .i64 (V.gv k).po, .int .i64 (V.gv k).sp, .slice (a.gh k).la (V.gv k).ln (a.gh k).lc, .slice (a.gh k).da (V.gv k).dn (a.gh k).dc, .slice (a.gh k).sa (V.gv k).sn (a.gh k).sc] := Bk.new _ _ _
          have hbx := HB.out.alloc hz (.cells #[.bool true, .int .i64 (V.gv k).pa, .string (V.gv k).nm, .int .i64 (V.gv k).we, .int .i64 (V.gv k).cp, .int .i64 (V.gv k).pe, .int .i64 (V.gv k).ne, .int .i64 (V.gv k).su, .int .i64 (V.gv k).qu, .int .i64 (V.gv k).po, .int .i64 (V.gv k).sp, .slice (a.gh k).la (V.gv k).ln (a.gh k).lc, .slice (a.gh k).da (V.gv k).dn (a.gh k).dc, .slice (a.gh k).sa (V.gv k).sn (a.gh k).sc] 68)
          generalize (wr.alloc (.cells #[.bool true, .int .i64 (V.gv k).pa, .string (V.gv k).nm, .int .i64 (V.gv k).we, .int .i64 (V.gv k).cp, .int .i64 (V.gv k).pe, .int .i64 (V.gv k).ne, .int .i64 (V.gv k).su, .int .i64 (V.gv k).qu, .int .i64 (V.gv k).po, .int .i64 (V.gv k).sp, .slice (a.gh k).la (V.gv k).ln (a.gh k).lc, .slice (a.gh k).da (V.gv k).dn (a.gh k).dc, .slice (a.gh k).sa (V.gv k).sn (a.gh k).sc] 68)) = wq at hkx hbx ⊢
          have hwx := HK.out.below hbx hkl
          have KS : ∀ w', Below wq.heap.size wq w' → (fun w' => Below wq.heap.size wq w' ∧ w'.cell? ⟨wr.heap.size, 0, none⟩ = some (.bool true) ∧ w'.cell? ⟨wr.heap.size, 1, none⟩ = some (.int .i64 (V.gv k).pa) ∧ w'.cell? ⟨wr.heap.size, 2, none⟩ = some (.string (V.gv k).nm) ∧ w'.cell? ⟨wr.heap.size, 3, none⟩ = some (.int .i64 (V.gv k).we) ∧ w'.cell? ⟨wr.heap.size, 4, none⟩ = some (.int .i64 (V.gv k).cp) ∧ w'.cell? ⟨wr.heap.size, 5, none⟩ = some (.int .i64 (V.gv k).pe) ∧ w'.cell? ⟨wr.heap.size, 6, none⟩ = some (.int .i64 (V.gv k).ne) ∧ w'.cell? ⟨wr.heap.size, 7, none⟩ = some (.int .i64 (V.gv k).su) ∧ w'.cell? ⟨wr.heap.size, 8, none⟩ = some (.int .i64 (V.gv k).qu) ∧ w'.cell? ⟨wr.heap.size, 9, none⟩ = some (.int .i64 (V.gv k).po) ∧ w'.cell? ⟨wr.heap.size, 10, none⟩ = some (.int .i64 (V.gv k).sp) ∧ w'.cell? ⟨wr.heap.size, 11, none⟩ = some (.slice (a.gh k).la (V.gv k).ln (a.gh k).lc) ∧ w'.cell? ⟨wr.heap.size, 12, none⟩ = some (.slice (a.gh k).da (V.gv k).dn (a.gh k).dc) ∧ w'.cell? ⟨wr.heap.size, 13, none⟩ = some (.slice (a.gh k).sa (V.gv k).sn (a.gh k).sc) ∧ w'.cell? ⟨hw, 1, none⟩ = some (.slice (some ⟨a.ca, a.oc, none⟩) V.cn a.cc)) w' := fun w' h => ⟨h, (h.cell (p := ⟨wr.heap.size, 0, none⟩) hkx.lt).trans ((hkx.cell 0).trans rfl), (h.cell (p := ⟨wr.heap.size, 1, none⟩) hkx.lt).trans ((hkx.cell 1).trans rfl), (h.cell (p := ⟨wr.heap.size, 2, none⟩) hkx.lt).trans ((hkx.cell 2).trans rfl), (h.cell (p := ⟨wr.heap.size, 3, none⟩) hkx.lt).trans ((hkx.cell 3).trans rfl), (h.cell (p := ⟨wr.heap.size, 4, none⟩) hkx.lt).trans ((hkx.cell 4).trans rfl), (h.cell (p := ⟨wr.heap.size, 5, none⟩) hkx.lt).trans ((hkx.cell 5).trans rfl), (h.cell (p := ⟨wr.heap.size, 6, none⟩) hkx.lt).trans ((hkx.cell 6).trans rfl), (h.cell (p := ⟨wr.heap.size, 7, none⟩) hkx.lt).trans ((hkx.cell 7).trans rfl), (h.cell (p := ⟨wr.heap.size, 8, none⟩) hkx.lt).trans ((hkx.cell 8).trans rfl), (h.cell (p := ⟨wr.heap.size, 9, none⟩) hkx.lt).trans ((hkx.cell 9).trans rfl), (h.cell (p := ⟨wr.heap.size, 10, none⟩) hkx.lt).trans ((hkx.cell 10).trans rfl), (h.cell (p := ⟨wr.heap.size, 11, none⟩) hkx.lt).trans ((hkx.cell 11).trans rfl), (h.cell (p := ⟨wr.heap.size, 12, none⟩) hkx.lt).trans ((hkx.cell 12).trans rfl), (h.cell (p := ⟨wr.heap.size, 13, none⟩) hkx.lt).trans ((hkx.cell 13).trans rfl), (h.cell (p := ⟨hw, 1, none⟩) hwx.lt).trans ((hwx.cell 1).trans rfl)⟩
          have KT : ∀ wa wb, (fun w' => Below wq.heap.size wq w' ∧ w'.cell? ⟨wr.heap.size, 0, none⟩ = some (.bool true) ∧ w'.cell? ⟨wr.heap.size, 1, none⟩ = some (.int .i64 (V.gv k).pa) ∧ w'.cell? ⟨wr.heap.size, 2, none⟩ = some (.string (V.gv k).nm) ∧ w'.cell? ⟨wr.heap.size, 3, none⟩ = some (.int .i64 (V.gv k).we) ∧ w'.cell? ⟨wr.heap.size, 4, none⟩ = some (.int .i64 (V.gv k).cp) ∧ w'.cell? ⟨wr.heap.size, 5, none⟩ = some (.int .i64 (V.gv k).pe) ∧ w'.cell? ⟨wr.heap.size, 6, none⟩ = some (.int .i64 (V.gv k).ne) ∧ w'.cell? ⟨wr.heap.size, 7, none⟩ = some (.int .i64 (V.gv k).su) ∧ w'.cell? ⟨wr.heap.size, 8, none⟩ = some (.int .i64 (V.gv k).qu) ∧ w'.cell? ⟨wr.heap.size, 9, none⟩ = some (.int .i64 (V.gv k).po) ∧ w'.cell? ⟨wr.heap.size, 10, none⟩ = some (.int .i64 (V.gv k).sp) ∧ w'.cell? ⟨wr.heap.size, 11, none⟩ = some (.slice (a.gh k).la (V.gv k).ln (a.gh k).lc) ∧ w'.cell? ⟨wr.heap.size, 12, none⟩ = some (.slice (a.gh k).da (V.gv k).dn (a.gh k).dc) ∧ w'.cell? ⟨wr.heap.size, 13, none⟩ = some (.slice (a.gh k).sa (V.gv k).sn (a.gh k).sc) ∧ w'.cell? ⟨hw, 1, none⟩ = some (.slice (some ⟨a.ca, a.oc, none⟩) V.cn a.cc)) wa → Below wa.heap.size wa wb → (fun w' => Below wq.heap.size wq w' ∧ w'.cell? ⟨wr.heap.size, 0, none⟩ = some (.bool true) ∧ w'.cell? ⟨wr.heap.size, 1, none⟩ = some (.int .i64 (V.gv k).pa) ∧ w'.cell? ⟨wr.heap.size, 2, none⟩ = some (.string (V.gv k).nm) ∧ w'.cell? ⟨wr.heap.size, 3, none⟩ = some (.int .i64 (V.gv k).we) ∧ w'.cell? ⟨wr.heap.size, 4, none⟩ = some (.int .i64 (V.gv k).cp) ∧ w'.cell? ⟨wr.heap.size, 5, none⟩ = some (.int .i64 (V.gv k).pe) ∧ w'.cell? ⟨wr.heap.size, 6, none⟩ = some (.int .i64 (V.gv k).ne) ∧ w'.cell? ⟨wr.heap.size, 7, none⟩ = some (.int .i64 (V.gv k).su) ∧ w'.cell? ⟨wr.heap.size, 8, none⟩ = some (.int .i64 (V.gv k).qu) ∧ w'.cell? ⟨wr.heap.size, 9, none⟩ = some (.int .i64 (V.gv k).po) ∧ w'.cell? ⟨wr.heap.size, 10, none⟩ = some (.int .i64 (V.gv k).sp) ∧ w'.cell? ⟨wr.heap.size, 11, none⟩ = some (.slice (a.gh k).la (V.gv k).ln (a.gh k).lc) ∧ w'.cell? ⟨wr.heap.size, 12, none⟩ = some (.slice (a.gh k).da (V.gv k).dn (a.gh k).dc) ∧ w'.cell? ⟨wr.heap.size, 13, none⟩ = some (.slice (a.gh k).sa (V.gv k).sn (a.gh k).sc) ∧ w'.cell? ⟨hw, 1, none⟩ = some (.slice (some ⟨a.ca, a.oc, none⟩) V.cn a.cc)) wb := fun wa wb h hab => KS wb (h.1.trans (hab.mono h.1.size))
          have HKS := Lib.hid KS
          have HKT := Lib.hid KT
          clear KS KT
          clear hkx hwx
          refine wp_region_held_drew (S := (fun w' => Below wq.heap.size wq w' ∧ w'.cell? ⟨wr.heap.size, 0, none⟩ = some (.bool true) ∧ w'.cell? ⟨wr.heap.size, 1, none⟩ = some (.int .i64 (V.gv k).pa) ∧ w'.cell? ⟨wr.heap.size, 2, none⟩ = some (.string (V.gv k).nm) ∧ w'.cell? ⟨wr.heap.size, 3, none⟩ = some (.int .i64 (V.gv k).we) ∧ w'.cell? ⟨wr.heap.size, 4, none⟩ = some (.int .i64 (V.gv k).cp) ∧ w'.cell? ⟨wr.heap.size, 5, none⟩ = some (.int .i64 (V.gv k).pe) ∧ w'.cell? ⟨wr.heap.size, 6, none⟩ = some (.int .i64 (V.gv k).ne) ∧ w'.cell? ⟨wr.heap.size, 7, none⟩ = some (.int .i64 (V.gv k).su) ∧ w'.cell? ⟨wr.heap.size, 8, none⟩ = some (.int .i64 (V.gv k).qu) ∧ w'.cell? ⟨wr.heap.size, 9, none⟩ = some (.int .i64 (V.gv k).po) ∧ w'.cell? ⟨wr.heap.size, 10, none⟩ = some (.int .i64 (V.gv k).sp) ∧ w'.cell? ⟨wr.heap.size, 11, none⟩ = some (.slice (a.gh k).la (V.gv k).ln (a.gh k).lc) ∧ w'.cell? ⟨wr.heap.size, 12, none⟩ = some (.slice (a.gh k).da (V.gv k).dn (a.gh k).dc) ∧ w'.cell? ⟨wr.heap.size, 13, none⟩ = some (.slice (a.gh k).sa (V.gv k).sn (a.gh k).sc) ∧ w'.cell? ⟨hw, 1, none⟩ = some (.slice (some ⟨a.ca, a.oc, none⟩) V.cn a.cc))) (by kernel_rfl) (HKS.out _ (Below.refl _ _).drew) (fun hH => ?_)
          refine rgT 0 ?_ ?_ hH ?_; rotate_left; · (intro w s; (try dsimp only at s); go_simp; try with_reducible rfl)
          try simp only [rgp, rg0, rg1]
          refine rgT 1 ?_ ?_ hH ?_; rotate_left; · (intro w s; (try dsimp only at s); go_simp; try with_reducible rfl)
          try simp only [rgp, rg0, rg1]
          cases c1 : (inR (V.gv k).we 1 20)
          · refine rgS 2 (fun K hK => ?_)
            go_simp
            (go_at_call 86; refine (weightOk_any _ _).mono ?_; rintro e wv1 ⟨rfl, rfl⟩)
            go_wp2_with fail
            refine hK.out _ _ (hH) (fun hH_1 => ?_)
            clear hK K
            try simp only [rgp, rgn, rg0, rg1]
            refine rgT 3 ?_ ?_ hH_1 ?_; rotate_left; · (intro w s; (try dsimp only at s); go_simp; try with_reducible rfl)
            try simp only [rgp, rg0, rg1]
            refine rgT 4 ?_ ?_ hH_1 ?_; rotate_left; · (intro w s; (try dsimp only at s); go_simp; try with_reducible rfl)
            try simp only [rgp, rg0, rg1]
            refine rgU 5 hH_1 ?_; try simp only [rgp, rg0, rg1]
            refine rgU 6 hH_1 ?_; try simp only [rgp, rg0, rg1]
            refine rgU 7 hH_1 ?_; try simp only [rgp, rg0, rg1]
            refine rgU 8 hH_1 ?_; try simp only [rgp, rg0, rg1]
            refine rgT 9 ?_ ?_ hH_1 ?_; rotate_left; · (intro w s; (try dsimp only at s); go_simp; try with_reducible rfl)
            try simp only [rgp, rg0, rg1]
            refine rgT 10 ?_ ?_ hH_1 ?_; rotate_left; · (intro w s; (try dsimp only at s); go_simp; try with_reducible rfl)
            try simp only [rgp, rg0, rg1]
            refine rgU 11 hH_1 ?_; try simp only [rgp, rg0, rg1]
            refine rgU 12 hH_1 ?_; try simp only [rgp, rg0, rg1]
            refine rgU 13 hH_1 ?_; try simp only [rgp, rg0, rg1]
            refine rgU 14 hH_1 ?_; try simp only [rgp, rg0, rg1]
            refine rgU 15 hH_1 ?_; try simp only [rgp, rg0, rg1]
            refine rgT 16 ?_ ?_ hH_1 ?_; rotate_left; · (intro w s; (try dsimp only at s); go_simp; try with_reducible rfl)
            try simp only [rgp, rg0, rg1]
            refine rgT 17 ?_ ?_ hH_1 ?_; rotate_left; · (intro w s; (try dsimp only at s); go_simp; try with_reducible rfl)
            try simp only [rgp, rg0, rg1]
            refine rgU 18 hH_1 ?_; try simp only [rgp, rg0, rg1]
            refine rgU 19 hH_1 ?_; try simp only [rgp, rg0, rg1]
            refine rgU 20 hH_1 ?_; try simp only [rgp, rg0, rg1]
            refine rgU 21 hH_1 ?_; try simp only [rgp, rg0, rg1]
            refine rgU 22 hH_1 ?_; try simp only [rgp, rg0, rg1]
            refine rgU 23 hH_1 ?_; try simp only [rgp, rg0, rg1]
            refine rgU 24 hH_1 ?_; try simp only [rgp, rg0, rg1]
            refine rgU 25 hH_1 ?_; try simp only [rgp, rg0, rg1]
            refine rgU 26 hH_1 ?_; try simp only [rgp, rg0, rg1]
            refine rgT 27 ?_ ?_ hH_1 ?_; rotate_left; · (intro w s; (try dsimp only at s); go_simp; try with_reducible rfl)
            try simp only [rgp, rg0, rg1]
            refine rgT 28 ?_ ?_ hH_1 ?_; rotate_left; · (intro w s; (try dsimp only at s); go_simp; try with_reducible rfl)
            try simp only [rgp, rg0, rg1]
            refine rgU 29 hH_1 ?_; try simp only [rgp, rg0, rg1]
            refine rgU 30 hH_1 ?_; try simp only [rgp, rg0, rg1]
            refine rgU 31 hH_1 ?_; try simp only [rgp, rg0, rg1]
            refine rgU 32 hH_1 ?_; try simp only [rgp, rg0, rg1]
            refine rgT 33 ?_ ?_ hH_1 ?_; rotate_left; · (intro w s; (try dsimp only at s); go_simp; try with_reducible rfl)
            try simp only [rgp, rg0, rg1]
            refine wpAnyH_done (by kernel_rfl) ?_ _
            go_wp2
            go_meet
            exact ⟨by simp [usedG, c1], hbx.trans (hH_1.1.mono hbx.size)⟩
          · refine rgS 2 (fun K hK => ?_)
            go_simp
            (go_at_call 86; refine (weightOk_any _ _).mono ?_; rintro e wv2 ⟨rfl, rfl⟩)
            go_wp2_with fail
            refine hK.out _ _ (hH) (fun hH_2 => ?_)
            clear hK K
            try simp only [rgp, rgn, rg0, rg1]
            refine rgT 3 ?_ ?_ hH_2 ?_; rotate_left; · (intro w s; (try dsimp only at s); go_simp; try with_reducible rfl)
            try simp only [rgp, rg0, rg1]
            refine rgT 4 ?_ ?_ hH_2 ?_; rotate_left; · (intro w s; (try dsimp only at s); go_simp; try with_reducible rfl)
            try simp only [rgp, rg0, rg1]
            refine rgT 5 ?_ ?_ hH_2 ?_; rotate_left; · (intro w s; (try dsimp only at s); go_simp; try with_reducible rfl)
            try simp only [rgp, rg0, rg1]
            refine rgT 6 ?_ ?_ hH_2 ?_; rotate_left; · (intro w s; (try dsimp only at s); go_simp; try with_reducible rfl)
            try simp only [rgp, rg0, rg1]
            cases c2 : (inR (V.gv k).cp 0 15 && ((V.gv k).cp != 0))
            · refine rgS 7 (fun K hK => ?_)
              go_simp
              (go_at_call 87; refine (maskFull_any _ _).mono ?_; rintro e wv3 ⟨rfl, rfl⟩)
              go_wp2_with fail
              refine hK.out _ _ (hH_2) (fun hH_3 => ?_)
              clear hK K
              try simp only [rgp, rgn, rg0, rg1]
              refine rgT 8 ?_ ?_ hH_3 ?_; rotate_left; · (intro w s; (try dsimp only at s); go_simp; try with_reducible rfl)
              try simp only [rgp, rg0, rg1]
              refine rgT 9 ?_ ?_ hH_3 ?_; rotate_left; · (intro w s; (try dsimp only at s); go_simp; try with_reducible rfl)
              try simp only [rgp, rg0, rg1]
              refine rgT 10 ?_ ?_ hH_3 ?_; rotate_left; · (intro w s; (try dsimp only at s); go_simp; try with_reducible rfl)
              try simp only [rgp, rg0, rg1]
              refine rgU 11 hH_3 ?_; try simp only [rgp, rg0, rg1]
              refine rgU 12 hH_3 ?_; try simp only [rgp, rg0, rg1]
              refine rgU 13 hH_3 ?_; try simp only [rgp, rg0, rg1]
              refine rgU 14 hH_3 ?_; try simp only [rgp, rg0, rg1]
              refine rgU 15 hH_3 ?_; try simp only [rgp, rg0, rg1]
              refine rgT 16 ?_ ?_ hH_3 ?_; rotate_left; · (intro w s; (try dsimp only at s); go_simp; try with_reducible rfl)
              try simp only [rgp, rg0, rg1]
              refine rgT 17 ?_ ?_ hH_3 ?_; rotate_left; · (intro w s; (try dsimp only at s); go_simp; try with_reducible rfl)
              try simp only [rgp, rg0, rg1]
              refine rgU 18 hH_3 ?_; try simp only [rgp, rg0, rg1]
              refine rgU 19 hH_3 ?_; try simp only [rgp, rg0, rg1]
              refine rgU 20 hH_3 ?_; try simp only [rgp, rg0, rg1]
              refine rgU 21 hH_3 ?_; try simp only [rgp, rg0, rg1]
              refine rgU 22 hH_3 ?_; try simp only [rgp, rg0, rg1]
              refine rgU 23 hH_3 ?_; try simp only [rgp, rg0, rg1]
              refine rgU 24 hH_3 ?_; try simp only [rgp, rg0, rg1]
              refine rgU 25 hH_3 ?_; try simp only [rgp, rg0, rg1]
              refine rgU 26 hH_3 ?_; try simp only [rgp, rg0, rg1]
              refine rgT 27 ?_ ?_ hH_3 ?_; rotate_left; · (intro w s; (try dsimp only at s); go_simp; try with_reducible rfl)
              try simp only [rgp, rg0, rg1]
              refine rgT 28 ?_ ?_ hH_3 ?_; rotate_left; · (intro w s; (try dsimp only at s); go_simp; try with_reducible rfl)
              try simp only [rgp, rg0, rg1]
              refine rgU 29 hH_3 ?_; try simp only [rgp, rg0, rg1]
              refine rgU 30 hH_3 ?_; try simp only [rgp, rg0, rg1]
              refine rgU 31 hH_3 ?_; try simp only [rgp, rg0, rg1]
              refine rgU 32 hH_3 ?_; try simp only [rgp, rg0, rg1]
              refine rgT 33 ?_ ?_ hH_3 ?_; rotate_left; · (intro w s; (try dsimp only at s); go_simp; try with_reducible rfl)
              try simp only [rgp, rg0, rg1]
              refine wpAnyH_done (by kernel_rfl) ?_ _
              go_wp2
              go_meet
              exact ⟨by simp [usedG, c1, c2], hbx.trans (hH_3.1.mono hbx.size)⟩
            · refine rgS 7 (fun K hK => ?_)
              go_simp
              (go_at_call 87; refine (maskFull_any _ _).mono ?_; rintro e wv4 ⟨rfl, rfl⟩)
              go_wp2_with fail
              refine hK.out _ _ (hH_2) (fun hH_4 => ?_)
              clear hK K
              try simp only [rgp, rgn, rg0, rg1]
              refine rgT 8 ?_ ?_ hH_4 ?_; rotate_left; · (intro w s; (try dsimp only at s); go_simp; try with_reducible rfl)
              try simp only [rgp, rg0, rg1]
              refine rgT 9 ?_ ?_ hH_4 ?_; rotate_left; · (intro w s; (try dsimp only at s); go_simp; try with_reducible rfl)
              try simp only [rgp, rg0, rg1]
              refine rgT 10 ?_ ?_ hH_4 ?_; rotate_left; · (intro w s; (try dsimp only at s); go_simp; try with_reducible rfl)
              try simp only [rgp, rg0, rg1]
              refine rgT 11 ?_ ?_ hH_4 ?_; rotate_left; · (intro w s; (try dsimp only at s); go_simp; try with_reducible rfl)
              try simp only [rgp, rg0, rg1]
              refine rgT 12 ?_ ?_ hH_4 ?_; rotate_left; · (intro w s; (try dsimp only at s); go_simp; try with_reducible rfl)
              try simp only [rgp, rg0, rg1]
              refine rgS 13 (fun K hK => ?_)
              go_simp
              refine hK.out _ _ (HKT.out _ _ hH_4 ((Below.refl _ _).alloc (Nat.le_refl _) _)) (fun hH_5 => ?_)
              clear hK K
              try simp only [rgp, rgn, rg0, rg1]
              refine rgBase hH_5 (fun hH_5b => ?_)
              cases c3 : (timeB (V.gv k).su)
              · refine rgS 14 (fun K hK => ?_)
                go_simp
                (go_at_call 82; first | refine (timeOk_at1 _ _ _ _ _ _ hH_5b.1 rfl).mono ?_ | refine (timeOk_at1 _ _ _ _ _ _ (undrewB hH_5b.1) rfl).mono ?_; rintro e wv6 ⟨rfl, rfl⟩)
                go_wp2_with fail
                refine hK.out _ _ (hH_5b) (fun hH_6 => ?_)
                clear hK K
                try simp only [rgp, rgn, rg0, rg1]
                refine rgT 15 ?_ ?_ hH_6 ?_; rotate_left; · (intro w s; (try dsimp only at s); go_simp; try with_reducible rfl)
                try simp only [rgp, rg0, rg1]
                refine rgT 16 ?_ ?_ hH_6 ?_; rotate_left; · (intro w s; (try dsimp only at s); go_simp; try with_reducible rfl)
                try simp only [rgp, rg0, rg1]
                refine rgT 17 ?_ ?_ hH_6 ?_; rotate_left; · (intro w s; (try dsimp only at s); go_simp; try with_reducible rfl)
                try simp only [rgp, rg0, rg1]
                refine rgU 18 hH_6 ?_; try simp only [rgp, rg0, rg1]
                refine rgU 19 hH_6 ?_; try simp only [rgp, rg0, rg1]
                refine rgU 20 hH_6 ?_; try simp only [rgp, rg0, rg1]
                refine rgU 21 hH_6 ?_; try simp only [rgp, rg0, rg1]
                refine rgU 22 hH_6 ?_; try simp only [rgp, rg0, rg1]
                refine rgU 23 hH_6 ?_; try simp only [rgp, rg0, rg1]
                refine rgU 24 hH_6 ?_; try simp only [rgp, rg0, rg1]
                refine rgU 25 hH_6 ?_; try simp only [rgp, rg0, rg1]
                refine rgU 26 hH_6 ?_; try simp only [rgp, rg0, rg1]
                refine rgT 27 ?_ ?_ hH_6 ?_; rotate_left; · (intro w s; (try dsimp only at s); go_simp; try with_reducible rfl)
                try simp only [rgp, rg0, rg1]
                refine rgT 28 ?_ ?_ hH_6 ?_; rotate_left; · (intro w s; (try dsimp only at s); go_simp; try with_reducible rfl)
                try simp only [rgp, rg0, rg1]
                refine rgU 29 hH_6 ?_; try simp only [rgp, rg0, rg1]
                refine rgU 30 hH_6 ?_; try simp only [rgp, rg0, rg1]
                refine rgU 31 hH_6 ?_; try simp only [rgp, rg0, rg1]
                refine rgU 32 hH_6 ?_; try simp only [rgp, rg0, rg1]
                refine rgT 33 ?_ ?_ hH_6 ?_; rotate_left; · (intro w s; (try dsimp only at s); go_simp; try with_reducible rfl)
                try simp only [rgp, rg0, rg1]
                refine wpAnyH_done (by kernel_rfl) ?_ _
                go_wp2
                go_meet
                try simp at c2
                exact ⟨by simp [usedG, c1, c2, c3], hbx.trans (hH_6.2.1.mono hbx.size)⟩
              · refine rgS 14 (fun K hK => ?_)
                go_simp
                (go_at_call 82; first | refine (timeOk_at1 _ _ _ _ _ _ hH_5b.1 rfl).mono ?_ | refine (timeOk_at1 _ _ _ _ _ _ (undrewB hH_5b.1) rfl).mono ?_; rintro e wv7 ⟨rfl, rfl⟩)
                go_wp2_with fail
                refine hK.out _ _ (hH_5b) (fun hH_7 => ?_)
                clear hK K
                try simp only [rgp, rgn, rg0, rg1]
                refine rgT 15 ?_ ?_ hH_7 ?_; rotate_left; · (intro w s; (try dsimp only at s); go_simp; try with_reducible rfl)
                try simp only [rgp, rg0, rg1]
                refine rgT 16 ?_ ?_ hH_7 ?_; rotate_left; · (intro w s; (try dsimp only at s); go_simp; try with_reducible rfl)
                try simp only [rgp, rg0, rg1]
                refine rgT 17 ?_ ?_ hH_7 ?_; rotate_left; · (intro w s; (try dsimp only at s); go_simp; try with_reducible rfl)
                try simp only [rgp, rg0, rg1]
                refine rgT 18 ?_ ?_ hH_7 ?_; rotate_left; · (intro w s; (try dsimp only at s); go_simp; try with_reducible rfl)
                try simp only [rgp, rg0, rg1]
                refine rgT 19 ?_ ?_ hH_7 ?_; rotate_left; · (intro w s; (try dsimp only at s); go_simp; try with_reducible rfl)
                try simp only [rgp, rg0, rg1]
                refine rgT 20 ?_ ?_ hH_7 ?_; rotate_left; · (intro w s; (try dsimp only at s); go_simp; try with_reducible rfl)
                try simp only [rgp, rg0, rg1]
                refine rgT 21 ?_ ?_ hH_7 ?_; rotate_left; · (intro w s; (try dsimp only at s); go_simp; try with_reducible rfl)
                try simp only [rgp, rg0, rg1]
                refine rgT 22 ?_ ?_ hH_7 ?_; rotate_left; · (intro w s; (try dsimp only at s); go_simp; try with_reducible rfl)
                try simp only [rgp, rg0, rg1]
                refine rgT 23 ?_ ?_ hH_7 ?_; rotate_left; · (intro w s; (try dsimp only at s); go_simp; try with_reducible rfl)
                try simp only [rgp, rg0, rg1]
                refine rgT 24 ?_ ?_ hH_7 ?_; rotate_left; · (intro w s; (try dsimp only at s); go_simp; try with_reducible rfl)
                try simp only [rgp, rg0, rg1]
                refine rgT 25 ?_ ?_ hH_7 ?_; rotate_left; · (intro w s; (try dsimp only at s); go_simp; try with_reducible rfl)
                try simp only [rgp, rg0, rg1]
                cases c4 : (((V.gv k).sn : Int) != V.cn)
                · refine rgT 26 ?_ ?_ hH_7 ?_; rotate_left; · (intro w s; (try dsimp only at s); go_simp; try with_reducible rfl)
                  try simp only [rgp, rg0, rg1]
                  refine rgT 27 ?_ ?_ hH_7 ?_; rotate_left; · (intro w s; (try dsimp only at s); go_simp; try with_reducible rfl)
                  try simp only [rgp, rg0, rg1]
                  refine rgT 28 ?_ ?_ hH_7 ?_; rotate_left; · (intro w s; (try dsimp only at s); go_simp; try with_reducible rfl)
                  try simp only [rgp, rg0, rg1]
                  refine rgT 29 ?_ ?_ hH_7 ?_; rotate_left; · (intro w s; (try dsimp only at s); go_simp; try with_reducible rfl)
                  try simp only [rgp, rg0, rg1]
                  refine rgT 30 ?_ ?_ hH_7 ?_; rotate_left; · (intro w s; (try dsimp only at s); go_simp; try with_reducible rfl)
                  try simp only [rgp, rg0, rg1]
                  cases c5 : (quotaI V (V.gv k))
                  · refine rgS 31 (fun K hK => ?_)
                    go_simp
                    (go_at_call 88; refine (HQ.out _ (hbx.trans (hH_7.2.1.mono hbx.size))).mono ?_; rintro e wv8 ⟨rfl, hbb8⟩)
                    go_wp2_with fail
                    refine hK.out _ _ ((keep2 HKT.out) _ _ hH_7 hbb8) (fun hH_8 => ?_)
                    clear hK K
                    try simp only [rgp, rgn, rg0, rg1]
                    refine rgT 32 ?_ ?_ hH_8 ?_; rotate_left; · (intro w s; (try dsimp only at s); go_simp; try with_reducible rfl)
                    try simp only [rgp, rg0, rg1]
                    refine rgT 33 ?_ ?_ hH_8 ?_; rotate_left; · (intro w s; (try dsimp only at s); go_simp; try with_reducible rfl)
                    try simp only [rgp, rg0, rg1]
                    refine wpAnyH_done (by kernel_rfl) ?_ _
                    go_wp2
                    go_meet
                    try simp at c2
                    try simp at c4
                    exact ⟨by simp [usedG, c1, c2, c3, c4, c5], hbx.trans (hH_8.2.1.mono hbx.size)⟩
                  · refine rgS 31 (fun K hK => ?_)
                    go_simp
                    (go_at_call 88; refine (HQ.out _ (hbx.trans (hH_7.2.1.mono hbx.size))).mono ?_; rintro e wv9 ⟨rfl, hbb9⟩)
                    go_wp2_with fail
                    refine hK.out _ _ ((keep2 HKT.out) _ _ hH_7 hbb9) (fun hH_9 => ?_)
                    clear hK K
                    try simp only [rgp, rgn, rg0, rg1]
                    refine rgT 32 ?_ ?_ hH_9 ?_; rotate_left; · (intro w s; (try dsimp only at s); go_simp; try with_reducible rfl)
                    try simp only [rgp, rg0, rg1]
                    refine rgT 33 ?_ ?_ hH_9 ?_; rotate_left; · (intro w s; (try dsimp only at s); go_simp; try with_reducible rfl)
                    try simp only [rgp, rg0, rg1]
                    refine wpAnyH_done (by kernel_rfl) ?_ _
                    go_wp2
                    go_meet
                    try simp at c2
                    try simp at c4
                    exact ⟨by simp [usedG, c1, c2, c3, c4, c5], hbx.trans (hH_9.2.1.mono hbx.size)⟩
                · refine rgT 26 ?_ ?_ hH_7 ?_; rotate_left; · (intro w s; (try dsimp only at s); go_simp; try with_reducible rfl)
                  try simp only [rgp, rg0, rg1]
                  refine rgT 27 ?_ ?_ hH_7 ?_; rotate_left; · (intro w s; (try dsimp only at s); go_simp; try with_reducible rfl)
                  try simp only [rgp, rg0, rg1]
                  refine rgT 28 ?_ ?_ hH_7 ?_; rotate_left; · (intro w s; (try dsimp only at s); go_simp; try with_reducible rfl)
                  try simp only [rgp, rg0, rg1]
                  refine rgU 29 hH_7 ?_; try simp only [rgp, rg0, rg1]
                  refine rgU 30 hH_7 ?_; try simp only [rgp, rg0, rg1]
                  refine rgU 31 hH_7 ?_; try simp only [rgp, rg0, rg1]
                  refine rgU 32 hH_7 ?_; try simp only [rgp, rg0, rg1]
                  refine rgT 33 ?_ ?_ hH_7 ?_; rotate_left; · (intro w s; (try dsimp only at s); go_simp; try with_reducible rfl)
                  try simp only [rgp, rg0, rg1]
                  refine wpAnyH_done (by kernel_rfl) ?_ _
                  go_wp2
                  go_meet
                  try simp at c2
                  try simp at c4
                  exact ⟨by simp [usedG, c1, c2, c3, c4], hbx.trans (hH_7.2.1.mono hbx.size)⟩
        case rest =>
          obtain ⟨rfl, HX⟩ := hcut
          cases hE : (usedG V (V.gv k) && quotaI V (V.gv k))
          · go_wp2
            go_ret
            exact ⟨ret_boolB (HF.out (by rw [HE.out]; exact hE)).symm, HX.out⟩
          · go_wp2
            go_roundw
            case rel => exact ⟨k + 1, by omega, by go_num, HT.out (by rw [HE.out]; exact hE), HX.out⟩
            case measure => simp [intOf]; omega
    · obtain rfl : k = V.gn := by omega
      have HAO := HA
      have hr : Hid (wr.rangeAt a.ga (a.og + 0 * 14) [.bool (V.gv 0).us, .int .i64 (V.gv 0).pa, .string (V.gv 0).nm, .int .i64 (V.gv 0).we, .int .i64 (V.gv 0).cp, .int .i64 (V.gv 0).pe, .int .i64 (V.gv 0).ne, .int .i64 (V.gv 0).su, .int .i64 (V.gv 0).qu, .int .i64 (V.gv 0).po, .int .i64 (V.gv 0).sp, .slice (a.gh 0).la (V.gv 0).ln (a.gh 0).lc, .slice (a.gh 0).da (V.gv 0).dn (a.gh 0).dc, .slice (a.gh 0).sa (V.gv 0).sn (a.gh 0).sc]) := rangeAt_below (HM.out.g 0 h1) HB.out hgl
      have j3 := (HB.out.cell (p := ⟨hw, 3, none⟩) hkl).trans k3
      clear HA HQQ
      cases r1 : ((V.gv 0).we == 10)
      · simp only [Nat.zero_mul, Nat.add_zero] at hr
        go_wp2_with (refine wpList_load_mid rfl 68 _ rfl a.ga (a.og) rfl _ _ (rangeAt_below hr.out (B := w.heap.size) (by go_grown) hgl) Tryz.underlying68 rfl (by kernel_rfl) ?_)
        go_wp2
        go_ret
        exact ⟨ret_boolB (by simp [HAO.out, rootI, r1]), HB.out.alloc hz _⟩
      cases r2 : ((V.gv 0).cp == 15)
      · simp only [Nat.zero_mul, Nat.add_zero] at hr
        go_wp2_with (refine wpList_load_mid rfl 68 _ rfl a.ga (a.og) rfl _ _ (rangeAt_below hr.out (B := w.heap.size) (by go_grown) hgl) Tryz.underlying68 rfl (by kernel_rfl) ?_)
        go_wp2
        go_ret
        exact ⟨ret_boolB (by simp [HAO.out, rootI, r1, r2]), HB.out.alloc hz _⟩
      cases r3 : ((V.gv 0).qu == 0)
      · simp only [Nat.zero_mul, Nat.add_zero] at hr
        go_wp2_with (refine wpList_load_mid rfl 68 _ rfl a.ga (a.og) rfl _ _ (rangeAt_below hr.out (B := w.heap.size) (by go_grown) hgl) Tryz.underlying68 rfl (by kernel_rfl) ?_)
        go_wp2
        go_ret
        exact ⟨ret_boolB (by simp [HAO.out, rootI, r1, r2, r3]), HB.out.alloc hz _⟩
      simp only [Nat.zero_mul, Nat.add_zero] at hr
      go_wp2_with (refine wpList_load_mid rfl 68 _ rfl a.ga (a.og) rfl _ _ (rangeAt_below hr.out (B := w.heap.size) (by go_grown) hgl) Tryz.underlying68 rfl (by kernel_rfl) ?_)
      go_wp2
      go_ret
      exact ⟨ret_boolB (by simp [HAO.out, rootI, r1, r2, r3]), HB.out.alloc hz _⟩
end Go.Proofs.YtndbmeedimhohaaGreat

/- Worlds: groups that are not used (printed by mkv.py). -/
import Derived.Test.YtndbmeedimhohaaGreatFV4Base
import Derived.Deep.RegionHeld3
import Derived.Deep.Cut
import Derived.Deep.CutRange
namespace Go.Proofs.YtndbmeedimhohaaGreat
open Go.RowKit
set_option maxHeartbeats 4000000 in
theorem bandZero_any (g : GV) (u : GH) (w : World) :
    Calls Tryz.prog 108 #[.agg #[.int .i64 g.qu, .int .i64 g.po, .int .i64 g.sp, .slice u.la g.ln u.lc, .slice u.da g.dn u.dc]] w fun e w' => e = .returned (.bool (nobandB g)) ∧ Below w.heap.size w w' := by
  cases h1 : (g.qu == 0)
  · go_enter Tryz.func108, Tryz.ntmps108
    go_wp2
    go_ret
    exact ⟨ret_boolB (by simp [nobandB, h1]), by go_grown⟩
  cases h2 : (g.po == 0)
  · go_enter Tryz.func108, Tryz.ntmps108
    go_wp2
    go_ret
    exact ⟨ret_boolB (by simp [nobandB, h1, h2]), by go_grown⟩
  cases h3 : (g.sp == 0)
  · go_enter Tryz.func108, Tryz.ntmps108
    go_wp2
    go_ret
    exact ⟨ret_boolB (by simp [nobandB, h1, h2, h3]), by go_grown⟩
  cases h4 : ((g.ln : Int) == 0)
  · go_enter Tryz.func108, Tryz.ntmps108
    go_wp2
    go_ret
    exact ⟨ret_boolB (by simp [nobandB, h1, h2, h3, h4]), by go_grown⟩
  cases h5 : ((g.dn : Int) == 0)
  · go_enter Tryz.func108, Tryz.ntmps108
    go_wp2
    go_ret
    exact ⟨ret_boolB (by simp [nobandB, h1, h2, h3, h4, h5]), by go_grown⟩
  go_enter Tryz.func108, Tryz.ntmps108
  go_wp2
  go_ret
  exact ⟨ret_boolB (by simp [nobandB, h1, h2, h3, h4, h5]), by go_grown⟩
set_option maxHeartbeats 4000000 in
theorem groupZero_any (g : GV) (u : GH) (w : World) :
    Calls Tryz.prog 85 #[.agg #[.bool g.us, .int .i64 g.pa, .string g.nm, .int .i64 g.we, .int .i64 g.cp, .int .i64 g.pe, .int .i64 g.ne, .int .i64 g.su, .int .i64 g.qu, .int .i64 g.po, .int .i64 g.sp, .slice u.la g.ln u.lc, .slice u.da g.dn u.dc, .slice u.sa g.sn u.sc]] w fun e w' => e = .returned (.bool (!g.us && zeroG g)) ∧ Below w.heap.size w w' := by
  have HB : Hid (∀ w', Calls Tryz.prog 108 #[.agg #[.int .i64 g.qu, .int .i64 g.po, .int .i64 g.sp, .slice u.la g.ln u.lc, .slice u.da g.dn u.dc]] w' fun e w'' => e = .returned (.bool (nobandB g)) ∧ Below w'.heap.size w' w'') := fun w' => bandZero_any g u w'
  cases h0 : g.us
  case true =>
    go_enter Tryz.func85, Tryz.ntmps85
    go_wp2
    go_ret
    exact ⟨ret_boolB (by simp []), by go_grown⟩
  cases h1 : (g.pa == 0)
  · go_enter Tryz.func85, Tryz.ntmps85
    go_wp2
    go_ret
    exact ⟨ret_boolB (by simp [zeroG, h1]), by go_grown⟩
  by_cases h2 : g.nm = ByteArray.empty
  rotate_left
  · have h2s : ¬ g.nm.toList = [] := fun e => h2 (ByteArray.ext (Array.toList_inj.1 (by rw [ByteArray.toList_eq] at e; rw [e]; rfl)))
    go_enter Tryz.func85, Tryz.ntmps85
    go_wp2
    go_ret
    exact ⟨ret_boolB (by simp [zeroG, h1, h2]), by go_grown⟩
  have h2s : g.nm.toList = [] := by rw [h2]; simp [ByteArray.toList_eq]
  have h2x := Lib.hid h2
  clear h2
  cases h3 : (g.we == 0)
  · go_enter Tryz.func85, Tryz.ntmps85
    go_wp2
    go_ret
    exact ⟨ret_boolB (by simp [zeroG, h1, h2x.out, h3]), by go_grown⟩
  cases h4 : (g.cp == 0)
  · go_enter Tryz.func85, Tryz.ntmps85
    go_wp2
    go_ret
    exact ⟨ret_boolB (by simp [zeroG, h1, h2x.out, h3, h4]), by go_grown⟩
  cases h5 : (g.pe == 0)
  · go_enter Tryz.func85, Tryz.ntmps85
    go_wp2
    go_ret
    exact ⟨ret_boolB (by simp [zeroG, h1, h2x.out, h3, h4, h5]), by go_grown⟩
  cases h6 : (g.ne == 0)
  · go_enter Tryz.func85, Tryz.ntmps85
    go_wp2
    go_ret
    exact ⟨ret_boolB (by simp [zeroG, h1, h2x.out, h3, h4, h5, h6]), by go_grown⟩
  cases h7 : (g.su == 0)
  · go_enter Tryz.func85, Tryz.ntmps85
    go_wp2
    go_ret
    exact ⟨ret_boolB (by simp [zeroG, h1, h2x.out, h3, h4, h5, h6, h7]), by go_grown⟩
  cases h8 : (nobandB g)
  · go_enter Tryz.func85, Tryz.ntmps85
    go_wp2_with (go_at_call 108; refine (HB.out _).mono ?_; rintro e w1 ⟨rfl, hb1⟩; (have d13 : w1.cell? ⟨w.heap.size, 13, none⟩ = some (.slice u.sa g.sn u.sc) := ((Bk.new w 68 (#[.bool false, .int .i64 g.pa, .string g.nm, .int .i64 g.we, .int .i64 g.cp, .int .i64 g.pe, .int .i64 g.ne, .int .i64 g.su, .int .i64 g.qu, .int .i64 g.po, .int .i64 g.sp, .slice u.la g.ln u.lc, .slice u.da g.dn u.dc, .slice u.sa g.sn u.sc])).below hb1 (Bk.new w _ _).lt).cell 13))
    go_ret
    exact ⟨ret_boolB (by simp [zeroG, h1, h2x.out, h3, h4, h5, h6, h7, h8]), by first | exact ((Below.refl _ w).alloc (Nat.le_refl _) _).trans (hb1.mono (by simp)) | go_grown⟩
  cases h9 : ((g.sn : Int) == 0)
  · go_enter Tryz.func85, Tryz.ntmps85
    go_wp2_with (go_at_call 108; refine (HB.out _).mono ?_; rintro e w1 ⟨rfl, hb1⟩; (have d13 : w1.cell? ⟨w.heap.size, 13, none⟩ = some (.slice u.sa g.sn u.sc) := ((Bk.new w 68 (#[.bool false, .int .i64 g.pa, .string g.nm, .int .i64 g.we, .int .i64 g.cp, .int .i64 g.pe, .int .i64 g.ne, .int .i64 g.su, .int .i64 g.qu, .int .i64 g.po, .int .i64 g.sp, .slice u.la g.ln u.lc, .slice u.da g.dn u.dc, .slice u.sa g.sn u.sc])).below hb1 (Bk.new w _ _).lt).cell 13))
    go_ret
    exact ⟨ret_boolB (by simp [zeroG, h1, h2x.out, h3, h4, h5, h6, h7, h8, h9]), by first | exact ((Below.refl _ w).alloc (Nat.le_refl _) _).trans (hb1.mono (by simp)) | go_grown⟩
  go_enter Tryz.func85, Tryz.ntmps85
  go_wp2_with (go_at_call 108; refine (HB.out _).mono ?_; rintro e w1 ⟨rfl, hb1⟩; (have d13 : w1.cell? ⟨w.heap.size, 13, none⟩ = some (.slice u.sa g.sn u.sc) := ((Bk.new w 68 (#[.bool false, .int .i64 g.pa, .string g.nm, .int .i64 g.we, .int .i64 g.cp, .int .i64 g.pe, .int .i64 g.ne, .int .i64 g.su, .int .i64 g.qu, .int .i64 g.po, .int .i64 g.sp, .slice u.la g.ln u.lc, .slice u.da g.dn u.dc, .slice u.sa g.sn u.sc])).below hb1 (Bk.new w _ _).lt).cell 13))
  go_ret
  exact ⟨ret_boolB (by simp [zeroG, h1, h2x.out, h3, h4, h5, h6, h7, h8, h9]), by first | exact ((Below.refl _ w).alloc (Nat.le_refl _) _).trans (hb1.mono (by simp)) | go_grown⟩
end Go.Proofs.YtndbmeedimhohaaGreat
namespace Go.Proofs.YtndbmeedimhohaaGreat
open Go.RowKit
section
variable {P : Program} {md : Region.Mode} {ops : Array Oper} {Q : Exit → Act → World → Prop} {S : World → Prop}
theorem heldAt {i : Nat} {oi : Oper} {rest : List Oper} (hi : ops.toList.drop i = oi :: rest) : ops[i]? = some oi := by
  have h : ops.toList[i]? = (ops.toList.drop i)[0]? := by simp
  rw [hi] at h
  simpa using h
theorem heldTake {i : Nat} {oi : Oper} {rest : List Oper} {v : Value} {fuel : Nat} {listed : Array Bool} {a : Act} {w : World} (hi : ops.toList.drop i = oi :: rest)
    (hs : Region.noSelect ops = true) (hf : Region.free md ops listed i = true) (hr : (Region.ready md ops listed).contains i = true)
    (hQ : ∀ c a w, Q (.panic c) (a.put oi.dst v) w → Q (.panic c) a w) (hg : Region.wanted oi (yielded ops a.tmps) = true) (hy : ∀ w, S w → (execOp a.eval oi).run P w = .ok (.value v) w) (hS : S w)
    (h : wpAnyH P md ops Q S fuel (listed.setIfInBounds i true) (a.put oi.dst v) w) : wpAnyH P md ops Q S (fuel + 1) listed a w :=
  wpAnyH_take (heldAt hi) hs hf hr hQ (Or.inl ⟨hg, hy⟩) hS h
theorem heldSkip {i : Nat} {oi : Oper} {rest : List Oper} {fuel : Nat} {listed : Array Bool} {a : Act} {w : World} (hi : ops.toList.drop i = oi :: rest)
    (hs : Region.noSelect ops = true) (hf : Region.free md ops listed i = true) (hr : (Region.ready md ops listed).contains i = true)
    (hQ : ∀ c a w, Q (.panic c) (a.put oi.dst undef) w → Q (.panic c) a w) (hg : Region.wanted oi (yielded ops a.tmps) = false) (hS : S w)
    (h : wpAnyH P md ops Q S fuel (listed.setIfInBounds i true) (a.put oi.dst undef) w) : wpAnyH P md ops Q S (fuel + 1) listed a w :=
  wpAnyH_take (heldAt hi) hs hf hr hQ (Or.inr ⟨hg, rfl⟩) hS h
theorem heldStep {i : Nat} {oi : Oper} {rest : List Oper} {fuel : Nat} {listed : Array Bool} {a : Act} {w : World} (hi : ops.toList.drop i = oi :: rest)
    (hr : Region.ready md ops listed = [i]) (hg : Region.wanted oi (yielded ops a.tmps) = true)
    (h : ∀ K' : Act → World → Prop, Shut (∀ a w, S w → (S w → wpAnyH P md ops Q S fuel (listed.setIfInBounds i true) a w) → K' a w) → Oper.wp P oi a w K' Q) :
    wpAnyH P md ops Q S (fuel + 1) listed a w :=
  wpAnyH_ready hr (by simp) (AllReadyH.cons (heldAt hi) (fun K hK => by rw [if_pos hg]; exact h K hK) AllReadyH.nil)
end
end Go.Proofs.YtndbmeedimhohaaGreat
namespace Go.Proofs.YtndbmeedimhohaaGreat
open Go.RowKit
set_option maxHeartbeats 4000000 in
theorem quotaOk_any (V : WV) (g : GV) (u : GH) (hw : Nat) (ca : Option Addr) (cc : Nat) (x2 x3 : Value) (hnow : timeB V.now = true) (_hcn : V.cn ≤ 4) (hl : g.ln ≤ 1048576) (hd : g.dn ≤ 1048576) (w : World) (hk : Bk w hw 33 #[.int .i64 V.now, .slice ca V.cn cc, x2, x3]) (hg : GRd w w.heap.size g u) :
    Calls Tryz.prog 88 #[.pointer (some ⟨hw, 0, none⟩), .agg #[.bool g.us, .int .i64 g.pa, .string g.nm, .int .i64 g.we, .int .i64 g.cp, .int .i64 g.pe, .int .i64 g.ne, .int .i64 g.su, .int .i64 g.qu, .int .i64 g.po, .int .i64 g.sp, .slice u.la g.ln u.lc, .slice u.da g.dn u.dc, .slice u.sa g.sn u.sc]] w fun e w' => e = .returned (.bool (quotaI V g)) ∧ Below w.heap.size w w' := by
  obtain ⟨k0, k1, _, _⟩ := hk.four
  obtain ⟨t1, t2⟩ := timeB_t hnow
  have hkl := hk.lt
  have HB : Hid (∀ w', Calls Tryz.prog 108 #[.agg #[.int .i64 g.qu, .int .i64 g.po, .int .i64 g.sp, .slice u.la g.ln u.lc, .slice u.da g.dn u.dc]] w' fun e w'' => e = .returned (.bool (nobandB g)) ∧ Below w'.heap.size w' w'') := fun w' => bandZero_any g u w'
  have HQ : Hid (∀ w', Below w.heap.size w w' → Calls Tryz.prog 110 #[.agg #[.int .i64 g.qu, .int .i64 g.po, .int .i64 g.sp, .slice u.la g.ln u.lc, .slice u.da g.dn u.dc]] w' fun e w'' => e = .returned (.bool (bandOk g.qu g.po g.sp g.ln g.dn g.lf g.df)) ∧ Below w'.heap.size w' w'') := fun w' hb => iBandOk_any _ _ _ _ _ _ _ _ _ (by omega) (by omega) _ _ w' w' (Below.refl _ _) (hg.at_ hb).l (hg.at_ hb).d
  have HG : Hid (Bk (w.alloc (.cells (#[.bool g.us, .int .i64 g.pa, .string g.nm, .int .i64 g.we, .int .i64 g.cp, .int .i64 g.pe, .int .i64 g.ne, .int .i64 g.su, .int .i64 g.qu, .int .i64 g.po, .int .i64 g.sp, .slice u.la g.ln u.lc, .slice u.da g.dn u.dc, .slice u.sa g.sn u.sc]) 68)) w.heap.size 68 (#[.bool g.us, .int .i64 g.pa, .string g.nm, .int .i64 g.we, .int .i64 g.cp, .int .i64 g.pe, .int .i64 g.ne, .int .i64 g.su, .int .i64 g.qu, .int .i64 g.po, .int .i64 g.sp, .slice u.la g.ln u.lc, .slice u.da g.dn u.dc, .slice u.sa g.sn u.sc])) := Bk.new w _ _
  have HK := Lib.hid hk
  have HW1 : Hid (IntKind.i64.wrap (V.now + 1) = V.now + 1) := wrap_in (by omega) (by omega)
  have HW2 : Hid (inR g.pe 1 1000 = true → IntKind.i64.wrap (V.now + g.pe) = V.now + g.pe) := fun h => by have := inR_iff.1 h; exact wrap_in (by omega) (by omega)
  have HE : Hid (quotaI V g = if nobandB g then (g.pe == 0) && (g.ne == 0) else bandOk g.qu g.po g.sp g.ln g.dn g.lf g.df && ((g.ln : Int) == V.cn) && inR g.pe 1 1000 && inR g.ne (V.now + 1) (V.now + g.pe)) := rfl
  have HB1 := Lib.hid (Below.refl w.heap.size w |>.alloc (Nat.le_refl _) (.cells (#[.bool g.us, .int .i64 g.pa, .string g.nm, .int .i64 g.we, .int .i64 g.cp, .int .i64 g.pe, .int .i64 g.ne, .int .i64 g.su, .int .i64 g.qu, .int .i64 g.po, .int .i64 g.sp, .slice u.la g.ln u.lc, .slice u.da g.dn u.dc, .slice u.sa g.sn u.sc]) 68))
  obtain ⟨Z, hZ⟩ : ∃ Z, Z = nobandB g := ⟨_, rfl⟩
  obtain ⟨Q, hQ⟩ : ∃ Q, Q = bandOk g.qu g.po g.sp g.ln g.dn g.lf g.df := ⟨_, rfl⟩
  obtain ⟨R, hR⟩ : ∃ R, R = quotaI V g := ⟨_, rfl⟩
  rw [← hZ] at HB HE
  rw [← hQ] at HQ HE
  rw [← hR] at HE ⊢
  clear hZ hQ hR hk hg hnow
  cases hz : Z
  case true =>
    cases h1 : (g.pe == 0)
    · go_enter Tryz.func88, Tryz.ntmps88
      go_wp2_with (go_at_call 108; refine (HB.out _).mono ?_; rintro e w1 ⟨rfl, hb1⟩; have hk1 := HG.out.below hb1 HG.out.lt; have d5 : w1.cell? ⟨w.heap.size, 5, none⟩ = some (.int .i64 g.pe) := hk1.cell 5; have d6 : w1.cell? ⟨w.heap.size, 6, none⟩ = some (.int .i64 g.ne) := hk1.cell 6)
      go_ret
      exact ⟨ret_boolB (by rw [HE.out, hz, h1]; simp), HB1.out.trans (hb1.mono HB1.out.size)⟩
    · go_enter Tryz.func88, Tryz.ntmps88
      go_wp2_with (go_at_call 108; refine (HB.out _).mono ?_; rintro e w1 ⟨rfl, hb1⟩; have hk1 := HG.out.below hb1 HG.out.lt; have d5 : w1.cell? ⟨w.heap.size, 5, none⟩ = some (.int .i64 g.pe) := hk1.cell 5; have d6 : w1.cell? ⟨w.heap.size, 6, none⟩ = some (.int .i64 g.ne) := hk1.cell 6)
      go_ret
      exact ⟨ret_boolB (by rw [HE.out, hz, h1]; simp), HB1.out.trans (hb1.mono HB1.out.size)⟩
  cases hq : (Q)
  · go_enter Tryz.func88, Tryz.ntmps88
    go_upto_region 3 with (go_at_call 108; refine (HB.out _).mono ?_; rintro e w1 ⟨rfl, hb1⟩)
    have hbx := HB1.out.trans (hb1.mono HB1.out.size)
    have hkx := HG.out.below hb1 HG.out.lt
    have hwx := HK.out.below hbx hkl
    have KS : ∀ w', Below w1.heap.size w1 w' → (fun w' => Below w1.heap.size w1 w' ∧ w'.cell? ⟨hw, 0, none⟩ = some (.int .i64 V.now) ∧ w'.cell? ⟨hw, 1, none⟩ = some (.slice ca V.cn cc) ∧ w'.cell? ⟨w.heap.size, 5, none⟩ = some (.int .i64 g.pe) ∧ w'.cell? ⟨w.heap.size, 6, none⟩ = some (.int .i64 g.ne) ∧ w'.cell? ⟨w.heap.size, 8, none⟩ = some (.int .i64 g.qu) ∧ w'.cell? ⟨w.heap.size, 9, none⟩ = some (.int .i64 g.po) ∧ w'.cell? ⟨w.heap.size, 10, none⟩ = some (.int .i64 g.sp) ∧ w'.cell? ⟨w.heap.size, 11, none⟩ = some (.slice u.la g.ln u.lc) ∧ w'.cell? ⟨w.heap.size, 12, none⟩ = some (.slice u.da g.dn u.dc)) w' := fun w' h => ⟨h, (h.cell (p := ⟨hw, 0, none⟩) (hwx.lt)).trans ((hwx.cell 0).trans rfl), (h.cell (p := ⟨hw, 1, none⟩) (hwx.lt)).trans ((hwx.cell 1).trans rfl), (h.cell (p := ⟨w.heap.size, 5, none⟩) (hkx.lt)).trans ((hkx.cell 5).trans rfl), (h.cell (p := ⟨w.heap.size, 6, none⟩) (hkx.lt)).trans ((hkx.cell 6).trans rfl), (h.cell (p := ⟨w.heap.size, 8, none⟩) (hkx.lt)).trans ((hkx.cell 8).trans rfl), (h.cell (p := ⟨w.heap.size, 9, none⟩) (hkx.lt)).trans ((hkx.cell 9).trans rfl), (h.cell (p := ⟨w.heap.size, 10, none⟩) (hkx.lt)).trans ((hkx.cell 10).trans rfl), (h.cell (p := ⟨w.heap.size, 11, none⟩) (hkx.lt)).trans ((hkx.cell 11).trans rfl), (h.cell (p := ⟨w.heap.size, 12, none⟩) (hkx.lt)).trans ((hkx.cell 12).trans rfl)⟩
    have KT : ∀ wa wb, (fun w' => Below w1.heap.size w1 w' ∧ w'.cell? ⟨hw, 0, none⟩ = some (.int .i64 V.now) ∧ w'.cell? ⟨hw, 1, none⟩ = some (.slice ca V.cn cc) ∧ w'.cell? ⟨w.heap.size, 5, none⟩ = some (.int .i64 g.pe) ∧ w'.cell? ⟨w.heap.size, 6, none⟩ = some (.int .i64 g.ne) ∧ w'.cell? ⟨w.heap.size, 8, none⟩ = some (.int .i64 g.qu) ∧ w'.cell? ⟨w.heap.size, 9, none⟩ = some (.int .i64 g.po) ∧ w'.cell? ⟨w.heap.size, 10, none⟩ = some (.int .i64 g.sp) ∧ w'.cell? ⟨w.heap.size, 11, none⟩ = some (.slice u.la g.ln u.lc) ∧ w'.cell? ⟨w.heap.size, 12, none⟩ = some (.slice u.da g.dn u.dc)) wa → Below wa.heap.size wa wb → (fun w' => Below w1.heap.size w1 w' ∧ w'.cell? ⟨hw, 0, none⟩ = some (.int .i64 V.now) ∧ w'.cell? ⟨hw, 1, none⟩ = some (.slice ca V.cn cc) ∧ w'.cell? ⟨w.heap.size, 5, none⟩ = some (.int .i64 g.pe) ∧ w'.cell? ⟨w.heap.size, 6, none⟩ = some (.int .i64 g.ne) ∧ w'.cell? ⟨w.heap.size, 8, none⟩ = some (.int .i64 g.qu) ∧ w'.cell? ⟨w.heap.size, 9, none⟩ = some (.int .i64 g.po) ∧ w'.cell? ⟨w.heap.size, 10, none⟩ = some (.int .i64 g.sp) ∧ w'.cell? ⟨w.heap.size, 11, none⟩ = some (.slice u.la g.ln u.lc) ∧ w'.cell? ⟨w.heap.size, 12, none⟩ = some (.slice u.da g.dn u.dc)) wb := fun wa wb h hab => KS wb (h.1.trans (hab.mono h.1.size))
    have HKS := Lib.hid KS
    have HKT := Lib.hid KT
    clear KS KT
    go_wp2
    refine wp_region_held_drew (S := (fun w' => Below w1.heap.size w1 w' ∧ w'.cell? ⟨hw, 0, none⟩ = some (.int .i64 V.now) ∧ w'.cell? ⟨hw, 1, none⟩ = some (.slice ca V.cn cc) ∧ w'.cell? ⟨w.heap.size, 5, none⟩ = some (.int .i64 g.pe) ∧ w'.cell? ⟨w.heap.size, 6, none⟩ = some (.int .i64 g.ne) ∧ w'.cell? ⟨w.heap.size, 8, none⟩ = some (.int .i64 g.qu) ∧ w'.cell? ⟨w.heap.size, 9, none⟩ = some (.int .i64 g.po) ∧ w'.cell? ⟨w.heap.size, 10, none⟩ = some (.int .i64 g.sp) ∧ w'.cell? ⟨w.heap.size, 11, none⟩ = some (.slice u.la g.ln u.lc) ∧ w'.cell? ⟨w.heap.size, 12, none⟩ = some (.slice u.da g.dn u.dc))) (by kernel_rfl) (HKS.out _ (Below.refl _ _).drew) (fun hH0 => ?_)
    refine heldTake (i := 0) rfl (by kernel_rfl) (by kernel_rfl) (by kernel_rfl) (fun _ _ _ h => h) (by rfl) (v := ?_) ?_ hH0 ?_
    rotate_left; · (intro w hSw; (try dsimp only at hSw); go_simp; try with_reducible rfl)
    try simp only [Act.put, List.setIfInBounds_toArray, List.set_cons_zero, List.set_cons_succ]
    refine heldTake (i := 1) rfl (by kernel_rfl) (by kernel_rfl) (by kernel_rfl) (fun _ _ _ h => h) (by rfl) (v := ?_) ?_ hH0 ?_
    rotate_left; · (intro w hSw; (try dsimp only at hSw); go_simp; try with_reducible rfl)
    try simp only [Act.put, List.setIfInBounds_toArray, List.set_cons_zero, List.set_cons_succ]
    refine heldStep (i := 2) rfl (by kernel_rfl) (by rfl) (fun K hK => ?_)
    go_simp
    (go_at_call 110; refine (HQ.out _ (hbx.trans (hH0.1.mono hbx.size))).mono ?_; rintro e wv1 ⟨rfl, hbb1⟩)
    go_wp2_with fail
    refine hK.out _ _ (HKT.out _ _ hH0 hbb1) (fun hH1 => ?_)
    clear hK K
    try simp only [Act.put, List.setIfInBounds_toArray, List.set_cons_zero, List.set_cons_succ]
    refine heldTake (i := 3) rfl (by kernel_rfl) (by kernel_rfl) (by kernel_rfl) (fun _ _ _ h => h) (by rfl) (v := ?_) ?_ hH1 ?_
    rotate_left; · (intro w hSw; (try dsimp only at hSw); go_simp; try with_reducible rfl)
    try simp only [Act.put, List.setIfInBounds_toArray, List.set_cons_zero, List.set_cons_succ]
    refine heldSkip (i := 4) rfl (by kernel_rfl) (by kernel_rfl) (by kernel_rfl) (fun _ _ _ h => h) (by rfl) hH1 ?_
    try simp only [Act.put, List.setIfInBounds_toArray, List.set_cons_zero, List.set_cons_succ]
    refine heldSkip (i := 5) rfl (by kernel_rfl) (by kernel_rfl) (by kernel_rfl) (fun _ _ _ h => h) (by rfl) hH1 ?_
    try simp only [Act.put, List.setIfInBounds_toArray, List.set_cons_zero, List.set_cons_succ]
    refine heldSkip (i := 6) rfl (by kernel_rfl) (by kernel_rfl) (by kernel_rfl) (fun _ _ _ h => h) (by rfl) hH1 ?_
    try simp only [Act.put, List.setIfInBounds_toArray, List.set_cons_zero, List.set_cons_succ]
    refine heldSkip (i := 7) rfl (by kernel_rfl) (by kernel_rfl) (by kernel_rfl) (fun _ _ _ h => h) (by rfl) hH1 ?_
    try simp only [Act.put, List.setIfInBounds_toArray, List.set_cons_zero, List.set_cons_succ]
    refine heldSkip (i := 8) rfl (by kernel_rfl) (by kernel_rfl) (by kernel_rfl) (fun _ _ _ h => h) (by rfl) hH1 ?_
    try simp only [Act.put, List.setIfInBounds_toArray, List.set_cons_zero, List.set_cons_succ]
    refine heldSkip (i := 9) rfl (by kernel_rfl) (by kernel_rfl) (by kernel_rfl) (fun _ _ _ h => h) (by rfl) hH1 ?_
    try simp only [Act.put, List.setIfInBounds_toArray, List.set_cons_zero, List.set_cons_succ]
    refine heldSkip (i := 10) rfl (by kernel_rfl) (by kernel_rfl) (by kernel_rfl) (fun _ _ _ h => h) (by rfl) hH1 ?_
    try simp only [Act.put, List.setIfInBounds_toArray, List.set_cons_zero, List.set_cons_succ]
    refine heldSkip (i := 11) rfl (by kernel_rfl) (by kernel_rfl) (by kernel_rfl) (fun _ _ _ h => h) (by rfl) hH1 ?_
    try simp only [Act.put, List.setIfInBounds_toArray, List.set_cons_zero, List.set_cons_succ]
    refine heldSkip (i := 12) rfl (by kernel_rfl) (by kernel_rfl) (by kernel_rfl) (fun _ _ _ h => h) (by rfl) hH1 ?_
    try simp only [Act.put, List.setIfInBounds_toArray, List.set_cons_zero, List.set_cons_succ]
    refine heldSkip (i := 13) rfl (by kernel_rfl) (by kernel_rfl) (by kernel_rfl) (fun _ _ _ h => h) (by rfl) hH1 ?_
    try simp only [Act.put, List.setIfInBounds_toArray, List.set_cons_zero, List.set_cons_succ]
    refine heldTake (i := 14) rfl (by kernel_rfl) (by kernel_rfl) (by kernel_rfl) (fun _ _ _ h => h) (by rfl) (v := ?_) ?_ hH1 ?_
    rotate_left; · (intro w hSw; (try dsimp only at hSw); go_simp; try with_reducible rfl)
    try simp only [Act.put, List.setIfInBounds_toArray, List.set_cons_zero, List.set_cons_succ]
    refine heldTake (i := 15) rfl (by kernel_rfl) (by kernel_rfl) (by kernel_rfl) (fun _ _ _ h => h) (by rfl) (v := ?_) ?_ hH1 ?_
    rotate_left; · (intro w hSw; (try dsimp only at hSw); go_simp; try with_reducible rfl)
    try simp only [Act.put, List.setIfInBounds_toArray, List.set_cons_zero, List.set_cons_succ]
    refine heldSkip (i := 16) rfl (by kernel_rfl) (by kernel_rfl) (by kernel_rfl) (fun _ _ _ h => h) (by rfl) hH1 ?_
    try simp only [Act.put, List.setIfInBounds_toArray, List.set_cons_zero, List.set_cons_succ]
    refine heldSkip (i := 17) rfl (by kernel_rfl) (by kernel_rfl) (by kernel_rfl) (fun _ _ _ h => h) (by rfl) hH1 ?_
    try simp only [Act.put, List.setIfInBounds_toArray, List.set_cons_zero, List.set_cons_succ]
    refine heldSkip (i := 18) rfl (by kernel_rfl) (by kernel_rfl) (by kernel_rfl) (fun _ _ _ h => h) (by rfl) hH1 ?_
    try simp only [Act.put, List.setIfInBounds_toArray, List.set_cons_zero, List.set_cons_succ]
    refine heldTake (i := 19) rfl (by kernel_rfl) (by kernel_rfl) (by kernel_rfl) (fun _ _ _ h => h) (by rfl) (v := ?_) ?_ hH1 ?_
    rotate_left; · (intro w hSw; (try dsimp only at hSw); go_simp; try with_reducible rfl)
    try simp only [Act.put, List.setIfInBounds_toArray, List.set_cons_zero, List.set_cons_succ]
    refine heldTake (i := 20) rfl (by kernel_rfl) (by kernel_rfl) (by kernel_rfl) (fun _ _ _ h => h) (by rfl) (v := ?_) ?_ hH1 ?_
    rotate_left; · (intro w hSw; (try dsimp only at hSw); go_simp; try with_reducible rfl)
    try simp only [Act.put, List.setIfInBounds_toArray, List.set_cons_zero, List.set_cons_succ]
    refine heldSkip (i := 21) rfl (by kernel_rfl) (by kernel_rfl) (by kernel_rfl) (fun _ _ _ h => h) (by rfl) hH1 ?_
    try simp only [Act.put, List.setIfInBounds_toArray, List.set_cons_zero, List.set_cons_succ]
    refine heldSkip (i := 22) rfl (by kernel_rfl) (by kernel_rfl) (by kernel_rfl) (fun _ _ _ h => h) (by rfl) hH1 ?_
    try simp only [Act.put, List.setIfInBounds_toArray, List.set_cons_zero, List.set_cons_succ]
    refine heldSkip (i := 23) rfl (by kernel_rfl) (by kernel_rfl) (by kernel_rfl) (fun _ _ _ h => h) (by rfl) hH1 ?_
    try simp only [Act.put, List.setIfInBounds_toArray, List.set_cons_zero, List.set_cons_succ]
    refine heldSkip (i := 24) rfl (by kernel_rfl) (by kernel_rfl) (by kernel_rfl) (fun _ _ _ h => h) (by rfl) hH1 ?_
    try simp only [Act.put, List.setIfInBounds_toArray, List.set_cons_zero, List.set_cons_succ]
    refine heldSkip (i := 25) rfl (by kernel_rfl) (by kernel_rfl) (by kernel_rfl) (fun _ _ _ h => h) (by rfl) hH1 ?_
    try simp only [Act.put, List.setIfInBounds_toArray, List.set_cons_zero, List.set_cons_succ]
    refine heldSkip (i := 26) rfl (by kernel_rfl) (by kernel_rfl) (by kernel_rfl) (fun _ _ _ h => h) (by rfl) hH1 ?_
    try simp only [Act.put, List.setIfInBounds_toArray, List.set_cons_zero, List.set_cons_succ]
    refine heldSkip (i := 27) rfl (by kernel_rfl) (by kernel_rfl) (by kernel_rfl) (fun _ _ _ h => h) (by rfl) hH1 ?_
    try simp only [Act.put, List.setIfInBounds_toArray, List.set_cons_zero, List.set_cons_succ]
    refine heldSkip (i := 28) rfl (by kernel_rfl) (by kernel_rfl) (by kernel_rfl) (fun _ _ _ h => h) (by rfl) hH1 ?_
    try simp only [Act.put, List.setIfInBounds_toArray, List.set_cons_zero, List.set_cons_succ]
    refine heldSkip (i := 29) rfl (by kernel_rfl) (by kernel_rfl) (by kernel_rfl) (fun _ _ _ h => h) (by rfl) hH1 ?_
    try simp only [Act.put, List.setIfInBounds_toArray, List.set_cons_zero, List.set_cons_succ]
    refine heldSkip (i := 30) rfl (by kernel_rfl) (by kernel_rfl) (by kernel_rfl) (fun _ _ _ h => h) (by rfl) hH1 ?_
    try simp only [Act.put, List.setIfInBounds_toArray, List.set_cons_zero, List.set_cons_succ]
    refine heldSkip (i := 31) rfl (by kernel_rfl) (by kernel_rfl) (by kernel_rfl) (fun _ _ _ h => h) (by rfl) hH1 ?_
    try simp only [Act.put, List.setIfInBounds_toArray, List.set_cons_zero, List.set_cons_succ]
    refine heldSkip (i := 32) rfl (by kernel_rfl) (by kernel_rfl) (by kernel_rfl) (fun _ _ _ h => h) (by rfl) hH1 ?_
    try simp only [Act.put, List.setIfInBounds_toArray, List.set_cons_zero, List.set_cons_succ]
    refine heldSkip (i := 33) rfl (by kernel_rfl) (by kernel_rfl) (by kernel_rfl) (fun _ _ _ h => h) (by rfl) hH1 ?_
    try simp only [Act.put, List.setIfInBounds_toArray, List.set_cons_zero, List.set_cons_succ]
    refine heldSkip (i := 34) rfl (by kernel_rfl) (by kernel_rfl) (by kernel_rfl) (fun _ _ _ h => h) (by rfl) hH1 ?_
    try simp only [Act.put, List.setIfInBounds_toArray, List.set_cons_zero, List.set_cons_succ]
    refine heldSkip (i := 35) rfl (by kernel_rfl) (by kernel_rfl) (by kernel_rfl) (fun _ _ _ h => h) (by rfl) hH1 ?_
    try simp only [Act.put, List.setIfInBounds_toArray, List.set_cons_zero, List.set_cons_succ]
    refine heldTake (i := 36) rfl (by kernel_rfl) (by kernel_rfl) (by kernel_rfl) (fun _ _ _ h => h) (by rfl) (v := ?_) ?_ hH1 ?_
    rotate_left; · (intro w hSw; (try dsimp only at hSw); go_simp; try with_reducible rfl)
    try simp only [Act.put, List.setIfInBounds_toArray, List.set_cons_zero, List.set_cons_succ]
    refine heldTake (i := 37) rfl (by kernel_rfl) (by kernel_rfl) (by kernel_rfl) (fun _ _ _ h => h) (by rfl) (v := ?_) ?_ hH1 ?_
    rotate_left; · (intro w hSw; (try dsimp only at hSw); go_simp; try with_reducible rfl)
    try simp only [Act.put, List.setIfInBounds_toArray, List.set_cons_zero, List.set_cons_succ]
    refine wpAnyH_done (by kernel_rfl) ?_ _
    go_wp2
    go_ret
    exact ⟨ret_boolB (by rw [HE.out, hz, hq]; simp), hbx.trans (hH1.1.mono hbx.size)⟩
  cases h2 : ((g.ln : Int) == V.cn)
  · go_enter Tryz.func88, Tryz.ntmps88
    go_upto_region 3 with (go_at_call 108; refine (HB.out _).mono ?_; rintro e w1 ⟨rfl, hb1⟩)
    have hbx := HB1.out.trans (hb1.mono HB1.out.size)
    have hkx := HG.out.below hb1 HG.out.lt
    have hwx := HK.out.below hbx hkl
    have KS : ∀ w', Below w1.heap.size w1 w' → (fun w' => Below w1.heap.size w1 w' ∧ w'.cell? ⟨hw, 0, none⟩ = some (.int .i64 V.now) ∧ w'.cell? ⟨hw, 1, none⟩ = some (.slice ca V.cn cc) ∧ w'.cell? ⟨w.heap.size, 5, none⟩ = some (.int .i64 g.pe) ∧ w'.cell? ⟨w.heap.size, 6, none⟩ = some (.int .i64 g.ne) ∧ w'.cell? ⟨w.heap.size, 8, none⟩ = some (.int .i64 g.qu) ∧ w'.cell? ⟨w.heap.size, 9, none⟩ = some (.int .i64 g.po) ∧ w'.cell? ⟨w.heap.size, 10, none⟩ = some (.int .i64 g.sp) ∧ w'.cell? ⟨w.heap.size, 11, none⟩ = some (.slice u.la g.ln u.lc) ∧ w'.cell? ⟨w.heap.size, 12, none⟩ = some (.slice u.da g.dn u.dc)) w' := fun w' h => ⟨h, (h.cell (p := ⟨hw, 0, none⟩) (hwx.lt)).trans ((hwx.cell 0).trans rfl), (h.cell (p := ⟨hw, 1, none⟩) (hwx.lt)).trans ((hwx.cell 1).trans rfl), (h.cell (p := ⟨w.heap.size, 5, none⟩) (hkx.lt)).trans ((hkx.cell 5).trans rfl), (h.cell (p := ⟨w.heap.size, 6, none⟩) (hkx.lt)).trans ((hkx.cell 6).trans rfl), (h.cell (p := ⟨w.heap.size, 8, none⟩) (hkx.lt)).trans ((hkx.cell 8).trans rfl), (h.cell (p := ⟨w.heap.size, 9, none⟩) (hkx.lt)).trans ((hkx.cell 9).trans rfl), (h.cell (p := ⟨w.heap.size, 10, none⟩) (hkx.lt)).trans ((hkx.cell 10).trans rfl), (h.cell (p := ⟨w.heap.size, 11, none⟩) (hkx.lt)).trans ((hkx.cell 11).trans rfl), (h.cell (p := ⟨w.heap.size, 12, none⟩) (hkx.lt)).trans ((hkx.cell 12).trans rfl)⟩
    have KT : ∀ wa wb, (fun w' => Below w1.heap.size w1 w' ∧ w'.cell? ⟨hw, 0, none⟩ = some (.int .i64 V.now) ∧ w'.cell? ⟨hw, 1, none⟩ = some (.slice ca V.cn cc) ∧ w'.cell? ⟨w.heap.size, 5, none⟩ = some (.int .i64 g.pe) ∧ w'.cell? ⟨w.heap.size, 6, none⟩ = some (.int .i64 g.ne) ∧ w'.cell? ⟨w.heap.size, 8, none⟩ = some (.int .i64 g.qu) ∧ w'.cell? ⟨w.heap.size, 9, none⟩ = some (.int .i64 g.po) ∧ w'.cell? ⟨w.heap.size, 10, none⟩ = some (.int .i64 g.sp) ∧ w'.cell? ⟨w.heap.size, 11, none⟩ = some (.slice u.la g.ln u.lc) ∧ w'.cell? ⟨w.heap.size, 12, none⟩ = some (.slice u.da g.dn u.dc)) wa → Below wa.heap.size wa wb → (fun w' => Below w1.heap.size w1 w' ∧ w'.cell? ⟨hw, 0, none⟩ = some (.int .i64 V.now) ∧ w'.cell? ⟨hw, 1, none⟩ = some (.slice ca V.cn cc) ∧ w'.cell? ⟨w.heap.size, 5, none⟩ = some (.int .i64 g.pe) ∧ w'.cell? ⟨w.heap.size, 6, none⟩ = some (.int .i64 g.ne) ∧ w'.cell? ⟨w.heap.size, 8, none⟩ = some (.int .i64 g.qu) ∧ w'.cell? ⟨w.heap.size, 9, none⟩ = some (.int .i64 g.po) ∧ w'.cell? ⟨w.heap.size, 10, none⟩ = some (.int .i64 g.sp) ∧ w'.cell? ⟨w.heap.size, 11, none⟩ = some (.slice u.la g.ln u.lc) ∧ w'.cell? ⟨w.heap.size, 12, none⟩ = some (.slice u.da g.dn u.dc)) wb := fun wa wb h hab => KS wb (h.1.trans (hab.mono h.1.size))
    have HKS := Lib.hid KS
    have HKT := Lib.hid KT
    clear KS KT
    go_wp2
    refine wp_region_held_drew (S := (fun w' => Below w1.heap.size w1 w' ∧ w'.cell? ⟨hw, 0, none⟩ = some (.int .i64 V.now) ∧ w'.cell? ⟨hw, 1, none⟩ = some (.slice ca V.cn cc) ∧ w'.cell? ⟨w.heap.size, 5, none⟩ = some (.int .i64 g.pe) ∧ w'.cell? ⟨w.heap.size, 6, none⟩ = some (.int .i64 g.ne) ∧ w'.cell? ⟨w.heap.size, 8, none⟩ = some (.int .i64 g.qu) ∧ w'.cell? ⟨w.heap.size, 9, none⟩ = some (.int .i64 g.po) ∧ w'.cell? ⟨w.heap.size, 10, none⟩ = some (.int .i64 g.sp) ∧ w'.cell? ⟨w.heap.size, 11, none⟩ = some (.slice u.la g.ln u.lc) ∧ w'.cell? ⟨w.heap.size, 12, none⟩ = some (.slice u.da g.dn u.dc))) (by kernel_rfl) (HKS.out _ (Below.refl _ _).drew) (fun hH0 => ?_)
    refine heldTake (i := 0) rfl (by kernel_rfl) (by kernel_rfl) (by kernel_rfl) (fun _ _ _ h => h) (by rfl) (v := ?_) ?_ hH0 ?_
    rotate_left; · (intro w hSw; (try dsimp only at hSw); go_simp; try with_reducible rfl)
    try simp only [Act.put, List.setIfInBounds_toArray, List.set_cons_zero, List.set_cons_succ]
    refine heldTake (i := 1) rfl (by kernel_rfl) (by kernel_rfl) (by kernel_rfl) (fun _ _ _ h => h) (by rfl) (v := ?_) ?_ hH0 ?_
    rotate_left; · (intro w hSw; (try dsimp only at hSw); go_simp; try with_reducible rfl)
    try simp only [Act.put, List.setIfInBounds_toArray, List.set_cons_zero, List.set_cons_succ]
    refine heldStep (i := 2) rfl (by kernel_rfl) (by rfl) (fun K hK => ?_)
    go_simp
    (go_at_call 110; refine (HQ.out _ (hbx.trans (hH0.1.mono hbx.size))).mono ?_; rintro e wv1 ⟨rfl, hbb1⟩)
    go_wp2_with fail
    refine hK.out _ _ (HKT.out _ _ hH0 hbb1) (fun hH1 => ?_)
    clear hK K
    try simp only [Act.put, List.setIfInBounds_toArray, List.set_cons_zero, List.set_cons_succ]
    refine heldTake (i := 3) rfl (by kernel_rfl) (by kernel_rfl) (by kernel_rfl) (fun _ _ _ h => h) (by rfl) (v := ?_) ?_ hH1 ?_
    rotate_left; · (intro w hSw; (try dsimp only at hSw); go_simp; try with_reducible rfl)
    try simp only [Act.put, List.setIfInBounds_toArray, List.set_cons_zero, List.set_cons_succ]
    refine heldTake (i := 4) rfl (by kernel_rfl) (by kernel_rfl) (by kernel_rfl) (fun _ _ _ h => h) (by rfl) (v := ?_) ?_ hH1 ?_
    rotate_left; · (intro w hSw; (try dsimp only at hSw); go_simp; try with_reducible rfl)
    try simp only [Act.put, List.setIfInBounds_toArray, List.set_cons_zero, List.set_cons_succ]
    refine heldTake (i := 5) rfl (by kernel_rfl) (by kernel_rfl) (by kernel_rfl) (fun _ _ _ h => h) (by rfl) (v := ?_) ?_ hH1 ?_
    rotate_left; · (intro w hSw; (try dsimp only at hSw); go_simp; try with_reducible rfl)
    try simp only [Act.put, List.setIfInBounds_toArray, List.set_cons_zero, List.set_cons_succ]
    refine heldTake (i := 6) rfl (by kernel_rfl) (by kernel_rfl) (by kernel_rfl) (fun _ _ _ h => h) (by rfl) (v := ?_) ?_ hH1 ?_
    rotate_left; · (intro w hSw; (try dsimp only at hSw); go_simp; try with_reducible rfl)
    try simp only [Act.put, List.setIfInBounds_toArray, List.set_cons_zero, List.set_cons_succ]
    refine heldTake (i := 7) rfl (by kernel_rfl) (by kernel_rfl) (by kernel_rfl) (fun _ _ _ h => h) (by rfl) (v := ?_) ?_ hH1 ?_
    rotate_left; · (intro w hSw; (try dsimp only at hSw); go_simp; try with_reducible rfl)
    try simp only [Act.put, List.setIfInBounds_toArray, List.set_cons_zero, List.set_cons_succ]
    refine heldTake (i := 8) rfl (by kernel_rfl) (by kernel_rfl) (by kernel_rfl) (fun _ _ _ h => h) (by rfl) (v := ?_) ?_ hH1 ?_
    rotate_left; · (intro w hSw; (try dsimp only at hSw); go_simp; try with_reducible rfl)
    try simp only [Act.put, List.setIfInBounds_toArray, List.set_cons_zero, List.set_cons_succ]
    refine heldTake (i := 9) rfl (by kernel_rfl) (by kernel_rfl) (by kernel_rfl) (fun _ _ _ h => h) (by rfl) (v := ?_) ?_ hH1 ?_
    rotate_left; · (intro w hSw; (try dsimp only at hSw); go_simp; try with_reducible rfl)
    try simp only [Act.put, List.setIfInBounds_toArray, List.set_cons_zero, List.set_cons_succ]
    refine heldTake (i := 10) rfl (by kernel_rfl) (by kernel_rfl) (by kernel_rfl) (fun _ _ _ h => h) (by rfl) (v := ?_) ?_ hH1 ?_
    rotate_left; · (intro w hSw; (try dsimp only at hSw); go_simp; try with_reducible rfl)
    try simp only [Act.put, List.setIfInBounds_toArray, List.set_cons_zero, List.set_cons_succ]
    refine heldTake (i := 11) rfl (by kernel_rfl) (by kernel_rfl) (by kernel_rfl) (fun _ _ _ h => h) (by rfl) (v := ?_) ?_ hH1 ?_
    rotate_left; · (intro w hSw; (try dsimp only at hSw); go_simp; try with_reducible rfl)
    try simp only [Act.put, List.setIfInBounds_toArray, List.set_cons_zero, List.set_cons_succ]
    refine heldTake (i := 12) rfl (by kernel_rfl) (by kernel_rfl) (by kernel_rfl) (fun _ _ _ h => h) (by rfl) (v := ?_) ?_ hH1 ?_
    rotate_left; · (intro w hSw; (try dsimp only at hSw); go_simp; try with_reducible rfl)
    try simp only [Act.put, List.setIfInBounds_toArray, List.set_cons_zero, List.set_cons_succ]
    refine heldTake (i := 13) rfl (by kernel_rfl) (by kernel_rfl) (by kernel_rfl) (fun _ _ _ h => h) (by rfl) (v := ?_) ?_ hH1 ?_
    rotate_left; · (intro w hSw; (try dsimp only at hSw); go_simp; try with_reducible rfl)
    try simp only [Act.put, List.setIfInBounds_toArray, List.set_cons_zero, List.set_cons_succ]
    refine heldTake (i := 14) rfl (by kernel_rfl) (by kernel_rfl) (by kernel_rfl) (fun _ _ _ h => h) (by rfl) (v := ?_) ?_ hH1 ?_
    rotate_left; · (intro w hSw; (try dsimp only at hSw); go_simp; try with_reducible rfl)
    try simp only [Act.put, List.setIfInBounds_toArray, List.set_cons_zero, List.set_cons_succ]
    refine heldTake (i := 15) rfl (by kernel_rfl) (by kernel_rfl) (by kernel_rfl) (fun _ _ _ h => h) (by rfl) (v := ?_) ?_ hH1 ?_
    rotate_left; · (intro w hSw; (try dsimp only at hSw); go_simp; try with_reducible rfl)
    try simp only [Act.put, List.setIfInBounds_toArray, List.set_cons_zero, List.set_cons_succ]
    refine heldSkip (i := 16) rfl (by kernel_rfl) (by kernel_rfl) (by kernel_rfl) (fun _ _ _ h => h) (by rfl) hH1 ?_
    try simp only [Act.put, List.setIfInBounds_toArray, List.set_cons_zero, List.set_cons_succ]
    refine heldSkip (i := 17) rfl (by kernel_rfl) (by kernel_rfl) (by kernel_rfl) (fun _ _ _ h => h) (by rfl) hH1 ?_
    try simp only [Act.put, List.setIfInBounds_toArray, List.set_cons_zero, List.set_cons_succ]
    refine heldSkip (i := 18) rfl (by kernel_rfl) (by kernel_rfl) (by kernel_rfl) (fun _ _ _ h => h) (by rfl) hH1 ?_
    try simp only [Act.put, List.setIfInBounds_toArray, List.set_cons_zero, List.set_cons_succ]
    refine heldTake (i := 19) rfl (by kernel_rfl) (by kernel_rfl) (by kernel_rfl) (fun _ _ _ h => h) (by rfl) (v := ?_) ?_ hH1 ?_
    rotate_left; · (intro w hSw; (try dsimp only at hSw); go_simp; try with_reducible rfl)
    try simp only [Act.put, List.setIfInBounds_toArray, List.set_cons_zero, List.set_cons_succ]
    refine heldTake (i := 20) rfl (by kernel_rfl) (by kernel_rfl) (by kernel_rfl) (fun _ _ _ h => h) (by rfl) (v := ?_) ?_ hH1 ?_
    rotate_left; · (intro w hSw; (try dsimp only at hSw); go_simp; try with_reducible rfl)
    try simp only [Act.put, List.setIfInBounds_toArray, List.set_cons_zero, List.set_cons_succ]
    refine heldSkip (i := 21) rfl (by kernel_rfl) (by kernel_rfl) (by kernel_rfl) (fun _ _ _ h => h) (by rfl) hH1 ?_
    try simp only [Act.put, List.setIfInBounds_toArray, List.set_cons_zero, List.set_cons_succ]
    refine heldSkip (i := 22) rfl (by kernel_rfl) (by kernel_rfl) (by kernel_rfl) (fun _ _ _ h => h) (by rfl) hH1 ?_
    try simp only [Act.put, List.setIfInBounds_toArray, List.set_cons_zero, List.set_cons_succ]
    refine heldSkip (i := 23) rfl (by kernel_rfl) (by kernel_rfl) (by kernel_rfl) (fun _ _ _ h => h) (by rfl) hH1 ?_
    try simp only [Act.put, List.setIfInBounds_toArray, List.set_cons_zero, List.set_cons_succ]
    refine heldSkip (i := 24) rfl (by kernel_rfl) (by kernel_rfl) (by kernel_rfl) (fun _ _ _ h => h) (by rfl) hH1 ?_
    try simp only [Act.put, List.setIfInBounds_toArray, List.set_cons_zero, List.set_cons_succ]
    refine heldSkip (i := 25) rfl (by kernel_rfl) (by kernel_rfl) (by kernel_rfl) (fun _ _ _ h => h) (by rfl) hH1 ?_
    try simp only [Act.put, List.setIfInBounds_toArray, List.set_cons_zero, List.set_cons_succ]
    refine heldSkip (i := 26) rfl (by kernel_rfl) (by kernel_rfl) (by kernel_rfl) (fun _ _ _ h => h) (by rfl) hH1 ?_
    try simp only [Act.put, List.setIfInBounds_toArray, List.set_cons_zero, List.set_cons_succ]
    refine heldSkip (i := 27) rfl (by kernel_rfl) (by kernel_rfl) (by kernel_rfl) (fun _ _ _ h => h) (by rfl) hH1 ?_
    try simp only [Act.put, List.setIfInBounds_toArray, List.set_cons_zero, List.set_cons_succ]
    refine heldSkip (i := 28) rfl (by kernel_rfl) (by kernel_rfl) (by kernel_rfl) (fun _ _ _ h => h) (by rfl) hH1 ?_
    try simp only [Act.put, List.setIfInBounds_toArray, List.set_cons_zero, List.set_cons_succ]
    refine heldSkip (i := 29) rfl (by kernel_rfl) (by kernel_rfl) (by kernel_rfl) (fun _ _ _ h => h) (by rfl) hH1 ?_
    try simp only [Act.put, List.setIfInBounds_toArray, List.set_cons_zero, List.set_cons_succ]
    refine heldSkip (i := 30) rfl (by kernel_rfl) (by kernel_rfl) (by kernel_rfl) (fun _ _ _ h => h) (by rfl) hH1 ?_
    try simp only [Act.put, List.setIfInBounds_toArray, List.set_cons_zero, List.set_cons_succ]
    refine heldSkip (i := 31) rfl (by kernel_rfl) (by kernel_rfl) (by kernel_rfl) (fun _ _ _ h => h) (by rfl) hH1 ?_
    try simp only [Act.put, List.setIfInBounds_toArray, List.set_cons_zero, List.set_cons_succ]
    refine heldSkip (i := 32) rfl (by kernel_rfl) (by kernel_rfl) (by kernel_rfl) (fun _ _ _ h => h) (by rfl) hH1 ?_
    try simp only [Act.put, List.setIfInBounds_toArray, List.set_cons_zero, List.set_cons_succ]
    refine heldSkip (i := 33) rfl (by kernel_rfl) (by kernel_rfl) (by kernel_rfl) (fun _ _ _ h => h) (by rfl) hH1 ?_
    try simp only [Act.put, List.setIfInBounds_toArray, List.set_cons_zero, List.set_cons_succ]
    refine heldSkip (i := 34) rfl (by kernel_rfl) (by kernel_rfl) (by kernel_rfl) (fun _ _ _ h => h) (by rfl) hH1 ?_
    try simp only [Act.put, List.setIfInBounds_toArray, List.set_cons_zero, List.set_cons_succ]
    refine heldSkip (i := 35) rfl (by kernel_rfl) (by kernel_rfl) (by kernel_rfl) (fun _ _ _ h => h) (by rfl) hH1 ?_
    try simp only [Act.put, List.setIfInBounds_toArray, List.set_cons_zero, List.set_cons_succ]
    refine heldTake (i := 36) rfl (by kernel_rfl) (by kernel_rfl) (by kernel_rfl) (fun _ _ _ h => h) (by rfl) (v := ?_) ?_ hH1 ?_
    rotate_left; · (intro w hSw; (try dsimp only at hSw); go_simp; try with_reducible rfl)
    try simp only [Act.put, List.setIfInBounds_toArray, List.set_cons_zero, List.set_cons_succ]
    refine heldTake (i := 37) rfl (by kernel_rfl) (by kernel_rfl) (by kernel_rfl) (fun _ _ _ h => h) (by rfl) (v := ?_) ?_ hH1 ?_
    rotate_left; · (intro w hSw; (try dsimp only at hSw); go_simp; try with_reducible rfl)
    try simp only [Act.put, List.setIfInBounds_toArray, List.set_cons_zero, List.set_cons_succ]
    refine wpAnyH_done (by kernel_rfl) ?_ _
    go_wp2
    go_ret
    exact ⟨ret_boolB (by rw [HE.out, hz, hq, h2]; simp), hbx.trans (hH1.1.mono hbx.size)⟩
  cases h3 : (inR g.pe 1 1000)
  · go_enter Tryz.func88, Tryz.ntmps88
    go_upto_region 3 with (go_at_call 108; refine (HB.out _).mono ?_; rintro e w1 ⟨rfl, hb1⟩)
    have hbx := HB1.out.trans (hb1.mono HB1.out.size)
    have hkx := HG.out.below hb1 HG.out.lt
    have hwx := HK.out.below hbx hkl
    have KS : ∀ w', Below w1.heap.size w1 w' → (fun w' => Below w1.heap.size w1 w' ∧ w'.cell? ⟨hw, 0, none⟩ = some (.int .i64 V.now) ∧ w'.cell? ⟨hw, 1, none⟩ = some (.slice ca V.cn cc) ∧ w'.cell? ⟨w.heap.size, 5, none⟩ = some (.int .i64 g.pe) ∧ w'.cell? ⟨w.heap.size, 6, none⟩ = some (.int .i64 g.ne) ∧ w'.cell? ⟨w.heap.size, 8, none⟩ = some (.int .i64 g.qu) ∧ w'.cell? ⟨w.heap.size, 9, none⟩ = some (.int .i64 g.po) ∧ w'.cell? ⟨w.heap.size, 10, none⟩ = some (.int .i64 g.sp) ∧ w'.cell? ⟨w.heap.size, 11, none⟩ = some (.slice u.la g.ln u.lc) ∧ w'.cell? ⟨w.heap.size, 12, none⟩ = some (.slice u.da g.dn u.dc)) w' := fun w' h => ⟨h, (h.cell (p := ⟨hw, 0, none⟩) (hwx.lt)).trans ((hwx.cell 0).trans rfl), (h.cell (p := ⟨hw, 1, none⟩) (hwx.lt)).trans ((hwx.cell 1).trans rfl), (h.cell (p := ⟨w.heap.size, 5, none⟩) (hkx.lt)).trans ((hkx.cell 5).trans rfl), (h.cell (p := ⟨w.heap.size, 6, none⟩) (hkx.lt)).trans ((hkx.cell 6).trans rfl), (h.cell (p := ⟨w.heap.size, 8, none⟩) (hkx.lt)).trans ((hkx.cell 8).trans rfl), (h.cell (p := ⟨w.heap.size, 9, none⟩) (hkx.lt)).trans ((hkx.cell 9).trans rfl), (h.cell (p := ⟨w.heap.size, 10, none⟩) (hkx.lt)).trans ((hkx.cell 10).trans rfl), (h.cell (p := ⟨w.heap.size, 11, none⟩) (hkx.lt)).trans ((hkx.cell 11).trans rfl), (h.cell (p := ⟨w.heap.size, 12, none⟩) (hkx.lt)).trans ((hkx.cell 12).trans rfl)⟩
    have KT : ∀ wa wb, (fun w' => Below w1.heap.size w1 w' ∧ w'.cell? ⟨hw, 0, none⟩ = some (.int .i64 V.now) ∧ w'.cell? ⟨hw, 1, none⟩ = some (.slice ca V.cn cc) ∧ w'.cell? ⟨w.heap.size, 5, none⟩ = some (.int .i64 g.pe) ∧ w'.cell? ⟨w.heap.size, 6, none⟩ = some (.int .i64 g.ne) ∧ w'.cell? ⟨w.heap.size, 8, none⟩ = some (.int .i64 g.qu) ∧ w'.cell? ⟨w.heap.size, 9, none⟩ = some (.int .i64 g.po) ∧ w'.cell? ⟨w.heap.size, 10, none⟩ = some (.int .i64 g.sp) ∧ w'.cell? ⟨w.heap.size, 11, none⟩ = some (.slice u.la g.ln u.lc) ∧ w'.cell? ⟨w.heap.size, 12, none⟩ = some (.slice u.da g.dn u.dc)) wa → Below wa.heap.size wa wb → (fun w' => Below w1.heap.size w1 w' ∧ w'.cell? ⟨hw, 0, none⟩ = some (.int .i64 V.now) ∧ w'.cell? ⟨hw, 1, none⟩ = some (.slice ca V.cn cc) ∧ w'.cell? ⟨w.heap.size, 5, none⟩ = some (.int .i64 g.pe) ∧ w'.cell? ⟨w.heap.size, 6, none⟩ = some (.int .i64 g.ne) ∧ w'.cell? ⟨w.heap.size, 8, none⟩ = some (.int .i64 g.qu) ∧ w'.cell? ⟨w.heap.size, 9, none⟩ = some (.int .i64 g.po) ∧ w'.cell? ⟨w.heap.size, 10, none⟩ = some (.int .i64 g.sp) ∧ w'.cell? ⟨w.heap.size, 11, none⟩ = some (.slice u.la g.ln u.lc) ∧ w'.cell? ⟨w.heap.size, 12, none⟩ = some (.slice u.da g.dn u.dc)) wb := fun wa wb h hab => KS wb (h.1.trans (hab.mono h.1.size))
    have HKS := Lib.hid KS
    have HKT := Lib.hid KT
    clear KS KT
    go_wp2
    refine wp_region_held_drew (S := (fun w' => Below w1.heap.size w1 w' ∧ w'.cell? ⟨hw, 0, none⟩ = some (.int .i64 V.now) ∧ w'.cell? ⟨hw, 1, none⟩ = some (.slice ca V.cn cc) ∧ w'.cell? ⟨w.heap.size, 5, none⟩ = some (.int .i64 g.pe) ∧ w'.cell? ⟨w.heap.size, 6, none⟩ = some (.int .i64 g.ne) ∧ w'.cell? ⟨w.heap.size, 8, none⟩ = some (.int .i64 g.qu) ∧ w'.cell? ⟨w.heap.size, 9, none⟩ = some (.int .i64 g.po) ∧ w'.cell? ⟨w.heap.size, 10, none⟩ = some (.int .i64 g.sp) ∧ w'.cell? ⟨w.heap.size, 11, none⟩ = some (.slice u.la g.ln u.lc) ∧ w'.cell? ⟨w.heap.size, 12, none⟩ = some (.slice u.da g.dn u.dc))) (by kernel_rfl) (HKS.out _ (Below.refl _ _).drew) (fun hH0 => ?_)
    refine heldTake (i := 0) rfl (by kernel_rfl) (by kernel_rfl) (by kernel_rfl) (fun _ _ _ h => h) (by rfl) (v := ?_) ?_ hH0 ?_
    rotate_left; · (intro w hSw; (try dsimp only at hSw); go_simp; try with_reducible rfl)
    try simp only [Act.put, List.setIfInBounds_toArray, List.set_cons_zero, List.set_cons_succ]
    refine heldTake (i := 1) rfl (by kernel_rfl) (by kernel_rfl) (by kernel_rfl) (fun _ _ _ h => h) (by rfl) (v := ?_) ?_ hH0 ?_
    rotate_left; · (intro w hSw; (try dsimp only at hSw); go_simp; try with_reducible rfl)
    try simp only [Act.put, List.setIfInBounds_toArray, List.set_cons_zero, List.set_cons_succ]
    refine heldStep (i := 2) rfl (by kernel_rfl) (by rfl) (fun K hK => ?_)
    go_simp
    (go_at_call 110; refine (HQ.out _ (hbx.trans (hH0.1.mono hbx.size))).mono ?_; rintro e wv1 ⟨rfl, hbb1⟩)
    go_wp2_with fail
    refine hK.out _ _ (HKT.out _ _ hH0 hbb1) (fun hH1 => ?_)
    clear hK K
    try simp only [Act.put, List.setIfInBounds_toArray, List.set_cons_zero, List.set_cons_succ]
    refine heldTake (i := 3) rfl (by kernel_rfl) (by kernel_rfl) (by kernel_rfl) (fun _ _ _ h => h) (by rfl) (v := ?_) ?_ hH1 ?_
    rotate_left; · (intro w hSw; (try dsimp only at hSw); go_simp; try with_reducible rfl)
    try simp only [Act.put, List.setIfInBounds_toArray, List.set_cons_zero, List.set_cons_succ]
    refine heldTake (i := 4) rfl (by kernel_rfl) (by kernel_rfl) (by kernel_rfl) (fun _ _ _ h => h) (by rfl) (v := ?_) ?_ hH1 ?_
    rotate_left; · (intro w hSw; (try dsimp only at hSw); go_simp; try with_reducible rfl)
    try simp only [Act.put, List.setIfInBounds_toArray, List.set_cons_zero, List.set_cons_succ]
    refine heldTake (i := 5) rfl (by kernel_rfl) (by kernel_rfl) (by kernel_rfl) (fun _ _ _ h => h) (by rfl) (v := ?_) ?_ hH1 ?_
    rotate_left; · (intro w hSw; (try dsimp only at hSw); go_simp; try with_reducible rfl)
    try simp only [Act.put, List.setIfInBounds_toArray, List.set_cons_zero, List.set_cons_succ]
    refine heldTake (i := 6) rfl (by kernel_rfl) (by kernel_rfl) (by kernel_rfl) (fun _ _ _ h => h) (by rfl) (v := ?_) ?_ hH1 ?_
    rotate_left; · (intro w hSw; (try dsimp only at hSw); go_simp; try with_reducible rfl)
    try simp only [Act.put, List.setIfInBounds_toArray, List.set_cons_zero, List.set_cons_succ]
    refine heldTake (i := 7) rfl (by kernel_rfl) (by kernel_rfl) (by kernel_rfl) (fun _ _ _ h => h) (by rfl) (v := ?_) ?_ hH1 ?_
    rotate_left; · (intro w hSw; (try dsimp only at hSw); go_simp; try with_reducible rfl)
    try simp only [Act.put, List.setIfInBounds_toArray, List.set_cons_zero, List.set_cons_succ]
    refine heldTake (i := 8) rfl (by kernel_rfl) (by kernel_rfl) (by kernel_rfl) (fun _ _ _ h => h) (by rfl) (v := ?_) ?_ hH1 ?_
    rotate_left; · (intro w hSw; (try dsimp only at hSw); go_simp; try with_reducible rfl)
    try simp only [Act.put, List.setIfInBounds_toArray, List.set_cons_zero, List.set_cons_succ]
    refine heldTake (i := 9) rfl (by kernel_rfl) (by kernel_rfl) (by kernel_rfl) (fun _ _ _ h => h) (by rfl) (v := ?_) ?_ hH1 ?_
    rotate_left; · (intro w hSw; (try dsimp only at hSw); go_simp; try with_reducible rfl)
    try simp only [Act.put, List.setIfInBounds_toArray, List.set_cons_zero, List.set_cons_succ]
    refine heldTake (i := 10) rfl (by kernel_rfl) (by kernel_rfl) (by kernel_rfl) (fun _ _ _ h => h) (by rfl) (v := ?_) ?_ hH1 ?_
    rotate_left; · (intro w hSw; (try dsimp only at hSw); go_simp; try with_reducible rfl)
    try simp only [Act.put, List.setIfInBounds_toArray, List.set_cons_zero, List.set_cons_succ]
    refine heldTake (i := 11) rfl (by kernel_rfl) (by kernel_rfl) (by kernel_rfl) (fun _ _ _ h => h) (by rfl) (v := ?_) ?_ hH1 ?_
    rotate_left; · (intro w hSw; (try dsimp only at hSw); go_simp; try with_reducible rfl)
    try simp only [Act.put, List.setIfInBounds_toArray, List.set_cons_zero, List.set_cons_succ]
    refine heldTake (i := 12) rfl (by kernel_rfl) (by kernel_rfl) (by kernel_rfl) (fun _ _ _ h => h) (by rfl) (v := ?_) ?_ hH1 ?_
    rotate_left; · (intro w hSw; (try dsimp only at hSw); go_simp; try with_reducible rfl)
    try simp only [Act.put, List.setIfInBounds_toArray, List.set_cons_zero, List.set_cons_succ]
    refine heldTake (i := 13) rfl (by kernel_rfl) (by kernel_rfl) (by kernel_rfl) (fun _ _ _ h => h) (by rfl) (v := ?_) ?_ hH1 ?_
    rotate_left; · (intro w hSw; (try dsimp only at hSw); go_simp; try with_reducible rfl)
    try simp only [Act.put, List.setIfInBounds_toArray, List.set_cons_zero, List.set_cons_succ]
    refine heldTake (i := 14) rfl (by kernel_rfl) (by kernel_rfl) (by kernel_rfl) (fun _ _ _ h => h) (by rfl) (v := ?_) ?_ hH1 ?_
    rotate_left; · (intro w hSw; (try dsimp only at hSw); go_simp; try with_reducible rfl)
    try simp only [Act.put, List.setIfInBounds_toArray, List.set_cons_zero, List.set_cons_succ]
    refine heldTake (i := 15) rfl (by kernel_rfl) (by kernel_rfl) (by kernel_rfl) (fun _ _ _ h => h) (by rfl) (v := ?_) ?_ hH1 ?_
    rotate_left; · (intro w hSw; (try dsimp only at hSw); go_simp; try with_reducible rfl)
    try simp only [Act.put, List.setIfInBounds_toArray, List.set_cons_zero, List.set_cons_succ]
    refine heldTake (i := 16) rfl (by kernel_rfl) (by kernel_rfl) (by kernel_rfl) (fun _ _ _ h => h) (by rfl) (v := ?_) ?_ hH1 ?_
    rotate_left; · (intro w hSw; (try dsimp only at hSw); go_simp; try with_reducible rfl)
    try simp only [Act.put, List.setIfInBounds_toArray, List.set_cons_zero, List.set_cons_succ]
    refine heldTake (i := 17) rfl (by kernel_rfl) (by kernel_rfl) (by kernel_rfl) (fun _ _ _ h => h) (by rfl) (v := ?_) ?_ hH1 ?_
    rotate_left; · (intro w hSw; (try dsimp only at hSw); go_simp; try with_reducible rfl)
    try simp only [Act.put, List.setIfInBounds_toArray, List.set_cons_zero, List.set_cons_succ]
    refine heldStep (i := 18) rfl (by kernel_rfl) (by rfl) (fun K hK => ?_)
    go_simp
    (go_at_call 61; refine (inRange_any _ _ _ _).mono ?_; rintro e wv2 ⟨rfl, rfl⟩)
    go_wp2_with fail
    refine hK.out _ _ (hH1) (fun hH2 => ?_)
    clear hK K
    try simp only [Act.put, List.setIfInBounds_toArray, List.set_cons_zero, List.set_cons_succ]
    refine heldTake (i := 19) rfl (by kernel_rfl) (by kernel_rfl) (by kernel_rfl) (fun _ _ _ h => h) (by rfl) (v := ?_) ?_ hH2 ?_
    rotate_left; · (intro w hSw; (try dsimp only at hSw); go_simp; try with_reducible rfl)
    try simp only [Act.put, List.setIfInBounds_toArray, List.set_cons_zero, List.set_cons_succ]
    refine heldTake (i := 20) rfl (by kernel_rfl) (by kernel_rfl) (by kernel_rfl) (fun _ _ _ h => h) (by rfl) (v := ?_) ?_ hH2 ?_
    rotate_left; · (intro w hSw; (try dsimp only at hSw); go_simp; try with_reducible rfl)
    try simp only [Act.put, List.setIfInBounds_toArray, List.set_cons_zero, List.set_cons_succ]
    refine heldSkip (i := 21) rfl (by kernel_rfl) (by kernel_rfl) (by kernel_rfl) (fun _ _ _ h => h) (by rfl) hH2 ?_
    try simp only [Act.put, List.setIfInBounds_toArray, List.set_cons_zero, List.set_cons_succ]
    refine heldSkip (i := 22) rfl (by kernel_rfl) (by kernel_rfl) (by kernel_rfl) (fun _ _ _ h => h) (by rfl) hH2 ?_
    try simp only [Act.put, List.setIfInBounds_toArray, List.set_cons_zero, List.set_cons_succ]
    refine heldSkip (i := 23) rfl (by kernel_rfl) (by kernel_rfl) (by kernel_rfl) (fun _ _ _ h => h) (by rfl) hH2 ?_
    try simp only [Act.put, List.setIfInBounds_toArray, List.set_cons_zero, List.set_cons_succ]
    refine heldSkip (i := 24) rfl (by kernel_rfl) (by kernel_rfl) (by kernel_rfl) (fun _ _ _ h => h) (by rfl) hH2 ?_
    try simp only [Act.put, List.setIfInBounds_toArray, List.set_cons_zero, List.set_cons_succ]
    refine heldSkip (i := 25) rfl (by kernel_rfl) (by kernel_rfl) (by kernel_rfl) (fun _ _ _ h => h) (by rfl) hH2 ?_
    try simp only [Act.put, List.setIfInBounds_toArray, List.set_cons_zero, List.set_cons_succ]
    refine heldSkip (i := 26) rfl (by kernel_rfl) (by kernel_rfl) (by kernel_rfl) (fun _ _ _ h => h) (by rfl) hH2 ?_
    try simp only [Act.put, List.setIfInBounds_toArray, List.set_cons_zero, List.set_cons_succ]
    refine heldSkip (i := 27) rfl (by kernel_rfl) (by kernel_rfl) (by kernel_rfl) (fun _ _ _ h => h) (by rfl) hH2 ?_
    try simp only [Act.put, List.setIfInBounds_toArray, List.set_cons_zero, List.set_cons_succ]
    refine heldSkip (i := 28) rfl (by kernel_rfl) (by kernel_rfl) (by kernel_rfl) (fun _ _ _ h => h) (by rfl) hH2 ?_
    try simp only [Act.put, List.setIfInBounds_toArray, List.set_cons_zero, List.set_cons_succ]
    refine heldSkip (i := 29) rfl (by kernel_rfl) (by kernel_rfl) (by kernel_rfl) (fun _ _ _ h => h) (by rfl) hH2 ?_
    try simp only [Act.put, List.setIfInBounds_toArray, List.set_cons_zero, List.set_cons_succ]
    refine heldSkip (i := 30) rfl (by kernel_rfl) (by kernel_rfl) (by kernel_rfl) (fun _ _ _ h => h) (by rfl) hH2 ?_
    try simp only [Act.put, List.setIfInBounds_toArray, List.set_cons_zero, List.set_cons_succ]
    refine heldSkip (i := 31) rfl (by kernel_rfl) (by kernel_rfl) (by kernel_rfl) (fun _ _ _ h => h) (by rfl) hH2 ?_
    try simp only [Act.put, List.setIfInBounds_toArray, List.set_cons_zero, List.set_cons_succ]
    refine heldSkip (i := 32) rfl (by kernel_rfl) (by kernel_rfl) (by kernel_rfl) (fun _ _ _ h => h) (by rfl) hH2 ?_
    try simp only [Act.put, List.setIfInBounds_toArray, List.set_cons_zero, List.set_cons_succ]
    refine heldSkip (i := 33) rfl (by kernel_rfl) (by kernel_rfl) (by kernel_rfl) (fun _ _ _ h => h) (by rfl) hH2 ?_
    try simp only [Act.put, List.setIfInBounds_toArray, List.set_cons_zero, List.set_cons_succ]
    refine heldSkip (i := 34) rfl (by kernel_rfl) (by kernel_rfl) (by kernel_rfl) (fun _ _ _ h => h) (by rfl) hH2 ?_
    try simp only [Act.put, List.setIfInBounds_toArray, List.set_cons_zero, List.set_cons_succ]
    refine heldSkip (i := 35) rfl (by kernel_rfl) (by kernel_rfl) (by kernel_rfl) (fun _ _ _ h => h) (by rfl) hH2 ?_
    try simp only [Act.put, List.setIfInBounds_toArray, List.set_cons_zero, List.set_cons_succ]
    refine heldTake (i := 36) rfl (by kernel_rfl) (by kernel_rfl) (by kernel_rfl) (fun _ _ _ h => h) (by rfl) (v := ?_) ?_ hH2 ?_
    rotate_left; · (intro w hSw; (try dsimp only at hSw); go_simp; try with_reducible rfl)
    try simp only [Act.put, List.setIfInBounds_toArray, List.set_cons_zero, List.set_cons_succ]
    refine heldTake (i := 37) rfl (by kernel_rfl) (by kernel_rfl) (by kernel_rfl) (fun _ _ _ h => h) (by rfl) (v := ?_) ?_ hH2 ?_
    rotate_left; · (intro w hSw; (try dsimp only at hSw); go_simp; try with_reducible rfl)
    try simp only [Act.put, List.setIfInBounds_toArray, List.set_cons_zero, List.set_cons_succ]
    refine wpAnyH_done (by kernel_rfl) ?_ _
    go_wp2
    go_ret
    exact ⟨ret_boolB (by rw [HE.out, hz, hq, h2, h3]; simp), hbx.trans (hH2.1.mono hbx.size)⟩
  go_enter Tryz.func88, Tryz.ntmps88
  go_upto_region 3 with (go_at_call 108; refine (HB.out _).mono ?_; rintro e w1 ⟨rfl, hb1⟩)
  have hbx := HB1.out.trans (hb1.mono HB1.out.size)
  have hkx := HG.out.below hb1 HG.out.lt
  have hwx := HK.out.below hbx hkl
  have KS : ∀ w', Below w1.heap.size w1 w' → (fun w' => Below w1.heap.size w1 w' ∧ w'.cell? ⟨hw, 0, none⟩ = some (.int .i64 V.now) ∧ w'.cell? ⟨hw, 1, none⟩ = some (.slice ca V.cn cc) ∧ w'.cell? ⟨w.heap.size, 5, none⟩ = some (.int .i64 g.pe) ∧ w'.cell? ⟨w.heap.size, 6, none⟩ = some (.int .i64 g.ne) ∧ w'.cell? ⟨w.heap.size, 8, none⟩ = some (.int .i64 g.qu) ∧ w'.cell? ⟨w.heap.size, 9, none⟩ = some (.int .i64 g.po) ∧ w'.cell? ⟨w.heap.size, 10, none⟩ = some (.int .i64 g.sp) ∧ w'.cell? ⟨w.heap.size, 11, none⟩ = some (.slice u.la g.ln u.lc) ∧ w'.cell? ⟨w.heap.size, 12, none⟩ = some (.slice u.da g.dn u.dc)) w' := fun w' h => ⟨h, (h.cell (p := ⟨hw, 0, none⟩) (hwx.lt)).trans ((hwx.cell 0).trans rfl), (h.cell (p := ⟨hw, 1, none⟩) (hwx.lt)).trans ((hwx.cell 1).trans rfl), (h.cell (p := ⟨w.heap.size, 5, none⟩) (hkx.lt)).trans ((hkx.cell 5).trans rfl), (h.cell (p := ⟨w.heap.size, 6, none⟩) (hkx.lt)).trans ((hkx.cell 6).trans rfl), (h.cell (p := ⟨w.heap.size, 8, none⟩) (hkx.lt)).trans ((hkx.cell 8).trans rfl), (h.cell (p := ⟨w.heap.size, 9, none⟩) (hkx.lt)).trans ((hkx.cell 9).trans rfl), (h.cell (p := ⟨w.heap.size, 10, none⟩) (hkx.lt)).trans ((hkx.cell 10).trans rfl), (h.cell (p := ⟨w.heap.size, 11, none⟩) (hkx.lt)).trans ((hkx.cell 11).trans rfl), (h.cell (p := ⟨w.heap.size, 12, none⟩) (hkx.lt)).trans ((hkx.cell 12).trans rfl)⟩
  have KT : ∀ wa wb, (fun w' => Below w1.heap.size w1 w' ∧ w'.cell? ⟨hw, 0, none⟩ = some (.int .i64 V.now) ∧ w'.cell? ⟨hw, 1, none⟩ = some (.slice ca V.cn cc) ∧ w'.cell? ⟨w.heap.size, 5, none⟩ = some (.int .i64 g.pe) ∧ w'.cell? ⟨w.heap.size, 6, none⟩ = some (.int .i64 g.ne) ∧ w'.cell? ⟨w.heap.size, 8, none⟩ = some (.int .i64 g.qu) ∧ w'.cell? ⟨w.heap.size, 9, none⟩ = some (.int .i64 g.po) ∧ w'.cell? ⟨w.heap.size, 10, none⟩ = some (.int .i64 g.sp) ∧ w'.cell? ⟨w.heap.size, 11, none⟩ = some (.slice u.la g.ln u.lc) ∧ w'.cell? ⟨w.heap.size, 12, none⟩ = some (.slice u.da g.dn u.dc)) wa → Below wa.heap.size wa wb → (fun w' => Below w1.heap.size w1 w' ∧ w'.cell? ⟨hw, 0, none⟩ = some (.int .i64 V.now) ∧ w'.cell? ⟨hw, 1, none⟩ = some (.slice ca V.cn cc) ∧ w'.cell? ⟨w.heap.size, 5, none⟩ = some (.int .i64 g.pe) ∧ w'.cell? ⟨w.heap.size, 6, none⟩ = some (.int .i64 g.ne) ∧ w'.cell? ⟨w.heap.size, 8, none⟩ = some (.int .i64 g.qu) ∧ w'.cell? ⟨w.heap.size, 9, none⟩ = some (.int .i64 g.po) ∧ w'.cell? ⟨w.heap.size, 10, none⟩ = some (.int .i64 g.sp) ∧ w'.cell? ⟨w.heap.size, 11, none⟩ = some (.slice u.la g.ln u.lc) ∧ w'.cell? ⟨w.heap.size, 12, none⟩ = some (.slice u.da g.dn u.dc)) wb := fun wa wb h hab => KS wb (h.1.trans (hab.mono h.1.size))
  have HKS := Lib.hid KS
  have HKT := Lib.hid KT
  clear KS KT
  go_wp2
  refine wp_region_held_drew (S := (fun w' => Below w1.heap.size w1 w' ∧ w'.cell? ⟨hw, 0, none⟩ = some (.int .i64 V.now) ∧ w'.cell? ⟨hw, 1, none⟩ = some (.slice ca V.cn cc) ∧ w'.cell? ⟨w.heap.size, 5, none⟩ = some (.int .i64 g.pe) ∧ w'.cell? ⟨w.heap.size, 6, none⟩ = some (.int .i64 g.ne) ∧ w'.cell? ⟨w.heap.size, 8, none⟩ = some (.int .i64 g.qu) ∧ w'.cell? ⟨w.heap.size, 9, none⟩ = some (.int .i64 g.po) ∧ w'.cell? ⟨w.heap.size, 10, none⟩ = some (.int .i64 g.sp) ∧ w'.cell? ⟨w.heap.size, 11, none⟩ = some (.slice u.la g.ln u.lc) ∧ w'.cell? ⟨w.heap.size, 12, none⟩ = some (.slice u.da g.dn u.dc))) (by kernel_rfl) (HKS.out _ (Below.refl _ _).drew) (fun hH0 => ?_)
  refine heldTake (i := 0) rfl (by kernel_rfl) (by kernel_rfl) (by kernel_rfl) (fun _ _ _ h => h) (by rfl) (v := ?_) ?_ hH0 ?_
  rotate_left; · (intro w hSw; (try dsimp only at hSw); go_simp; try with_reducible rfl)
  try simp only [Act.put, List.setIfInBounds_toArray, List.set_cons_zero, List.set_cons_succ]
  refine heldTake (i := 1) rfl (by kernel_rfl) (by kernel_rfl) (by kernel_rfl) (fun _ _ _ h => h) (by rfl) (v := ?_) ?_ hH0 ?_
  rotate_left; · (intro w hSw; (try dsimp only at hSw); go_simp; try with_reducible rfl)
  try simp only [Act.put, List.setIfInBounds_toArray, List.set_cons_zero, List.set_cons_succ]
  refine heldStep (i := 2) rfl (by kernel_rfl) (by rfl) (fun K hK => ?_)
  go_simp
  (go_at_call 110; refine (HQ.out _ (hbx.trans (hH0.1.mono hbx.size))).mono ?_; rintro e wv1 ⟨rfl, hbb1⟩)
  go_wp2_with fail
  refine hK.out _ _ (HKT.out _ _ hH0 hbb1) (fun hH1 => ?_)
  clear hK K
  try simp only [Act.put, List.setIfInBounds_toArray, List.set_cons_zero, List.set_cons_succ]
  refine heldTake (i := 3) rfl (by kernel_rfl) (by kernel_rfl) (by kernel_rfl) (fun _ _ _ h => h) (by rfl) (v := ?_) ?_ hH1 ?_
  rotate_left; · (intro w hSw; (try dsimp only at hSw); go_simp; try with_reducible rfl)
  try simp only [Act.put, List.setIfInBounds_toArray, List.set_cons_zero, List.set_cons_succ]
  refine heldTake (i := 4) rfl (by kernel_rfl) (by kernel_rfl) (by kernel_rfl) (fun _ _ _ h => h) (by rfl) (v := ?_) ?_ hH1 ?_
  rotate_left; · (intro w hSw; (try dsimp only at hSw); go_simp; try with_reducible rfl)
  try simp only [Act.put, List.setIfInBounds_toArray, List.set_cons_zero, List.set_cons_succ]
  refine heldTake (i := 5) rfl (by kernel_rfl) (by kernel_rfl) (by kernel_rfl) (fun _ _ _ h => h) (by rfl) (v := ?_) ?_ hH1 ?_
  rotate_left; · (intro w hSw; (try dsimp only at hSw); go_simp; try with_reducible rfl)
  try simp only [Act.put, List.setIfInBounds_toArray, List.set_cons_zero, List.set_cons_succ]
  refine heldTake (i := 6) rfl (by kernel_rfl) (by kernel_rfl) (by kernel_rfl) (fun _ _ _ h => h) (by rfl) (v := ?_) ?_ hH1 ?_
  rotate_left; · (intro w hSw; (try dsimp only at hSw); go_simp; try with_reducible rfl)
  try simp only [Act.put, List.setIfInBounds_toArray, List.set_cons_zero, List.set_cons_succ]
  refine heldTake (i := 7) rfl (by kernel_rfl) (by kernel_rfl) (by kernel_rfl) (fun _ _ _ h => h) (by rfl) (v := ?_) ?_ hH1 ?_
  rotate_left; · (intro w hSw; (try dsimp only at hSw); go_simp; try with_reducible rfl)
  try simp only [Act.put, List.setIfInBounds_toArray, List.set_cons_zero, List.set_cons_succ]
  refine heldTake (i := 8) rfl (by kernel_rfl) (by kernel_rfl) (by kernel_rfl) (fun _ _ _ h => h) (by rfl) (v := ?_) ?_ hH1 ?_
  rotate_left; · (intro w hSw; (try dsimp only at hSw); go_simp; try with_reducible rfl)
  try simp only [Act.put, List.setIfInBounds_toArray, List.set_cons_zero, List.set_cons_succ]
  refine heldTake (i := 9) rfl (by kernel_rfl) (by kernel_rfl) (by kernel_rfl) (fun _ _ _ h => h) (by rfl) (v := ?_) ?_ hH1 ?_
  rotate_left; · (intro w hSw; (try dsimp only at hSw); go_simp; try with_reducible rfl)
  try simp only [Act.put, List.setIfInBounds_toArray, List.set_cons_zero, List.set_cons_succ]
  refine heldTake (i := 10) rfl (by kernel_rfl) (by kernel_rfl) (by kernel_rfl) (fun _ _ _ h => h) (by rfl) (v := ?_) ?_ hH1 ?_
  rotate_left; · (intro w hSw; (try dsimp only at hSw); go_simp; try with_reducible rfl)
  try simp only [Act.put, List.setIfInBounds_toArray, List.set_cons_zero, List.set_cons_succ]
  refine heldTake (i := 11) rfl (by kernel_rfl) (by kernel_rfl) (by kernel_rfl) (fun _ _ _ h => h) (by rfl) (v := ?_) ?_ hH1 ?_
  rotate_left; · (intro w hSw; (try dsimp only at hSw); go_simp; try with_reducible rfl)
  try simp only [Act.put, List.setIfInBounds_toArray, List.set_cons_zero, List.set_cons_succ]
  refine heldTake (i := 12) rfl (by kernel_rfl) (by kernel_rfl) (by kernel_rfl) (fun _ _ _ h => h) (by rfl) (v := ?_) ?_ hH1 ?_
  rotate_left; · (intro w hSw; (try dsimp only at hSw); go_simp; try with_reducible rfl)
  try simp only [Act.put, List.setIfInBounds_toArray, List.set_cons_zero, List.set_cons_succ]
  refine heldTake (i := 13) rfl (by kernel_rfl) (by kernel_rfl) (by kernel_rfl) (fun _ _ _ h => h) (by rfl) (v := ?_) ?_ hH1 ?_
  rotate_left; · (intro w hSw; (try dsimp only at hSw); go_simp; try with_reducible rfl)
  try simp only [Act.put, List.setIfInBounds_toArray, List.set_cons_zero, List.set_cons_succ]
  refine heldTake (i := 14) rfl (by kernel_rfl) (by kernel_rfl) (by kernel_rfl) (fun _ _ _ h => h) (by rfl) (v := ?_) ?_ hH1 ?_
  rotate_left; · (intro w hSw; (try dsimp only at hSw); go_simp; try with_reducible rfl)
  try simp only [Act.put, List.setIfInBounds_toArray, List.set_cons_zero, List.set_cons_succ]
  refine heldTake (i := 15) rfl (by kernel_rfl) (by kernel_rfl) (by kernel_rfl) (fun _ _ _ h => h) (by rfl) (v := ?_) ?_ hH1 ?_
  rotate_left; · (intro w hSw; (try dsimp only at hSw); go_simp; try with_reducible rfl)
  try simp only [Act.put, List.setIfInBounds_toArray, List.set_cons_zero, List.set_cons_succ]
  refine heldTake (i := 16) rfl (by kernel_rfl) (by kernel_rfl) (by kernel_rfl) (fun _ _ _ h => h) (by rfl) (v := ?_) ?_ hH1 ?_
  rotate_left; · (intro w hSw; (try dsimp only at hSw); go_simp; try with_reducible rfl)
  try simp only [Act.put, List.setIfInBounds_toArray, List.set_cons_zero, List.set_cons_succ]
  refine heldTake (i := 17) rfl (by kernel_rfl) (by kernel_rfl) (by kernel_rfl) (fun _ _ _ h => h) (by rfl) (v := ?_) ?_ hH1 ?_
  rotate_left; · (intro w hSw; (try dsimp only at hSw); go_simp; try with_reducible rfl)
  try simp only [Act.put, List.setIfInBounds_toArray, List.set_cons_zero, List.set_cons_succ]
  refine heldStep (i := 18) rfl (by kernel_rfl) (by rfl) (fun K hK => ?_)
  go_simp
  (go_at_call 61; refine (inRange_any _ _ _ _).mono ?_; rintro e wv2 ⟨rfl, rfl⟩)
  go_wp2_with fail
  refine hK.out _ _ (hH1) (fun hH2 => ?_)
  clear hK K
  try simp only [Act.put, List.setIfInBounds_toArray, List.set_cons_zero, List.set_cons_succ]
  refine heldTake (i := 19) rfl (by kernel_rfl) (by kernel_rfl) (by kernel_rfl) (fun _ _ _ h => h) (by rfl) (v := ?_) ?_ hH2 ?_
  rotate_left; · (intro w hSw; (try dsimp only at hSw); go_simp; try with_reducible rfl)
  try simp only [Act.put, List.setIfInBounds_toArray, List.set_cons_zero, List.set_cons_succ]
  refine heldTake (i := 20) rfl (by kernel_rfl) (by kernel_rfl) (by kernel_rfl) (fun _ _ _ h => h) (by rfl) (v := ?_) ?_ hH2 ?_
  rotate_left; · (intro w hSw; (try dsimp only at hSw); go_simp; try with_reducible rfl)
  try simp only [Act.put, List.setIfInBounds_toArray, List.set_cons_zero, List.set_cons_succ]
  refine heldTake (i := 21) rfl (by kernel_rfl) (by kernel_rfl) (by kernel_rfl) (fun _ _ _ h => h) (by rfl) (v := ?_) ?_ hH2 ?_
  rotate_left; · (intro w hSw; (try dsimp only at hSw); go_simp; try with_reducible rfl)
  try simp only [Act.put, List.setIfInBounds_toArray, List.set_cons_zero, List.set_cons_succ]
  refine heldTake (i := 22) rfl (by kernel_rfl) (by kernel_rfl) (by kernel_rfl) (fun _ _ _ h => h) (by rfl) (v := ?_) ?_ hH2 ?_
  rotate_left; · (intro w hSw; (try dsimp only at hSw); go_simp; try with_reducible rfl)
  try simp only [Act.put, List.setIfInBounds_toArray, List.set_cons_zero, List.set_cons_succ]
  refine heldTake (i := 23) rfl (by kernel_rfl) (by kernel_rfl) (by kernel_rfl) (fun _ _ _ h => h) (by rfl) (v := ?_) ?_ hH2 ?_
  rotate_left; · (intro w hSw; (try dsimp only at hSw); go_simp; try with_reducible rfl)
  try simp only [Act.put, List.setIfInBounds_toArray, List.set_cons_zero, List.set_cons_succ]
  refine heldTake (i := 24) rfl (by kernel_rfl) (by kernel_rfl) (by kernel_rfl) (fun _ _ _ h => h) (by rfl) (v := ?_) ?_ hH2 ?_
  rotate_left; · (intro w hSw; (try dsimp only at hSw); go_simp; try with_reducible rfl)
  try simp only [Act.put, List.setIfInBounds_toArray, List.set_cons_zero, List.set_cons_succ]
  refine heldTake (i := 25) rfl (by kernel_rfl) (by kernel_rfl) (by kernel_rfl) (fun _ _ _ h => h) (by rfl) (v := ?_) ?_ hH2 ?_
  rotate_left; · (intro w hSw; (try dsimp only at hSw); go_simp; try with_reducible rfl)
  try simp only [Act.put, List.setIfInBounds_toArray, List.set_cons_zero, List.set_cons_succ]
  refine heldTake (i := 26) rfl (by kernel_rfl) (by kernel_rfl) (by kernel_rfl) (fun _ _ _ h => h) (by rfl) (v := ?_) ?_ hH2 ?_
  rotate_left; · (intro w hSw; (try dsimp only at hSw); go_simp; try with_reducible rfl)
  try simp only [Act.put, List.setIfInBounds_toArray, List.set_cons_zero, List.set_cons_succ]
  refine heldTake (i := 27) rfl (by kernel_rfl) (by kernel_rfl) (by kernel_rfl) (fun _ _ _ h => h) (by rfl) (v := ?_) ?_ hH2 ?_
  rotate_left; · (intro w hSw; (try dsimp only at hSw); go_simp; try with_reducible rfl)
  try simp only [Act.put, List.setIfInBounds_toArray, List.set_cons_zero, List.set_cons_succ]
  refine heldTake (i := 28) rfl (by kernel_rfl) (by kernel_rfl) (by kernel_rfl) (fun _ _ _ h => h) (by rfl) (v := ?_) ?_ hH2 ?_
  rotate_left; · (intro w hSw; (try dsimp only at hSw); go_simp; try with_reducible rfl)
  try simp only [Act.put, List.setIfInBounds_toArray, List.set_cons_zero, List.set_cons_succ]
  refine heldTake (i := 29) rfl (by kernel_rfl) (by kernel_rfl) (by kernel_rfl) (fun _ _ _ h => h) (by rfl) (v := ?_) ?_ hH2 ?_
  rotate_left; · (intro w hSw; (try dsimp only at hSw); go_simp; try with_reducible rfl)
  try simp only [Act.put, List.setIfInBounds_toArray, List.set_cons_zero, List.set_cons_succ]
  refine heldTake (i := 30) rfl (by kernel_rfl) (by kernel_rfl) (by kernel_rfl) (fun _ _ _ h => h) (by rfl) (v := ?_) ?_ hH2 ?_
  rotate_left; · (intro w hSw; (try dsimp only at hSw); go_simp; try with_reducible rfl)
  try simp only [Act.put, List.setIfInBounds_toArray, List.set_cons_zero, List.set_cons_succ]
  refine heldTake (i := 31) rfl (by kernel_rfl) (by kernel_rfl) (by kernel_rfl) (fun _ _ _ h => h) (by rfl) (v := ?_) ?_ hH2 ?_
  rotate_left; · (intro w hSw; (try dsimp only at hSw); go_simp; try with_reducible rfl)
  try simp only [Act.put, List.setIfInBounds_toArray, List.set_cons_zero, List.set_cons_succ]
  refine heldTake (i := 32) rfl (by kernel_rfl) (by kernel_rfl) (by kernel_rfl) (fun _ _ _ h => h) (by rfl) (v := ?_) ?_ hH2 ?_
  rotate_left; · (intro w hSw; (try dsimp only at hSw); go_simp; try with_reducible rfl)
  try simp only [Act.put, List.setIfInBounds_toArray, List.set_cons_zero, List.set_cons_succ]
  refine heldTake (i := 33) rfl (by kernel_rfl) (by kernel_rfl) (by kernel_rfl) (fun _ _ _ h => h) (by rfl) (v := ?_) ?_ hH2 ?_
  rotate_left; · (intro w hSw; (try dsimp only at hSw); go_simp; try with_reducible rfl)
  try simp only [Act.put, List.setIfInBounds_toArray, List.set_cons_zero, List.set_cons_succ]
  refine heldTake (i := 34) rfl (by kernel_rfl) (by kernel_rfl) (by kernel_rfl) (fun _ _ _ h => h) (by rfl) (v := ?_) ?_ hH2 ?_
  rotate_left; · (intro w hSw; (try dsimp only at hSw); go_simp; try with_reducible rfl)
  try simp only [Act.put, List.setIfInBounds_toArray, List.set_cons_zero, List.set_cons_succ]
  refine heldStep (i := 35) rfl (by kernel_rfl) (by rfl) (fun K hK => ?_)
  go_simp
  (go_at_call 61; refine (inRange_any _ _ _ _).mono ?_; rintro e wv3 ⟨rfl, rfl⟩)
  go_wp2_with fail
  refine hK.out _ _ (hH2) (fun hH3 => ?_)
  clear hK K
  try simp only [Act.put, List.setIfInBounds_toArray, List.set_cons_zero, List.set_cons_succ]
  refine heldTake (i := 36) rfl (by kernel_rfl) (by kernel_rfl) (by kernel_rfl) (fun _ _ _ h => h) (by rfl) (v := ?_) ?_ hH3 ?_
  rotate_left; · (intro w hSw; (try dsimp only at hSw); go_simp; try with_reducible rfl)
  try simp only [Act.put, List.setIfInBounds_toArray, List.set_cons_zero, List.set_cons_succ]
  refine heldTake (i := 37) rfl (by kernel_rfl) (by kernel_rfl) (by kernel_rfl) (fun _ _ _ h => h) (by rfl) (v := ?_) ?_ hH3 ?_
  rotate_left; · (intro w hSw; (try dsimp only at hSw); go_simp; try with_reducible rfl)
  try simp only [Act.put, List.setIfInBounds_toArray, List.set_cons_zero, List.set_cons_succ]
  refine wpAnyH_done (by kernel_rfl) ?_ _
  go_wp2
  go_ret
  exact ⟨ret_boolB (by rw [HE.out, hz, hq, h2, h3, HW1.out, HW2.out h3]; simp), hbx.trans (hH3.1.mono hbx.size)⟩
end Go.Proofs.YtndbmeedimhohaaGreat
namespace Go.Proofs.YtndbmeedimhohaaGreat
open Go.RowKit
theorem rgp (l : List Value) (d : List Deferred) (n : Tmp) (v : Value) : Act.put ⟨l.toArray, d⟩ (some n) v = ⟨(l.set n v).toArray, d⟩ := by simp [Act.put]
theorem rgn (a : Act) (v : Value) : Act.put a none v = a := rfl
theorem rg0 (x v : Value) (l : List Value) : (x :: l).set 0 v = v :: l := rfl
theorem rg1 (x v : Value) (l : List Value) (n : Nat) : (x :: l).set (n + 1) v = x :: l.set n v := rfl
section
variable {P : Program} {md : Region.Mode} {ops : Array Oper} {Q : Exit → Act → World → Prop} {S : World → Prop}
theorem rgT (i : Nat) (v : Value) {oi : Oper} {rest : List Oper} {fuel : Nat} {listed : Array Bool} {a : Act} {w : World}
    (hy : ∀ w, S w → (execOp a.eval oi).run P w = .ok (.value v) w) (hS : S w) (h : wpAnyH P md ops Q S fuel (listed.setIfInBounds i true) (a.put oi.dst v) w)
    (hi : ops.toList.drop i = oi :: rest := by rfl) (hs : Region.noSelect ops = true := by kernel_rfl) (hf : Region.free md ops listed i = true := by kernel_rfl)
    (hr : (Region.ready md ops listed).contains i = true := by kernel_rfl) (hQ : ∀ c a w, Q (.panic c) (a.put oi.dst v) w → Q (.panic c) a w := by exact fun _ _ _ h => h)
    (hg : Region.wanted oi (yielded ops a.tmps) = true := by rfl) : wpAnyH P md ops Q S (fuel + 1) listed a w :=
  wpAnyH_take (heldAt hi) hs hf hr hQ (Or.inl ⟨hg, hy⟩) hS h
theorem rgU (i : Nat) {oi : Oper} {rest : List Oper} {fuel : Nat} {listed : Array Bool} {a : Act} {w : World}
    (hS : S w) (h : wpAnyH P md ops Q S fuel (listed.setIfInBounds i true) (a.put oi.dst undef) w)
    (hi : ops.toList.drop i = oi :: rest := by rfl) (hs : Region.noSelect ops = true := by kernel_rfl) (hf : Region.free md ops listed i = true := by kernel_rfl)
    (hr : (Region.ready md ops listed).contains i = true := by kernel_rfl) (hQ : ∀ c a w, Q (.panic c) (a.put oi.dst undef) w → Q (.panic c) a w := by exact fun _ _ _ h => h)
    (hg : Region.wanted oi (yielded ops a.tmps) = false := by rfl) : wpAnyH P md ops Q S (fuel + 1) listed a w :=
  wpAnyH_take (heldAt hi) hs hf hr hQ (Or.inr ⟨hg, rfl⟩) hS h
theorem rgS (i : Nat) {oi : Oper} {rest : List Oper} {fuel : Nat} {listed : Array Bool} {a : Act} {w : World}
    (h : ∀ K' : Act → World → Prop, Shut (∀ a w, S w → (S w → wpAnyH P md ops Q S fuel (listed.setIfInBounds i true) a w) → K' a w) → Oper.wp P oi a w K' Q)
    (hi : ops.toList.drop i = oi :: rest := by rfl) (hr : Region.ready md ops listed = [i] := by kernel_rfl) (hg : Region.wanted oi (yielded ops a.tmps) = true := by rfl) :
    wpAnyH P md ops Q S (fuel + 1) listed a w := heldStep hi hr hg h
theorem rgS2 (i j : Nat) {oi oj : Oper} {rest rest' : List Oper} {fuel : Nat} {listed : Array Bool} {a : Act} {w : World}
    (h : ∀ K' : Act → World → Prop, Shut (∀ a w, S w → (S w → wpAnyH P md ops Q S fuel (listed.setIfInBounds i true) a w) → K' a w) → Oper.wp P oi a w K' Q)
    (h' : ∀ K' : Act → World → Prop, Shut (∀ a w, S w → (S w → wpAnyH P md ops Q S fuel (listed.setIfInBounds j true) a w) → K' a w) → Oper.wp P oj a w K' Q)
    (hi : ops.toList.drop i = oi :: rest := by rfl) (hj : ops.toList.drop j = oj :: rest' := by rfl) (hr : Region.ready md ops listed = [i, j] := by kernel_rfl)
    (hg : Region.wanted oi (yielded ops a.tmps) = true := by rfl) (hg' : Region.wanted oj (yielded ops a.tmps) = true := by rfl) :
    wpAnyH P md ops Q S (fuel + 1) listed a w :=
  wpAnyH_ready hr (by simp) (AllReadyH.cons (heldAt hi) (fun K hK => by rw [if_pos hg]; exact h K hK) (AllReadyH.cons (heldAt hj) (fun K hK => by rw [if_pos hg']; exact h' K hK) AllReadyH.nil))
theorem rgMore {S' : World → Prop} (hS : ∀ w, S' w → S w) : ∀ (fuel : Nat) (listed : Array Bool) (a : Act) (w : World), wpAnyH P md ops Q S' fuel listed a w → wpAnyH P md ops Q S fuel listed a w
  | 0, _, _, _, h => h
  | fuel + 1, _, _, _, h => ⟨h.1, fun i hi => wpOp_mono (fun a' w' h' => ⟨hS _ h'.1, rgMore hS fuel _ a' w' h'.2⟩) (h.2 i hi)⟩
/-- From here on it is held, too, that nothing below the present world's end changes. -/
theorem rgBase {fuel : Nat} {listed : Array Bool} {a : Act} {w : World} (hS : S w)
    (h : Below w.heap.size w w ∧ S w → wpAnyH P md ops Q (fun w' => Below w.heap.size w w' ∧ S w') fuel listed a w) : wpAnyH P md ops Q S fuel listed a w :=
  rgMore (fun _ h => h.2) _ _ _ _ (h ⟨Below.refl _ _, hS⟩)
theorem keep2 {W : World} (kt : ∀ wa wb, S wa → Below wa.heap.size wa wb → S wb) (wa wb : World) (h : Below W.heap.size W wa ∧ S wa) (hb : Below wa.heap.size wa wb) : Below W.heap.size W wb ∧ S wb :=
  ⟨h.1.trans (hb.mono h.1.size), kt _ _ h.2 hb⟩
end
theorem boolFT (b : Bool) : b = false ∨ b = true := by cases b <;> simp
theorem undrewB {a w : World} (h : Below a.drew.heap.size a.drew w) : Below a.heap.size a w := ⟨h.os, h.tape, h.output, h.size, h.block⟩
theorem timeOk_at1 (W : World) (t : TypeId) (a : Int) (c g : Nat) (w : World) (hb : Below (W.alloc (.cells #[.int .i64 a] t)).heap.size (W.alloc (.cells #[.int .i64 a] t)) w) (hg : W.heap.size = g) :
    Calls Tryz.prog 82 #[.slice (some ⟨g, 0, none⟩) 1 c] w fun e w' => e = .returned (.bool (timeB a)) ∧ w = w' := by
  subst hg
  exact (timeOk_any _ 1 c (by omega) (fun _ => a) w ((rwOne W t _).at_ hb)).mono fun _ _ ⟨h1, h2⟩ => ⟨h1.trans (ret_boolB (by simp [allTo])), h2⟩
theorem timeOk_at3 (W : World) (t : TypeId) (a b c : Int) (k g : Nat) (w : World) (hb : Below (W.alloc (.cells #[.int .i64 a, .int .i64 b, .int .i64 c] t)).heap.size (W.alloc (.cells #[.int .i64 a, .int .i64 b, .int .i64 c] t)) w) (hg : W.heap.size = g) :
    Calls Tryz.prog 82 #[.slice (some ⟨g, 0, none⟩) 3 k] w fun e w' => e = .returned (.bool (time3 a b c)) ∧ w = w' := by
  subst hg
  exact (timeOk_any _ 3 k (by omega) (fun i => if i = 0 then a else if i = 1 then b else c) w ((rwThree W t _ _ _).at_ hb)).mono fun _ _ ⟨h1, h2⟩ => ⟨h1.trans (ret_boolB (by simp [allTo, time3, Bool.and_assoc])), h2⟩
end Go.Proofs.YtndbmeedimhohaaGreat

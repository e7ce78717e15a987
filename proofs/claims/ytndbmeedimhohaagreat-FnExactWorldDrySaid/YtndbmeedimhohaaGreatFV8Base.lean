/- Worlds: the tasks of a world (printed by mkv.py). -/
import Derived.Test.YtndbmeedimhohaaGreatFV7Base
import Derived.Test.YtndbmeedimhohaaGreatFVPBase
import Derived.Laws.StructEq
namespace Go.Proofs.YtndbmeedimhohaaGreat
open Go.RowKit
set_option maxHeartbeats 4000000 in
set_option maxRecDepth 100000 in
theorem eqTaskZ (x : TV) (w : World) : (Op.equalIn 10000 54 (.agg #[.int .i64 x.st, .int .i64 x.gr, .int .i64 x.cp, .int .i64 x.ni, .int .i64 x.ma, .int .i64 x.vv, .int .i64 x.su, .int .i64 x.us, .int .i64 x.lo]) (.agg #[.int .i64 0, .int .i64 0, .int .i64 0, .int .i64 0, .int .i64 0, .int .i64 0, .int .i64 0, .int .i64 0, .int .i64 0])).run Tryz.prog w = .ok (zeroT x) w := by
  have u3 := Tryz.underlying3
  have a3 := Tryz.isAgg3
  have z3 := Tryz.sizeOf3
  have hS : Tryz.prog.underlying 54 = some (.struct (Tryz.prog.fieldsOf 54)) := by kernel_rfl
  have hp : Tryz.prog.stoodInHeld 54 = false := by kernel_rfl
  rw [show (10000 : Nat) = 9999 + 1 from rfl, run_equalIn_agg w 9999 54 _ _ hS hp]
  simp only [Program.fieldsOf, Tryz.underlying54]
  go_simp
  repeat' split
  all_goals simp [zeroT, *]
set_option maxHeartbeats 4000000 in
set_option maxRecDepth 100000 in
theorem buildTaskZ (w : World) : (Instr.build 54 #[]).run Tryz.prog w = .ok (.agg #[.int .i64 0, .int .i64 0, .int .i64 0, .int .i64 0, .int .i64 0, .int .i64 0, .int .i64 0, .int .i64 0, .int .i64 0]) w := run_build w 54 _ _ (by kernel_rfl)
set_option maxHeartbeats 4000000 in
set_option maxRecDepth 100000 in
theorem wpList_run {P : Program} {ops : Array Oper} {rest : List Oper} {o : Oper} {a : Act} {w : World} {Q : Exit → Act → World → Prop} (hg : o.guard = none) (v : Value) (hy : (execOp a.eval o).run P w = .ok (.value v) w)
    (h : wpList P ops Q rest (a.put o.dst v) w) : wpList P ops Q (o :: rest) a w :=
  wpList_plain hg fun K hK => by
    unfold Oper.wp
    rw [hy]
    exact hK _ _ h
set_option maxHeartbeats 4000000 in
set_option maxRecDepth 100000 in
theorem guardTask : Tryz.prog.eqGuardType Tryz.prog.depth 54 = false := by kernel_rfl
set_option maxHeartbeats 4000000 in
set_option maxRecDepth 100000 in
theorem execBuildT (a : Act) (o : Oper) (ho : o.op = .build 54 #[]) (w : World) : (execOp a.eval o).run Tryz.prog w = .ok (.value (.agg #[.int .i64 0, .int .i64 0, .int .i64 0, .int .i64 0, .int .i64 0, .int .i64 0, .int .i64 0, .int .i64 0, .int .i64 0])) w := by
  unfold execOp
  simp only [ho, Sem.run_bind, Array.map_empty, buildTaskZ, Result.andThen_ok, Sem.run_pure]
set_option maxHeartbeats 4000000 in
set_option maxRecDepth 100000 in
theorem Bk.range {w : World} {g : Nat} {t : TypeId} {l : List Value} (h : Bk w g t l.toArray) : w.rangeAt g 0 l := fun j v hv => by
  rw [Nat.zero_add]
  exact (h.cell j).trans (by simpa using hv)
set_option maxHeartbeats 4000000 in
set_option maxRecDepth 100000 in
theorem execTask (a : Act) (x : TV) (o : Oper) (X Y : Operand) (T : TypeId) (ho : o.op = .binOp .eql 54 X Y T) (hx : a.eval X = .agg #[.int .i64 x.st, .int .i64 x.gr, .int .i64 x.cp, .int .i64 x.ni, .int .i64 x.ma, .int .i64 x.vv, .int .i64 x.su, .int .i64 x.us, .int .i64 x.lo]) (hy : a.eval Y = .agg #[.int .i64 0, .int .i64 0, .int .i64 0, .int .i64 0, .int .i64 0, .int .i64 0, .int .i64 0, .int .i64 0, .int .i64 0]) (w : World) : (execOp a.eval o).run Tryz.prog w = .ok (.value (.bool (zeroT x))) w := by
  unfold execOp
  simp only [ho, hx, hy, Sem.run_bind, run_eqGuard_agg w _ _ _ _ _ _ guardTask, Result.andThen_ok, run_eql_struct, eqTaskZ, Sem.run_pure]
set_option maxHeartbeats 4000000 in
set_option maxRecDepth 100000 in
theorem numT_t {V : WV} {k : Nat} (h : numT V k = true) : timeB (V.tv k).vv = true ∧ maskHas (whereM V (V.tv k).gr.toNat (V.tv k).ma) (V.tv k).cp = true := by
  simp only [numT, time3, Bool.and_eq_true] at h
  exact ⟨h.1.1.1.1, h.2⟩
set_option maxHeartbeats 4000000 in
set_option maxRecDepth 100000 in
theorem MR.trd {w : World} {V : WV} {a : WA} (m : MR w V a) : TRd w w.heap.size (some ⟨a.ga, a.og, none⟩) V.gn (fun i => (V.gv i).us) (fun i => (V.gv i).pa) (fun i => (V.gv i).nm) := fun _ =>
  ⟨a.ga, a.og, rfl, m.gl, fun i hi => ⟨m.g i hi 0 _ rfl, m.g i hi 1 _ rfl, m.g i hi 2 _ rfl⟩⟩
set_option maxHeartbeats 4000000 in
set_option maxRecDepth 100000 in
theorem tasksOk_any (V : WV) (T : Tree V) (a : WA) (hw : Nat) (hcn : V.cn ≤ 4) (htn : V.tn ≤ 1048576) (hG : allTo (groupI V) V.gn = true) (w : World) (hk : Bk w hw 33 #[.int .i64 V.now, .slice (some ⟨a.ca, a.oc, none⟩) V.cn a.cc, .slice (some ⟨a.ta, a.ot, none⟩) V.tn a.tc, .slice (some ⟨a.ga, a.og, none⟩) V.gn a.gc]) (m : MR w V a) :
    Calls Tryz.prog 48 #[.pointer (some ⟨hw, 0, none⟩)] w fun e w' => e = .returned (.bool (allTo (taskI V) V.tn)) ∧ Below w.heap.size w w' := by
  obtain ⟨k0, k1, k2, k3⟩ := hk.four
  have hkl := hk.lt
  have htl := m.tl
  have HN8 := Lib.hid T.n8
  have HK := Lib.hid hk
  have HM := Lib.hid m
  have HT := Lib.hid T
  have HGG := Lib.hid hG
  clear hk m T hG
  go_enter Tryz.func48, Tryz.ntmps48
  go_wp2
  go_loopw [11] (fun i wr => ∃ k : Nat, k ≤ V.tn ∧ i = .int .i64 k ∧ Hid (allTo (taskI V) k = true) ∧ Hid (Below w.heap.size w wr)) (fun i _ => V.tn - (intOf i).toNat)
  case atStart => exact ⟨0, Nat.zero_le _, rfl, rfl, Below.refl _ _⟩
  case round =>
    obtain ⟨k, hk, rfl, HA, HB⟩ := hrel
    have hz := HB.out.size
    by_cases hlt : k < V.tn
    · have hr : Hid (wr.rangeAt a.ta (a.ot + k * 9) [.int .i64 (V.tv k).st, .int .i64 (V.tv k).gr, .int .i64 (V.tv k).cp, .int .i64 (V.tv k).ni, .int .i64 (V.tv k).ma, .int .i64 (V.tv k).vv, .int .i64 (V.tv k).su, .int .i64 (V.tv k).us, .int .i64 (V.tv k).lo]) := rangeAt_below (HM.out.t k hlt) HB.out htl
      have HF : Hid (taskI V k = false → allTo (taskI V) V.tn = false) := fun h => allTo_false _ k _ hlt h
      have HX : Hid (taskI V k = true → allTo (taskI V) (k + 1) = true) := fun h => allTo_next _ k HA.out h
      have HE : Hid (taskI V k = (zeroT (V.tv k) || (headT V k && numT V k && (((V.tv k).st != 1) || (timeB (flT V k) && placedB (V.tv k).vv (flT V k) (weightOf (V.tv k).ni)))))) := rfl
      clear HA
      have e0 := hr.out 0 _ rfl
      have e1 := hr.out 1 _ rfl
      have e2 := hr.out 2 _ rfl
      have e3 := hr.out 3 _ rfl
      have e4 := hr.out 4 _ rfl
      have e5 := hr.out 5 _ rfl
      have e6 := hr.out 6 _ rfl
      have e7 := hr.out 7 _ rfl
      have e8 := hr.out 8 _ rfl
      simp only [Nat.add_zero] at e0
      go_upto_region 4 with (fail)
      clear e0 e1 e2 e3 e4 e5 e6 e7 e8 hr
      have hkx : Bk (wr.alloc (.cells #[.int .i64 (V.tv k).st, .int .i64 (V.tv k).gr, .int .i64 (V.tv k).cp, .int .i64 (V.tv k).ni, .int .i64 (V.tv k).ma, .int .i64 (V.tv k).vv, .int .i64 (V.tv k).su, .int .i64 (V.tv k).us, .int .i64 (V.tv k).lo] 54)) wr.heap.size 54 #[.int .i64 (V.tv k).st, .int .i64 (V.tv k).gr, .int .i64 (V.tv k).cp, .int .i64 (V.tv k).ni, .int .i64 (V.tv k).ma, .int .i64 (V.tv k).vv, .int .i64 (V.tv k).su, .int .i64 (V.tv k).us, .int .i64 (V.tv k).lo] := Bk.new _ _ _
      have hbx := HB.out.alloc hz (.cells #[.int .i64 (V.tv k).st, .int .i64 (V.tv k).gr, .int .i64 (V.tv k).cp, .int .i64 (V.tv k).ni, .int .i64 (V.tv k).ma, .int .i64 (V.tv k).vv, .int .i64 (V.tv k).su, .int .i64 (V.tv k).us, .int .i64 (V.tv k).lo] 54)
      generalize (wr.alloc (.cells #[.int .i64 (V.tv k).st, .int .i64 (V.tv k).gr, .int .i64 (V.tv k).cp, .int .i64 (V.tv k).ni, .int .i64 (V.tv k).ma, .int .i64 (V.tv k).vv, .int .i64 (V.tv k).su, .int .i64 (V.tv k).us, .int .i64 (V.tv k).lo] 54)) = wq at hkx hbx ⊢
      refine wp_region_lit ?_
      refine wpList_load_mid rfl 54 _ rfl wr.heap.size 0 rfl [.int .i64 (V.tv k).st, .int .i64 (V.tv k).gr, .int .i64 (V.tv k).cp, .int .i64 (V.tv k).ni, .int .i64 (V.tv k).ma, .int .i64 (V.tv k).vv, .int .i64 (V.tv k).su, .int .i64 (V.tv k).us, .int .i64 (V.tv k).lo] _ (Bk.range hkx) Tryz.underlying54 rfl (by kernel_rfl) ?_
      refine wpList_run rfl (.agg #[.int .i64 0, .int .i64 0, .int .i64 0, .int .i64 0, .int .i64 0, .int .i64 0, .int .i64 0, .int .i64 0, .int .i64 0]) (execBuildT _ _ rfl _) ?_
      refine wpList_run rfl (.bool (zeroT (V.tv k))) (execTask _ (V.tv k) _ _ _ _ rfl rfl rfl _) ?_
      simp only [rgp, rg0, rg1]
      obtain ⟨Z, hZ⟩ : ∃ Z, Z = zeroT (V.tv k) := ⟨_, rfl⟩
      rw [← hZ] at HE ⊢
      clear hZ
      have HKX := Lib.hid hkx
      have HBX := Lib.hid hbx
      clear hkx hbx
      cases Z
      · go_upto_region 5 with (fail)
        go_cut [48] from 12 to 102 (fun c wx => c = .bool (!(headT V k)) ∧ Hid (Below wq.heap.size wq wx))
        case first =>
          have hkx := HKX.out
          have hbx := HBX.out
          have hwx := HK.out.below hbx hkl
          have HHD : Hid (headT V k = (((((V.tv k).st == 1) || ((V.tv k).st == 2)) && usedB (fun i => (V.gv i).us) V.gn (V.tv k).gr && inR (V.tv k).ni (-10) 9) && (inR (V.tv k).ma 0 15 && ((V.tv k).ma != 0)))) := by
            show headT V k = _
            unfold headT
            rw [Bool.and_comm (inR (V.tv k).ma 0 15)]
            simp only [Bool.and_assoc]
          have KS : ∀ w', Below wq.heap.size wq w' → (fun w' => Below wq.heap.size wq w' ∧ w'.cell? ⟨wr.heap.size, 0, none⟩ = some (.int .i64 (V.tv k).st) ∧ w'.cell? ⟨wr.heap.size, 1, none⟩ = some (.int .i64 (V.tv k).gr) ∧ w'.cell? ⟨wr.heap.size, 2, none⟩ = some (.int .i64 (V.tv k).cp) ∧ w'.cell? ⟨wr.heap.size, 3, none⟩ = some (.int .i64 (V.tv k).ni) ∧ w'.cell? ⟨wr.heap.size, 4, none⟩ = some (.int .i64 (V.tv k).ma) ∧ w'.cell? ⟨wr.heap.size, 5, none⟩ = some (.int .i64 (V.tv k).vv) ∧ w'.cell? ⟨wr.heap.size, 6, none⟩ = some (.int .i64 (V.tv k).su) ∧ w'.cell? ⟨wr.heap.size, 7, none⟩ = some (.int .i64 (V.tv k).us) ∧ w'.cell? ⟨wr.heap.size, 8, none⟩ = some (.int .i64 (V.tv k).lo) ∧ w'.cell? ⟨hw, 3, none⟩ = some (.slice (some ⟨a.ga, a.og, none⟩) V.gn a.gc)) w' := fun w' h => ⟨h, (h.cell (p := ⟨wr.heap.size, 0, none⟩) hkx.lt).trans ((hkx.cell 0).trans rfl), (h.cell (p := ⟨wr.heap.size, 1, none⟩) hkx.lt).trans ((hkx.cell 1).trans rfl), (h.cell (p := ⟨wr.heap.size, 2, none⟩) hkx.lt).trans ((hkx.cell 2).trans rfl), (h.cell (p := ⟨wr.heap.size, 3, none⟩) hkx.lt).trans ((hkx.cell 3).trans rfl), (h.cell (p := ⟨wr.heap.size, 4, none⟩) hkx.lt).trans ((hkx.cell 4).trans rfl), (h.cell (p := ⟨wr.heap.size, 5, none⟩) hkx.lt).trans ((hkx.cell 5).trans rfl), (h.cell (p := ⟨wr.heap.size, 6, none⟩) hkx.lt).trans ((hkx.cell 6).trans rfl), (h.cell (p := ⟨wr.heap.size, 7, none⟩) hkx.lt).trans ((hkx.cell 7).trans rfl), (h.cell (p := ⟨wr.heap.size, 8, none⟩) hkx.lt).trans ((hkx.cell 8).trans rfl), (h.cell (p := ⟨hw, 3, none⟩) hwx.lt).trans ((hwx.cell 3).trans rfl)⟩
          have KT : ∀ wa wb, (fun w' => Below wq.heap.size wq w' ∧ w'.cell? ⟨wr.heap.size, 0, none⟩ = some (.int .i64 (V.tv k).st) ∧ w'.cell? ⟨wr.heap.size, 1, none⟩ = some (.int .i64 (V.tv k).gr) ∧ w'.cell? ⟨wr.heap.size, 2, none⟩ = some (.int .i64 (V.tv k).cp) ∧ w'.cell? ⟨wr.heap.size, 3, none⟩ = some (.int .i64 (V.tv k).ni) ∧ w'.cell? ⟨wr.heap.size, 4, none⟩ = some (.int .i64 (V.tv k).ma) ∧ w'.cell? ⟨wr.heap.size, 5, none⟩ = some (.int .i64 (V.tv k).vv) ∧ w'.cell? ⟨wr.heap.size, 6, none⟩ = some (.int .i64 (V.tv k).su) ∧ w'.cell? ⟨wr.heap.size, 7, none⟩ = some (.int .i64 (V.tv k).us) ∧ w'.cell? ⟨wr.heap.size, 8, none⟩ = some (.int .i64 (V.tv k).lo) ∧ w'.cell? ⟨hw, 3, none⟩ = some (.slice (some ⟨a.ga, a.og, none⟩) V.gn a.gc)) wa → Below wa.heap.size wa wb → (fun w' => Below wq.heap.size wq w' ∧ w'.cell? ⟨wr.heap.size, 0, none⟩ = some (.int .i64 (V.tv k).st) ∧ w'.cell? ⟨wr.heap.size, 1, none⟩ = some (.int .i64 (V.tv k).gr) ∧ w'.cell? ⟨wr.heap.size, 2, none⟩ = some (.int .i64 (V.tv k).cp) ∧ w'.cell? ⟨wr.heap.size, 3, none⟩ = some (.int .i64 (V.tv k).ni) ∧ w'.cell? ⟨wr.heap.size, 4, none⟩ = some (.int .i64 (V.tv k).ma) ∧ w'.cell? ⟨wr.heap.size, 5, none⟩ = some (.int .i64 (V.tv k).vv) ∧ w'.cell? ⟨wr.heap.size, 6, none⟩ = some (.int .i64 (V.tv k).su) ∧ w'.cell? ⟨wr.heap.size, 7, none⟩ = some (.int .i64 (V.tv k).us) ∧ w'.cell? ⟨wr.heap.size, 8, none⟩ = some (.int .i64 (V.tv k).lo) ∧ w'.cell? ⟨hw, 3, none⟩ = some (.slice (some ⟨a.ga, a.og, none⟩) V.gn a.gc)) wb := fun wa wb h hab => KS wb (h.1.trans (hab.mono h.1.size))
          have HKS := Lib.hid KS
          have HKT := Lib.hid KT
          clear KS KT
          clear hkx hwx
          refine wp_region_held_drew (S := (fun w' => Below wq.heap.size wq w' ∧ w'.cell? ⟨wr.heap.size, 0, none⟩ = some (.int .i64 (V.tv k).st) ∧ w'.cell? ⟨wr.heap.size, 1, none⟩ = some (.int .i64 (V.tv k).gr) ∧ w'.cell? ⟨wr.heap.size, 2, none⟩ = some (.int .i64 (V.tv k).cp) ∧ w'.cell? ⟨wr.heap.size, 3, none⟩ = some (.int .i64 (V.tv k).ni) ∧ w'.cell? ⟨wr.heap.size, 4, none⟩ = some (.int .i64 (V.tv k).ma) ∧ w'.cell? ⟨wr.heap.size, 5, none⟩ = some (.int .i64 (V.tv k).vv) ∧ w'.cell? ⟨wr.heap.size, 6, none⟩ = some (.int .i64 (V.tv k).su) ∧ w'.cell? ⟨wr.heap.size, 7, none⟩ = some (.int .i64 (V.tv k).us) ∧ w'.cell? ⟨wr.heap.size, 8, none⟩ = some (.int .i64 (V.tv k).lo) ∧ w'.cell? ⟨hw, 3, none⟩ = some (.slice (some ⟨a.ga, a.og, none⟩) V.gn a.gc))) (by kernel_rfl) (HKS.out _ (Below.refl _ _).drew) (fun hH => ?_)
          refine rgT 0 ?_ ?_ hH ?_; rotate_left; · (intro w s; (try dsimp only at s); go_simp; try with_reducible rfl)
          try simp only [rgp, rg0, rg1]
          refine rgT 1 ?_ ?_ hH ?_; rotate_left; · (intro w s; (try dsimp only at s); go_simp; try with_reducible rfl)
          try simp only [rgp, rg0, rg1]
          cases s1 : ((V.tv k).st != 1)
          · refine rgT 2 ?_ ?_ hH ?_; rotate_left; · (intro w s; (try dsimp only at s); go_simp; try with_reducible rfl)
            try simp only [rgp, rg0, rg1]
            refine rgT 3 ?_ ?_ hH ?_; rotate_left; · (intro w s; (try dsimp only at s); go_simp; try with_reducible rfl)
            try simp only [rgp, rg0, rg1]
            refine rgU 4 hH ?_; try simp only [rgp, rg0, rg1]
            refine rgU 5 hH ?_; try simp only [rgp, rg0, rg1]
            refine rgU 6 hH ?_; try simp only [rgp, rg0, rg1]
            refine rgT 7 ?_ ?_ hH ?_; rotate_left; · (intro w s; (try dsimp only at s); go_simp; try with_reducible rfl)
            try simp only [rgp, rg0, rg1]
            refine rgT 8 ?_ ?_ hH ?_; rotate_left; · (intro w s; (try dsimp only at s); go_simp; try with_reducible rfl)
            try simp only [rgp, rg0, rg1]
            refine rgT 9 ?_ ?_ hH ?_; rotate_left; · (intro w s; (try dsimp only at s); go_simp; try with_reducible rfl)
            try simp only [rgp, rg0, rg1]
            refine rgT 10 ?_ ?_ hH ?_; rotate_left; · (intro w s; (try dsimp only at s); go_simp; try with_reducible rfl)
            try simp only [rgp, rg0, rg1]
            refine rgT 11 ?_ ?_ hH ?_; rotate_left; · (intro w s; (try dsimp only at s); go_simp; try with_reducible rfl)
            try simp only [rgp, rg0, rg1]
            refine rgT 12 ?_ ?_ hH ?_; rotate_left; · (intro w s; (try dsimp only at s); go_simp; try with_reducible rfl)
            try simp only [rgp, rg0, rg1]
            refine rgT 13 ?_ ?_ hH ?_; rotate_left; · (intro w s; (try dsimp only at s); go_simp; try with_reducible rfl)
            try simp only [rgp, rg0, rg1]
            refine rgT 14 ?_ ?_ hH ?_; rotate_left; · (intro w s; (try dsimp only at s); go_simp; try with_reducible rfl)
            try simp only [rgp, rg0, rg1]
            cases c1 : (usedB (fun i => (V.gv i).us) V.gn (V.tv k).gr)
            · refine rgS 15 (fun K hK => ?_)
              go_simp
              (go_at_call 53; refine (iUsed_any _ _ _ (by have := HN8.out; omega) _ _ _ _ _ ((HM.out.below (hbx.trans (hH.1.mono hbx.size))).trd)).mono ?_; rintro e wv1 ⟨rfl, rfl⟩)
              go_wp2_with fail
              refine hK.out _ _ (hH) (fun hH_1 => ?_)
              clear hK K
              try simp only [rgp, rgn, rg0, rg1]
              refine rgT 16 ?_ ?_ hH_1 ?_; rotate_left; · (intro w s; (try dsimp only at s); go_simp; try with_reducible rfl)
              try simp only [rgp, rg0, rg1]
              refine rgT 17 ?_ ?_ hH_1 ?_; rotate_left; · (intro w s; (try dsimp only at s); go_simp; try with_reducible rfl)
              try simp only [rgp, rg0, rg1]
              refine rgT 18 ?_ ?_ hH_1 ?_; rotate_left; · (intro w s; (try dsimp only at s); go_simp; try with_reducible rfl)
              try simp only [rgp, rg0, rg1]
              refine rgU 19 hH_1 ?_; try simp only [rgp, rg0, rg1]
              refine rgU 20 hH_1 ?_; try simp only [rgp, rg0, rg1]
              refine rgU 21 hH_1 ?_; try simp only [rgp, rg0, rg1]
              refine rgU 22 hH_1 ?_; try simp only [rgp, rg0, rg1]
              refine rgT 23 ?_ ?_ hH_1 ?_; rotate_left; · (intro w s; (try dsimp only at s); go_simp; try with_reducible rfl)
              try simp only [rgp, rg0, rg1]
              refine rgT 24 ?_ ?_ hH_1 ?_; rotate_left; · (intro w s; (try dsimp only at s); go_simp; try with_reducible rfl)
              try simp only [rgp, rg0, rg1]
              refine rgU 25 hH_1 ?_; try simp only [rgp, rg0, rg1]
              refine rgU 26 hH_1 ?_; try simp only [rgp, rg0, rg1]
              refine rgU 27 hH_1 ?_; try simp only [rgp, rg0, rg1]
              refine rgU 28 hH_1 ?_; try simp only [rgp, rg0, rg1]
              refine rgT 29 ?_ ?_ hH_1 ?_; rotate_left; · (intro w s; (try dsimp only at s); go_simp; try with_reducible rfl)
              try simp only [rgp, rg0, rg1]
              refine wpAnyH_done (by kernel_rfl) ?_ _
              go_wp2
              go_meet
              simp at s1
              exact ⟨by rw [HHD.out, c1]; simp [s1], hH_1.1⟩
            · refine rgS 15 (fun K hK => ?_)
              go_simp
              (go_at_call 53; refine (iUsed_any _ _ _ (by have := HN8.out; omega) _ _ _ _ _ ((HM.out.below (hbx.trans (hH.1.mono hbx.size))).trd)).mono ?_; rintro e wv2 ⟨rfl, rfl⟩)
              go_wp2_with fail
              refine hK.out _ _ (hH) (fun hH_2 => ?_)
              clear hK K
              try simp only [rgp, rgn, rg0, rg1]
              refine rgT 16 ?_ ?_ hH_2 ?_; rotate_left; · (intro w s; (try dsimp only at s); go_simp; try with_reducible rfl)
              try simp only [rgp, rg0, rg1]
              refine rgT 17 ?_ ?_ hH_2 ?_; rotate_left; · (intro w s; (try dsimp only at s); go_simp; try with_reducible rfl)
              try simp only [rgp, rg0, rg1]
              refine rgT 18 ?_ ?_ hH_2 ?_; rotate_left; · (intro w s; (try dsimp only at s); go_simp; try with_reducible rfl)
              try simp only [rgp, rg0, rg1]
              refine rgT 19 ?_ ?_ hH_2 ?_; rotate_left; · (intro w s; (try dsimp only at s); go_simp; try with_reducible rfl)
              try simp only [rgp, rg0, rg1]
              refine rgT 20 ?_ ?_ hH_2 ?_; rotate_left; · (intro w s; (try dsimp only at s); go_simp; try with_reducible rfl)
              try simp only [rgp, rg0, rg1]
              cases c2 : (inR (V.tv k).ni (-10) 9)
              · refine rgS 21 (fun K hK => ?_)
                go_simp
                (go_at_call 89; refine (niceOk_any _ _).mono ?_; rintro e wv3 ⟨rfl, rfl⟩)
                go_wp2_with fail
                refine hK.out _ _ (hH_2) (fun hH_3 => ?_)
                clear hK K
                try simp only [rgp, rgn, rg0, rg1]
                refine rgT 22 ?_ ?_ hH_3 ?_; rotate_left; · (intro w s; (try dsimp only at s); go_simp; try with_reducible rfl)
                try simp only [rgp, rg0, rg1]
                refine rgT 23 ?_ ?_ hH_3 ?_; rotate_left; · (intro w s; (try dsimp only at s); go_simp; try with_reducible rfl)
                try simp only [rgp, rg0, rg1]
                refine rgT 24 ?_ ?_ hH_3 ?_; rotate_left; · (intro w s; (try dsimp only at s); go_simp; try with_reducible rfl)
                try simp only [rgp, rg0, rg1]
                refine rgU 25 hH_3 ?_; try simp only [rgp, rg0, rg1]
                refine rgU 26 hH_3 ?_; try simp only [rgp, rg0, rg1]
                refine rgU 27 hH_3 ?_; try simp only [rgp, rg0, rg1]
                refine rgU 28 hH_3 ?_; try simp only [rgp, rg0, rg1]
                refine rgT 29 ?_ ?_ hH_3 ?_; rotate_left; · (intro w s; (try dsimp only at s); go_simp; try with_reducible rfl)
                try simp only [rgp, rg0, rg1]
                refine wpAnyH_done (by kernel_rfl) ?_ _
                go_wp2
                go_meet
                simp at s1
                exact ⟨by rw [HHD.out, c1, c2]; simp [s1], hH_3.1⟩
              · refine rgS 21 (fun K hK => ?_)
                go_simp
                (go_at_call 89; refine (niceOk_any _ _).mono ?_; rintro e wv4 ⟨rfl, rfl⟩)
                go_wp2_with fail
                refine hK.out _ _ (hH_2) (fun hH_4 => ?_)
                clear hK K
                try simp only [rgp, rgn, rg0, rg1]
                refine rgT 22 ?_ ?_ hH_4 ?_; rotate_left; · (intro w s; (try dsimp only at s); go_simp; try with_reducible rfl)
                try simp only [rgp, rg0, rg1]
                refine rgT 23 ?_ ?_ hH_4 ?_; rotate_left; · (intro w s; (try dsimp only at s); go_simp; try with_reducible rfl)
                try simp only [rgp, rg0, rg1]
                refine rgT 24 ?_ ?_ hH_4 ?_; rotate_left; · (intro w s; (try dsimp only at s); go_simp; try with_reducible rfl)
                try simp only [rgp, rg0, rg1]
                refine rgT 25 ?_ ?_ hH_4 ?_; rotate_left; · (intro w s; (try dsimp only at s); go_simp; try with_reducible rfl)
                try simp only [rgp, rg0, rg1]
                refine rgT 26 ?_ ?_ hH_4 ?_; rotate_left; · (intro w s; (try dsimp only at s); go_simp; try with_reducible rfl)
                try simp only [rgp, rg0, rg1]
                cases c3 : (inR (V.tv k).ma 0 15 && ((V.tv k).ma != 0))
                · refine rgS 27 (fun K hK => ?_)
                  go_simp
                  (go_at_call 87; refine (maskFull_any _ _).mono ?_; rintro e wv5 ⟨rfl, rfl⟩)
                  go_wp2_with fail
                  refine hK.out _ _ (hH_4) (fun hH_5 => ?_)
                  clear hK K
                  try simp only [rgp, rgn, rg0, rg1]
                  refine rgT 28 ?_ ?_ hH_5 ?_; rotate_left; · (intro w s; (try dsimp only at s); go_simp; try with_reducible rfl)
                  try simp only [rgp, rg0, rg1]
                  refine rgT 29 ?_ ?_ hH_5 ?_; rotate_left; · (intro w s; (try dsimp only at s); go_simp; try with_reducible rfl)
                  try simp only [rgp, rg0, rg1]
                  refine wpAnyH_done (by kernel_rfl) ?_ _
                  go_wp2
                  go_meet
                  simp at s1
                  exact ⟨by rw [HHD.out, c1, c2, c3]; simp [s1], hH_5.1⟩
                · refine rgS 27 (fun K hK => ?_)
                  go_simp
                  (go_at_call 87; refine (maskFull_any _ _).mono ?_; rintro e wv6 ⟨rfl, rfl⟩)
                  go_wp2_with fail
                  refine hK.out _ _ (hH_4) (fun hH_6 => ?_)
                  clear hK K
                  try simp only [rgp, rgn, rg0, rg1]
                  refine rgT 28 ?_ ?_ hH_6 ?_; rotate_left; · (intro w s; (try dsimp only at s); go_simp; try with_reducible rfl)
                  try simp only [rgp, rg0, rg1]
                  refine rgT 29 ?_ ?_ hH_6 ?_; rotate_left; · (intro w s; (try dsimp only at s); go_simp; try with_reducible rfl)
                  try simp only [rgp, rg0, rg1]
                  refine wpAnyH_done (by kernel_rfl) ?_ _
                  go_wp2
                  go_meet
                  simp at s1
                  exact ⟨by rw [HHD.out, c1, c2, c3]; simp [s1], hH_6.1⟩
          · refine rgT 2 ?_ ?_ hH ?_; rotate_left; · (intro w s; (try dsimp only at s); go_simp; try with_reducible rfl)
            try simp only [rgp, rg0, rg1]
            refine rgT 3 ?_ ?_ hH ?_; rotate_left; · (intro w s; (try dsimp only at s); go_simp; try with_reducible rfl)
            try simp only [rgp, rg0, rg1]
            refine rgT 4 ?_ ?_ hH ?_; rotate_left; · (intro w s; (try dsimp only at s); go_simp; try with_reducible rfl)
            try simp only [rgp, rg0, rg1]
            refine rgT 5 ?_ ?_ hH ?_; rotate_left; · (intro w s; (try dsimp only at s); go_simp; try with_reducible rfl)
            try simp only [rgp, rg0, rg1]
            cases s2 : ((V.tv k).st != 2)
            · refine rgT 6 ?_ ?_ hH ?_; rotate_left; · (intro w s; (try dsimp only at s); go_simp; try with_reducible rfl)
              try simp only [rgp, rg0, rg1]
              refine rgT 7 ?_ ?_ hH ?_; rotate_left; · (intro w s; (try dsimp only at s); go_simp; try with_reducible rfl)
              try simp only [rgp, rg0, rg1]
              refine rgT 8 ?_ ?_ hH ?_; rotate_left; · (intro w s; (try dsimp only at s); go_simp; try with_reducible rfl)
              try simp only [rgp, rg0, rg1]
              refine rgT 9 ?_ ?_ hH ?_; rotate_left; · (intro w s; (try dsimp only at s); go_simp; try with_reducible rfl)
              try simp only [rgp, rg0, rg1]
              refine rgT 10 ?_ ?_ hH ?_; rotate_left; · (intro w s; (try dsimp only at s); go_simp; try with_reducible rfl)
              try simp only [rgp, rg0, rg1]
              refine rgT 11 ?_ ?_ hH ?_; rotate_left; · (intro w s; (try dsimp only at s); go_simp; try with_reducible rfl)
              try simp only [rgp, rg0, rg1]
              refine rgT 12 ?_ ?_ hH ?_; rotate_left; · (intro w s; (try dsimp only at s); go_simp; try with_reducible rfl)
              try simp only [rgp, rg0, rg1]
              refine rgT 13 ?_ ?_ hH ?_; rotate_left; · (intro w s; (try dsimp only at s); go_simp; try with_reducible rfl)
              try simp only [rgp, rg0, rg1]
              refine rgT 14 ?_ ?_ hH ?_; rotate_left; · (intro w s; (try dsimp only at s); go_simp; try with_reducible rfl)
              try simp only [rgp, rg0, rg1]
              cases c1 : (usedB (fun i => (V.gv i).us) V.gn (V.tv k).gr)
              · refine rgS 15 (fun K hK => ?_)
                go_simp
                (go_at_call 53; refine (iUsed_any _ _ _ (by have := HN8.out; omega) _ _ _ _ _ ((HM.out.below (hbx.trans (hH.1.mono hbx.size))).trd)).mono ?_; rintro e wv7 ⟨rfl, rfl⟩)
                go_wp2_with fail
                refine hK.out _ _ (hH) (fun hH_7 => ?_)
                clear hK K
                try simp only [rgp, rgn, rg0, rg1]
                refine rgT 16 ?_ ?_ hH_7 ?_; rotate_left; · (intro w s; (try dsimp only at s); go_simp; try with_reducible rfl)
                try simp only [rgp, rg0, rg1]
                refine rgT 17 ?_ ?_ hH_7 ?_; rotate_left; · (intro w s; (try dsimp only at s); go_simp; try with_reducible rfl)
                try simp only [rgp, rg0, rg1]
                refine rgT 18 ?_ ?_ hH_7 ?_; rotate_left; · (intro w s; (try dsimp only at s); go_simp; try with_reducible rfl)
                try simp only [rgp, rg0, rg1]
                refine rgU 19 hH_7 ?_; try simp only [rgp, rg0, rg1]
                refine rgU 20 hH_7 ?_; try simp only [rgp, rg0, rg1]
                refine rgU 21 hH_7 ?_; try simp only [rgp, rg0, rg1]
                refine rgU 22 hH_7 ?_; try simp only [rgp, rg0, rg1]
                refine rgT 23 ?_ ?_ hH_7 ?_; rotate_left; · (intro w s; (try dsimp only at s); go_simp; try with_reducible rfl)
                try simp only [rgp, rg0, rg1]
                refine rgT 24 ?_ ?_ hH_7 ?_; rotate_left; · (intro w s; (try dsimp only at s); go_simp; try with_reducible rfl)
                try simp only [rgp, rg0, rg1]
                refine rgU 25 hH_7 ?_; try simp only [rgp, rg0, rg1]
                refine rgU 26 hH_7 ?_; try simp only [rgp, rg0, rg1]
                refine rgU 27 hH_7 ?_; try simp only [rgp, rg0, rg1]
                refine rgU 28 hH_7 ?_; try simp only [rgp, rg0, rg1]
                refine rgT 29 ?_ ?_ hH_7 ?_; rotate_left; · (intro w s; (try dsimp only at s); go_simp; try with_reducible rfl)
                try simp only [rgp, rg0, rg1]
                refine wpAnyH_done (by kernel_rfl) ?_ _
                go_wp2
                go_meet
                simp at s1
                simp at s2
                exact ⟨by rw [HHD.out, c1]; simp [s2], hH_7.1⟩
              · refine rgS 15 (fun K hK => ?_)
                go_simp
                (go_at_call 53; refine (iUsed_any _ _ _ (by have := HN8.out; omega) _ _ _ _ _ ((HM.out.below (hbx.trans (hH.1.mono hbx.size))).trd)).mono ?_; rintro e wv8 ⟨rfl, rfl⟩)
                go_wp2_with fail
                refine hK.out _ _ (hH) (fun hH_8 => ?_)
                clear hK K
                try simp only [rgp, rgn, rg0, rg1]
                refine rgT 16 ?_ ?_ hH_8 ?_; rotate_left; · (intro w s; (try dsimp only at s); go_simp; try with_reducible rfl)
                try simp only [rgp, rg0, rg1]
                refine rgT 17 ?_ ?_ hH_8 ?_; rotate_left; · (intro w s; (try dsimp only at s); go_simp; try with_reducible rfl)
                try simp only [rgp, rg0, rg1]
                refine rgT 18 ?_ ?_ hH_8 ?_; rotate_left; · (intro w s; (try dsimp only at s); go_simp; try with_reducible rfl)
                try simp only [rgp, rg0, rg1]
                refine rgT 19 ?_ ?_ hH_8 ?_; rotate_left; · (intro w s; (try dsimp only at s); go_simp; try with_reducible rfl)
                try simp only [rgp, rg0, rg1]
                refine rgT 20 ?_ ?_ hH_8 ?_; rotate_left; · (intro w s; (try dsimp only at s); go_simp; try with_reducible rfl)
                try simp only [rgp, rg0, rg1]
                cases c2 : (inR (V.tv k).ni (-10) 9)
                · refine rgS 21 (fun K hK => ?_)
                  go_simp
                  (go_at_call 89; refine (niceOk_any _ _).mono ?_; rintro e wv9 ⟨rfl, rfl⟩)
                  go_wp2_with fail
                  refine hK.out _ _ (hH_8) (fun hH_9 => ?_)
                  clear hK K
                  try simp only [rgp, rgn, rg0, rg1]
                  refine rgT 22 ?_ ?_ hH_9 ?_; rotate_left; · (intro w s; (try dsimp only at s); go_simp; try with_reducible rfl)
                  try simp only [rgp, rg0, rg1]
                  refine rgT 23 ?_ ?_ hH_9 ?_; rotate_left; · (intro w s; (try dsimp only at s); go_simp; try with_reducible rfl)
                  try simp only [rgp, rg0, rg1]
                  refine rgT 24 ?_ ?_ hH_9 ?_; rotate_left; · (intro w s; (try dsimp only at s); go_simp; try with_reducible rfl)
                  try simp only [rgp, rg0, rg1]
                  refine rgU 25 hH_9 ?_; try simp only [rgp, rg0, rg1]
                  refine rgU 26 hH_9 ?_; try simp only [rgp, rg0, rg1]
                  refine rgU 27 hH_9 ?_; try simp only [rgp, rg0, rg1]
                  refine rgU 28 hH_9 ?_; try simp only [rgp, rg0, rg1]
                  refine rgT 29 ?_ ?_ hH_9 ?_; rotate_left; · (intro w s; (try dsimp only at s); go_simp; try with_reducible rfl)
                  try simp only [rgp, rg0, rg1]
                  refine wpAnyH_done (by kernel_rfl) ?_ _
                  go_wp2
                  go_meet
                  simp at s1
                  simp at s2
                  exact ⟨by rw [HHD.out, c1, c2]; simp [s2], hH_9.1⟩
                · refine rgS 21 (fun K hK => ?_)
                  go_simp
                  (go_at_call 89; refine (niceOk_any _ _).mono ?_; rintro e wv10 ⟨rfl, rfl⟩)
                  go_wp2_with fail
                  refine hK.out _ _ (hH_8) (fun hH_10 => ?_)
                  clear hK K
                  try simp only [rgp, rgn, rg0, rg1]
                  refine rgT 22 ?_ ?_ hH_10 ?_; rotate_left; · (intro w s; (try dsimp only at s); go_simp; try with_reducible rfl)
                  try simp only [rgp, rg0, rg1]
                  refine rgT 23 ?_ ?_ hH_10 ?_; rotate_left; · (intro w s; (try dsimp only at s); go_simp; try with_reducible rfl)
                  try simp only [rgp, rg0, rg1]
                  refine rgT 24 ?_ ?_ hH_10 ?_; rotate_left; · (intro w s; (try dsimp only at s); go_simp; try with_reducible rfl)
                  try simp only [rgp, rg0, rg1]
                  refine rgT 25 ?_ ?_ hH_10 ?_; rotate_left; · (intro w s; (try dsimp only at s); go_simp; try with_reducible rfl)
                  try simp only [rgp, rg0, rg1]
                  refine rgT 26 ?_ ?_ hH_10 ?_; rotate_left; · (intro w s; (try dsimp only at s); go_simp; try with_reducible rfl)
                  try simp only [rgp, rg0, rg1]
                  cases c3 : (inR (V.tv k).ma 0 15 && ((V.tv k).ma != 0))
                  · refine rgS 27 (fun K hK => ?_)
                    go_simp
                    (go_at_call 87; refine (maskFull_any _ _).mono ?_; rintro e wv11 ⟨rfl, rfl⟩)
                    go_wp2_with fail
                    refine hK.out _ _ (hH_10) (fun hH_11 => ?_)
                    clear hK K
                    try simp only [rgp, rgn, rg0, rg1]
                    refine rgT 28 ?_ ?_ hH_11 ?_; rotate_left; · (intro w s; (try dsimp only at s); go_simp; try with_reducible rfl)
                    try simp only [rgp, rg0, rg1]
                    refine rgT 29 ?_ ?_ hH_11 ?_; rotate_left; · (intro w s; (try dsimp only at s); go_simp; try with_reducible rfl)
                    try simp only [rgp, rg0, rg1]
                    refine wpAnyH_done (by kernel_rfl) ?_ _
                    go_wp2
                    go_meet
                    simp at s1
                    simp at s2
                    exact ⟨by rw [HHD.out, c1, c2, c3]; simp [s2], hH_11.1⟩
                  · refine rgS 27 (fun K hK => ?_)
                    go_simp
                    (go_at_call 87; refine (maskFull_any _ _).mono ?_; rintro e wv12 ⟨rfl, rfl⟩)
                    go_wp2_with fail
                    refine hK.out _ _ (hH_10) (fun hH_12 => ?_)
                    clear hK K
                    try simp only [rgp, rgn, rg0, rg1]
                    refine rgT 28 ?_ ?_ hH_12 ?_; rotate_left; · (intro w s; (try dsimp only at s); go_simp; try with_reducible rfl)
                    try simp only [rgp, rg0, rg1]
                    refine rgT 29 ?_ ?_ hH_12 ?_; rotate_left; · (intro w s; (try dsimp only at s); go_simp; try with_reducible rfl)
                    try simp only [rgp, rg0, rg1]
                    refine wpAnyH_done (by kernel_rfl) ?_ _
                    go_wp2
                    go_meet
                    simp at s1
                    simp at s2
                    exact ⟨by rw [HHD.out, c1, c2, c3]; simp [s2], hH_12.1⟩
            · refine rgT 6 ?_ ?_ hH ?_; rotate_left; · (intro w s; (try dsimp only at s); go_simp; try with_reducible rfl)
              try simp only [rgp, rg0, rg1]
              refine rgT 7 ?_ ?_ hH ?_; rotate_left; · (intro w s; (try dsimp only at s); go_simp; try with_reducible rfl)
              try simp only [rgp, rg0, rg1]
              refine rgT 8 ?_ ?_ hH ?_; rotate_left; · (intro w s; (try dsimp only at s); go_simp; try with_reducible rfl)
              try simp only [rgp, rg0, rg1]
              refine rgU 9 hH ?_; try simp only [rgp, rg0, rg1]
              refine rgU 10 hH ?_; try simp only [rgp, rg0, rg1]
              refine rgU 11 hH ?_; try simp only [rgp, rg0, rg1]
              refine rgU 12 hH ?_; try simp only [rgp, rg0, rg1]
              refine rgU 13 hH ?_; try simp only [rgp, rg0, rg1]
              refine rgU 14 hH ?_; try simp only [rgp, rg0, rg1]
              refine rgU 15 hH ?_; try simp only [rgp, rg0, rg1]
              refine rgU 16 hH ?_; try simp only [rgp, rg0, rg1]
              refine rgT 17 ?_ ?_ hH ?_; rotate_left; · (intro w s; (try dsimp only at s); go_simp; try with_reducible rfl)
              try simp only [rgp, rg0, rg1]
              refine rgT 18 ?_ ?_ hH ?_; rotate_left; · (intro w s; (try dsimp only at s); go_simp; try with_reducible rfl)
              try simp only [rgp, rg0, rg1]
              refine rgU 19 hH ?_; try simp only [rgp, rg0, rg1]
              refine rgU 20 hH ?_; try simp only [rgp, rg0, rg1]
              refine rgU 21 hH ?_; try simp only [rgp, rg0, rg1]
              refine rgU 22 hH ?_; try simp only [rgp, rg0, rg1]
              refine rgT 23 ?_ ?_ hH ?_; rotate_left; · (intro w s; (try dsimp only at s); go_simp; try with_reducible rfl)
              try simp only [rgp, rg0, rg1]
              refine rgT 24 ?_ ?_ hH ?_; rotate_left; · (intro w s; (try dsimp only at s); go_simp; try with_reducible rfl)
              try simp only [rgp, rg0, rg1]
              refine rgU 25 hH ?_; try simp only [rgp, rg0, rg1]
              refine rgU 26 hH ?_; try simp only [rgp, rg0, rg1]
              refine rgU 27 hH ?_; try simp only [rgp, rg0, rg1]
              refine rgU 28 hH ?_; try simp only [rgp, rg0, rg1]
              refine rgT 29 ?_ ?_ hH ?_; rotate_left; · (intro w s; (try dsimp only at s); go_simp; try with_reducible rfl)
              try simp only [rgp, rg0, rg1]
              refine wpAnyH_done (by kernel_rfl) ?_ _
              go_wp2
              go_meet
              simp at s1
              simp at s2
              exact ⟨by rw [HHD.out]; simp [s1, s2], hH.1⟩
        case rest =>
          obtain ⟨rfl, HX5⟩ := hcut
          cases hE : headT V k
          · rw [hE] at HE
            go_wp2
            go_ret
            exact ⟨ret_boolB (HF.out (by rw [HE.out]; rfl)).symm, HBX.out.trans (HX5.out.mono HBX.out.size)⟩
          rw [hE] at HE
          have hu : usedB (fun i => (V.gv i).us) V.gn (V.tv k).gr = true := by
            simp only [headT, Bool.and_eq_true] at hE
            exact hE.1.1.1.2
          clear hE
          obtain ⟨u1, u2, u3⟩ := usedB_iff.1 hu
          obtain ⟨G, hG⟩ := Int.eq_ofNat_of_zero_le u1
          rw [hG] at u2 u3
          simp only [Int.toNat_natCast] at u3
          have HBC : Hid (Below w.heap.size w wc) := HBX.out.trans (HX5.out.mono HBX.out.size)
          have HKC : Hid (Bk wc wr.heap.size 54 #[.int .i64 (V.tv k).st, .int .i64 (V.tv k).gr, .int .i64 (V.tv k).cp, .int .i64 (V.tv k).ni, .int .i64 (V.tv k).ma, .int .i64 (V.tv k).vv, .int .i64 (V.tv k).su, .int .i64 (V.tv k).us, .int .i64 (V.tv k).lo]) := HKX.out.below HX5.out HKX.out.lt
          have HAL : Hid (∀ x, Below w.heap.size w x → Calls Tryz.prog 36 #[.pointer (some ⟨hw, 0, none⟩), .int .i64 k] x fun e w' => e = .returned (.int .i64 (whereM V (V.tv k).gr.toNat (V.tv k).ma)) ∧ Below x.heap.size x w') := fun x hx => allowed_any V HT.out a hw k hlt htn hu hcn x (HK.out.below hx hkl) (HM.out.below hx)
          have HGE := Lib.hid hG
          clear HX5 HBX HKX hu u1 hG
          go_upto_region 7 with (fail)
          go_cut [72] from 12 to 102 (fun c wx => c = .bool (!(numT V k)) ∧ Hid (Below wc.heap.size wc wx))
          case first =>
            have hkx := HKC.out
            have hbx := HBC.out
            have HND : Hid (numT V k = (time3 (V.tv k).vv (V.tv k).su (V.tv k).us && inR (V.tv k).lo 0 8000000 && maskHas (whereM V (V.tv k).gr.toNat (V.tv k).ma) (V.tv k).cp)) := rfl
            have KS : ∀ w', Below wc.heap.size wc w' → (fun w' => Below wc.heap.size wc w' ∧ w'.cell? ⟨wr.heap.size, 0, none⟩ = some (.int .i64 (V.tv k).st) ∧ w'.cell? ⟨wr.heap.size, 1, none⟩ = some (.int .i64 (V.tv k).gr) ∧ w'.cell? ⟨wr.heap.size, 2, none⟩ = some (.int .i64 (V.tv k).cp) ∧ w'.cell? ⟨wr.heap.size, 3, none⟩ = some (.int .i64 (V.tv k).ni) ∧ w'.cell? ⟨wr.heap.size, 4, none⟩ = some (.int .i64 (V.tv k).ma) ∧ w'.cell? ⟨wr.heap.size, 5, none⟩ = some (.int .i64 (V.tv k).vv) ∧ w'.cell? ⟨wr.heap.size, 6, none⟩ = some (.int .i64 (V.tv k).su) ∧ w'.cell? ⟨wr.heap.size, 7, none⟩ = some (.int .i64 (V.tv k).us) ∧ w'.cell? ⟨wr.heap.size, 8, none⟩ = some (.int .i64 (V.tv k).lo)) w' := fun w' h => ⟨h, (h.cell (p := ⟨wr.heap.size, 0, none⟩) hkx.lt).trans ((hkx.cell 0).trans rfl), (h.cell (p := ⟨wr.heap.size, 1, none⟩) hkx.lt).trans ((hkx.cell 1).trans rfl), (h.cell (p := ⟨wr.heap.size, 2, none⟩) hkx.lt).trans ((hkx.cell 2).trans rfl), (h.cell (p := ⟨wr.heap.size, 3, none⟩) hkx.lt).trans ((hkx.cell 3).trans rfl), (h.cell (p := ⟨wr.heap.size, 4, none⟩) hkx.lt).trans ((hkx.cell 4).trans rfl), (h.cell (p := ⟨wr.heap.size, 5, none⟩) hkx.lt).trans ((hkx.cell 5).trans rfl), (h.cell (p := ⟨wr.heap.size, 6, none⟩) hkx.lt).trans ((hkx.cell 6).trans rfl), (h.cell (p := ⟨wr.heap.size, 7, none⟩) hkx.lt).trans ((hkx.cell 7).trans rfl), (h.cell (p := ⟨wr.heap.size, 8, none⟩) hkx.lt).trans ((hkx.cell 8).trans rfl)⟩
            have KT : ∀ wa wb, (fun w' => Below wc.heap.size wc w' ∧ w'.cell? ⟨wr.heap.size, 0, none⟩ = some (.int .i64 (V.tv k).st) ∧ w'.cell? ⟨wr.heap.size, 1, none⟩ = some (.int .i64 (V.tv k).gr) ∧ w'.cell? ⟨wr.heap.size, 2, none⟩ = some (.int .i64 (V.tv k).cp) ∧ w'.cell? ⟨wr.heap.size, 3, none⟩ = some (.int .i64 (V.tv k).ni) ∧ w'.cell? ⟨wr.heap.size, 4, none⟩ = some (.int .i64 (V.tv k).ma) ∧ w'.cell? ⟨wr.heap.size, 5, none⟩ = some (.int .i64 (V.tv k).vv) ∧ w'.cell? ⟨wr.heap.size, 6, none⟩ = some (.int .i64 (V.tv k).su) ∧ w'.cell? ⟨wr.heap.size, 7, none⟩ = some (.int .i64 (V.tv k).us) ∧ w'.cell? ⟨wr.heap.size, 8, none⟩ = some (.int .i64 (V.tv k).lo)) wa → Below wa.heap.size wa wb → (fun w' => Below wc.heap.size wc w' ∧ w'.cell? ⟨wr.heap.size, 0, none⟩ = some (.int .i64 (V.tv k).st) ∧ w'.cell? ⟨wr.heap.size, 1, none⟩ = some (.int .i64 (V.tv k).gr) ∧ w'.cell? ⟨wr.heap.size, 2, none⟩ = some (.int .i64 (V.tv k).cp) ∧ w'.cell? ⟨wr.heap.size, 3, none⟩ = some (.int .i64 (V.tv k).ni) ∧ w'.cell? ⟨wr.heap.size, 4, none⟩ = some (.int .i64 (V.tv k).ma) ∧ w'.cell? ⟨wr.heap.size, 5, none⟩ = some (.int .i64 (V.tv k).vv) ∧ w'.cell? ⟨wr.heap.size, 6, none⟩ = some (.int .i64 (V.tv k).su) ∧ w'.cell? ⟨wr.heap.size, 7, none⟩ = some (.int .i64 (V.tv k).us) ∧ w'.cell? ⟨wr.heap.size, 8, none⟩ = some (.int .i64 (V.tv k).lo)) wb := fun wa wb h hab => KS wb (h.1.trans (hab.mono h.1.size))
            have HKS := Lib.hid KS
            have HKT := Lib.hid KT
            clear KS KT
            clear hkx
            refine wp_region_held_drew (S := (fun w' => Below wc.heap.size wc w' ∧ w'.cell? ⟨wr.heap.size, 0, none⟩ = some (.int .i64 (V.tv k).st) ∧ w'.cell? ⟨wr.heap.size, 1, none⟩ = some (.int .i64 (V.tv k).gr) ∧ w'.cell? ⟨wr.heap.size, 2, none⟩ = some (.int .i64 (V.tv k).cp) ∧ w'.cell? ⟨wr.heap.size, 3, none⟩ = some (.int .i64 (V.tv k).ni) ∧ w'.cell? ⟨wr.heap.size, 4, none⟩ = some (.int .i64 (V.tv k).ma) ∧ w'.cell? ⟨wr.heap.size, 5, none⟩ = some (.int .i64 (V.tv k).vv) ∧ w'.cell? ⟨wr.heap.size, 6, none⟩ = some (.int .i64 (V.tv k).su) ∧ w'.cell? ⟨wr.heap.size, 7, none⟩ = some (.int .i64 (V.tv k).us) ∧ w'.cell? ⟨wr.heap.size, 8, none⟩ = some (.int .i64 (V.tv k).lo))) (by kernel_rfl) (HKS.out _ (Below.refl _ _).drew) (fun hH => ?_)
            refine rgT 0 ?_ ?_ hH ?_; rotate_left; · (intro w s; (try dsimp only at s); go_simp; try with_reducible rfl)
            try simp only [rgp, rg0, rg1]
            refine rgT 1 ?_ ?_ hH ?_; rotate_left; · (intro w s; (try dsimp only at s); go_simp; try with_reducible rfl)
            try simp only [rgp, rg0, rg1]
            refine rgT 2 ?_ ?_ hH ?_; rotate_left; · (intro w s; (try dsimp only at s); go_simp; try with_reducible rfl)
            try simp only [rgp, rg0, rg1]
            refine rgT 3 ?_ ?_ hH ?_; rotate_left; · (intro w s; (try dsimp only at s); go_simp; try with_reducible rfl)
            try simp only [rgp, rg0, rg1]
            refine rgT 4 ?_ ?_ hH ?_; rotate_left; · (intro w s; (try dsimp only at s); go_simp; try with_reducible rfl)
            try simp only [rgp, rg0, rg1]
            refine rgT 5 ?_ ?_ hH ?_; rotate_left; · (intro w s; (try dsimp only at s); go_simp; try with_reducible rfl)
            try simp only [rgp, rg0, rg1]
            refine rgS 6 (fun K hK => ?_)
            go_simp
            refine hK.out _ _ (HKT.out _ _ hH ((Below.refl _ _).alloc (Nat.le_refl _) _)) (fun hH_1 => ?_)
            clear hK K
            try simp only [rgp, rgn, rg0, rg1]
            refine rgBase hH_1 (fun hH_1b => ?_)
            cases d1 : (time3 (V.tv k).vv (V.tv k).su (V.tv k).us)
            · refine rgS 7 (fun K hK => ?_)
              go_simp
              (go_at_call 82; first | refine (timeOk_at3 _ _ _ _ _ _ _ _ hH_1b.1 rfl).mono ?_ | refine (timeOk_at3 _ _ _ _ _ _ _ _ (undrewB hH_1b.1) rfl).mono ?_; rintro e wv2 ⟨rfl, rfl⟩)
              go_wp2_with fail
              refine hK.out _ _ (hH_1b) (fun hH_2 => ?_)
              clear hK K
              try simp only [rgp, rgn, rg0, rg1]
              refine rgT 8 ?_ ?_ hH_2 ?_; rotate_left; · (intro w s; (try dsimp only at s); go_simp; try with_reducible rfl)
              try simp only [rgp, rg0, rg1]
              refine rgT 9 ?_ ?_ hH_2 ?_; rotate_left; · (intro w s; (try dsimp only at s); go_simp; try with_reducible rfl)
              try simp only [rgp, rg0, rg1]
              refine rgU 10 hH_2 ?_; try simp only [rgp, rg0, rg1]
              refine rgU 11 hH_2 ?_; try simp only [rgp, rg0, rg1]
              refine rgU 12 hH_2 ?_; try simp only [rgp, rg0, rg1]
              refine rgU 13 hH_2 ?_; try simp only [rgp, rg0, rg1]
              refine rgT 14 ?_ ?_ hH_2 ?_; rotate_left; · (intro w s; (try dsimp only at s); go_simp; try with_reducible rfl)
              try simp only [rgp, rg0, rg1]
              refine rgT 15 ?_ ?_ hH_2 ?_; rotate_left; · (intro w s; (try dsimp only at s); go_simp; try with_reducible rfl)
              try simp only [rgp, rg0, rg1]
              refine rgU 16 hH_2 ?_; try simp only [rgp, rg0, rg1]
              refine rgU 17 hH_2 ?_; try simp only [rgp, rg0, rg1]
              refine rgU 18 hH_2 ?_; try simp only [rgp, rg0, rg1]
              refine rgU 19 hH_2 ?_; try simp only [rgp, rg0, rg1]
              refine rgU 20 hH_2 ?_; try simp only [rgp, rg0, rg1]
              refine rgU 21 hH_2 ?_; try simp only [rgp, rg0, rg1]
              refine rgU 22 hH_2 ?_; try simp only [rgp, rg0, rg1]
              refine rgT 23 ?_ ?_ hH_2 ?_; rotate_left; · (intro w s; (try dsimp only at s); go_simp; try with_reducible rfl)
              try simp only [rgp, rg0, rg1]
              refine wpAnyH_done (by kernel_rfl) ?_ _
              go_wp2
              go_meet
              exact ⟨by rw [HND.out, d1]; rfl, hH_2.2.1⟩
            · refine rgS 7 (fun K hK => ?_)
              go_simp
              (go_at_call 82; first | refine (timeOk_at3 _ _ _ _ _ _ _ _ hH_1b.1 rfl).mono ?_ | refine (timeOk_at3 _ _ _ _ _ _ _ _ (undrewB hH_1b.1) rfl).mono ?_; rintro e wv3 ⟨rfl, rfl⟩)
              go_wp2_with fail
              refine hK.out _ _ (hH_1b) (fun hH_3 => ?_)
              clear hK K
              try simp only [rgp, rgn, rg0, rg1]
              refine rgT 8 ?_ ?_ hH_3 ?_; rotate_left; · (intro w s; (try dsimp only at s); go_simp; try with_reducible rfl)
              try simp only [rgp, rg0, rg1]
              refine rgT 9 ?_ ?_ hH_3 ?_; rotate_left; · (intro w s; (try dsimp only at s); go_simp; try with_reducible rfl)
              try simp only [rgp, rg0, rg1]
              refine rgT 10 ?_ ?_ hH_3 ?_; rotate_left; · (intro w s; (try dsimp only at s); go_simp; try with_reducible rfl)
              try simp only [rgp, rg0, rg1]
              refine rgT 11 ?_ ?_ hH_3 ?_; rotate_left; · (intro w s; (try dsimp only at s); go_simp; try with_reducible rfl)
              try simp only [rgp, rg0, rg1]
              cases d2 : (inR (V.tv k).lo 0 8000000)
              · refine rgS 12 (fun K hK => ?_)
                go_simp
                (go_at_call 90; refine (loadOk_any _ _).mono ?_; rintro e wv4 ⟨rfl, rfl⟩)
                go_wp2_with fail
                refine hK.out _ _ (hH_3) (fun hH_4 => ?_)
                clear hK K
                try simp only [rgp, rgn, rg0, rg1]
                refine rgT 13 ?_ ?_ hH_4 ?_; rotate_left; · (intro w s; (try dsimp only at s); go_simp; try with_reducible rfl)
                try simp only [rgp, rg0, rg1]
                refine rgT 14 ?_ ?_ hH_4 ?_; rotate_left; · (intro w s; (try dsimp only at s); go_simp; try with_reducible rfl)
                try simp only [rgp, rg0, rg1]
                refine rgT 15 ?_ ?_ hH_4 ?_; rotate_left; · (intro w s; (try dsimp only at s); go_simp; try with_reducible rfl)
                try simp only [rgp, rg0, rg1]
                refine rgU 16 hH_4 ?_; try simp only [rgp, rg0, rg1]
                refine rgU 17 hH_4 ?_; try simp only [rgp, rg0, rg1]
                refine rgU 18 hH_4 ?_; try simp only [rgp, rg0, rg1]
                refine rgU 19 hH_4 ?_; try simp only [rgp, rg0, rg1]
                refine rgU 20 hH_4 ?_; try simp only [rgp, rg0, rg1]
                refine rgU 21 hH_4 ?_; try simp only [rgp, rg0, rg1]
                refine rgU 22 hH_4 ?_; try simp only [rgp, rg0, rg1]
                refine rgT 23 ?_ ?_ hH_4 ?_; rotate_left; · (intro w s; (try dsimp only at s); go_simp; try with_reducible rfl)
                try simp only [rgp, rg0, rg1]
                refine wpAnyH_done (by kernel_rfl) ?_ _
                go_wp2
                go_meet
                exact ⟨by rw [HND.out, d1, d2]; rfl, hH_4.2.1⟩
              · refine rgS 12 (fun K hK => ?_)
                go_simp
                (go_at_call 90; refine (loadOk_any _ _).mono ?_; rintro e wv5 ⟨rfl, rfl⟩)
                go_wp2_with fail
                refine hK.out _ _ (hH_3) (fun hH_5 => ?_)
                clear hK K
                try simp only [rgp, rgn, rg0, rg1]
                refine rgT 13 ?_ ?_ hH_5 ?_; rotate_left; · (intro w s; (try dsimp only at s); go_simp; try with_reducible rfl)
                try simp only [rgp, rg0, rg1]
                refine rgT 14 ?_ ?_ hH_5 ?_; rotate_left; · (intro w s; (try dsimp only at s); go_simp; try with_reducible rfl)
                try simp only [rgp, rg0, rg1]
                refine rgT 15 ?_ ?_ hH_5 ?_; rotate_left; · (intro w s; (try dsimp only at s); go_simp; try with_reducible rfl)
                try simp only [rgp, rg0, rg1]
                refine rgT 16 ?_ ?_ hH_5 ?_; rotate_left; · (intro w s; (try dsimp only at s); go_simp; try with_reducible rfl)
                try simp only [rgp, rg0, rg1]
                refine rgT 17 ?_ ?_ hH_5 ?_; rotate_left; · (intro w s; (try dsimp only at s); go_simp; try with_reducible rfl)
                try simp only [rgp, rg0, rg1]
                refine rgT 19 ?_ ?_ hH_5 ?_; rotate_left; · (intro w s; (try dsimp only at s); go_simp; try with_reducible rfl)
                try simp only [rgp, rg0, rg1]
                refine rgT 20 ?_ ?_ hH_5 ?_; rotate_left; · (intro w s; (try dsimp only at s); go_simp; try with_reducible rfl)
                try simp only [rgp, rg0, rg1]
                refine rgS 18 (fun K hK => ?_)
                go_simp
                (go_at_call 36; refine (HAL.out _ (hbx.trans (hH_5.2.1.mono hbx.size))).mono ?_; rintro e wv6 ⟨rfl, hbb6⟩)
                go_wp2_with fail
                refine hK.out _ _ ((keep2 HKT.out) _ _ hH_5 hbb6) (fun hH_6 => ?_)
                clear hK K
                try simp only [rgp, rgn, rg0, rg1]
                cases d3 : (maskHas (whereM V (V.tv k).gr.toNat (V.tv k).ma) (V.tv k).cp)
                · refine rgS 21 (fun K hK => ?_)
                  go_simp
                  (go_at_call 91; refine (iMaskHas_any _ _ _).mono ?_; rintro e wv7 ⟨rfl, rfl⟩)
                  go_wp2_with fail
                  refine hK.out _ _ (hH_6) (fun hH_7 => ?_)
                  clear hK K
                  try simp only [rgp, rgn, rg0, rg1]
                  refine rgT 22 ?_ ?_ hH_7 ?_; rotate_left; · (intro w s; (try dsimp only at s); go_simp; try with_reducible rfl)
                  try simp only [rgp, rg0, rg1]
                  refine rgT 23 ?_ ?_ hH_7 ?_; rotate_left; · (intro w s; (try dsimp only at s); go_simp; try with_reducible rfl)
                  try simp only [rgp, rg0, rg1]
                  refine wpAnyH_done (by kernel_rfl) ?_ _
                  go_wp2
                  go_meet
                  exact ⟨by rw [HND.out, d1, d2, d3]; rfl, hH_7.2.1⟩
                · refine rgS 21 (fun K hK => ?_)
                  go_simp
                  (go_at_call 91; refine (iMaskHas_any _ _ _).mono ?_; rintro e wv8 ⟨rfl, rfl⟩)
                  go_wp2_with fail
                  refine hK.out _ _ (hH_6) (fun hH_8 => ?_)
                  clear hK K
                  try simp only [rgp, rgn, rg0, rg1]
                  refine rgT 22 ?_ ?_ hH_8 ?_; rotate_left; · (intro w s; (try dsimp only at s); go_simp; try with_reducible rfl)
                  try simp only [rgp, rg0, rg1]
                  refine rgT 23 ?_ ?_ hH_8 ?_; rotate_left; · (intro w s; (try dsimp only at s); go_simp; try with_reducible rfl)
                  try simp only [rgp, rg0, rg1]
                  refine wpAnyH_done (by kernel_rfl) ?_ _
                  go_wp2
                  go_meet
                  exact ⟨by rw [HND.out, d1, d2, d3]; rfl, hH_8.2.1⟩
          case rest =>
            obtain ⟨rfl, HX7⟩ := hcut
            rename World => wd
            cases hN : numT V k
            · rw [hN] at HE
              go_wp2
              go_ret
              exact ⟨ret_boolB (HF.out (by rw [HE.out]; rfl)).symm, HBC.out.trans (HX7.out.mono HBC.out.size)⟩
            rw [hN] at HE
            have hN3 := numT_t hN
            clear hN
            obtain ⟨q1, q2⟩ := where_lt hN3.2
            have P1 := Lib.hid hN3.1
            obtain ⟨C, hC⟩ := Int.eq_ofNat_of_zero_le q1
            rw [hC, Int.toNat_natCast] at q2
            have hsn := sn_of HGG.out (k := G) (by omega)
            rw [if_pos u3] at hsn
            have hcs : C < (V.gv G).sn := by omega
            obtain ⟨_, s2, s3⟩ := HM.out.s G (by omega) (by omega)
            have f0 := s3 C hcs 0 _ rfl
            rw [Nat.add_zero] at f0
            have HBD : Hid (Below w.heap.size w wd) := HBC.out.trans (HX7.out.mono HBC.out.size)
            have HKD : Hid (Bk wd wr.heap.size 54 #[.int .i64 (V.tv k).st, .int .i64 (V.tv k).gr, .int .i64 (V.tv k).cp, .int .i64 (V.tv k).ni, .int .i64 (V.tv k).ma, .int .i64 (V.tv k).vv, .int .i64 (V.tv k).su, .int .i64 (V.tv k).us, .int .i64 (V.tv k).lo]) := HKC.out.below HX7.out HKC.out.lt
            have HSH : Hid (∀ x, Below w.heap.size w x → Calls Tryz.prog 62 #[.agg #[.pointer (some ⟨hw, 0, none⟩), .int .i64 (C : Nat)], .int .i64 G] x fun e w' => e = .returned (.pointer (some ⟨a.sb G, a.so G + C * 5, none⟩)) ∧ Below x.heap.size x w') := fun x hx => shelf_any V a hw G C (by omega) (by have := HN8.out; omega) hcs (by omega) x (HK.out.below hx hkl) (HM.out.below hx)
            have HFL : Hid (flT V k = (V.gv G).s0 C) := by show (V.gv (V.tv k).gr.toNat).s0 (V.tv k).cp.toNat = _; rw [HGE.out, hC]; rfl
            have k1 : wd.cell? ⟨wr.heap.size, 1, none⟩ = some (.int .i64 (G : Nat)) := (HKD.out.cell 1).trans (by rw [HGE.out]; rfl)
            have k2 : wd.cell? ⟨wr.heap.size, 2, none⟩ = some (.int .i64 (C : Nat)) := (HKD.out.cell 2).trans (by rw [hC]; rfl)
            have g0 : wd.cell? ⟨a.sb G, a.so G + C * 5, none⟩ = some (.int .i64 ((V.gv G).s0 C)) := (HBD.out.cell (p := ⟨a.sb G, a.so G + C * 5, none⟩) s2).trans f0
            have l1 := HKD.out.lt
            have l2 := Nat.lt_of_lt_of_le s2 HBD.out.size
            clear HX7 HBC HKC hC hsn q1 q2 s3 f0 hN3 hcs s2
            go_upto_region 9 with (fail)
            go_cut [5] from 12 to 102 (fun c wx => c = .int .i64 (flT V k) ∧ Hid (Below wd.heap.size wd wx))
            case first =>
              have hbx := HBD.out
              have KS : ∀ w', Below wd.heap.size wd w' → (fun w' => Below wd.heap.size wd w' ∧ w'.cell? ⟨wr.heap.size, 1, none⟩ = some (.int .i64 (G : Nat)) ∧ w'.cell? ⟨wr.heap.size, 2, none⟩ = some (.int .i64 (C : Nat)) ∧ w'.cell? ⟨a.sb G, a.so G + C * 5, none⟩ = some (.int .i64 ((V.gv G).s0 C))) w' := fun w' h => ⟨h, (h.cell (p := ⟨wr.heap.size, 1, none⟩) l1).trans k1, (h.cell (p := ⟨wr.heap.size, 2, none⟩) l1).trans k2, (h.cell (p := ⟨a.sb G, a.so G + C * 5, none⟩) l2).trans g0⟩
              have KT : ∀ wa wb, (fun w' => Below wd.heap.size wd w' ∧ w'.cell? ⟨wr.heap.size, 1, none⟩ = some (.int .i64 (G : Nat)) ∧ w'.cell? ⟨wr.heap.size, 2, none⟩ = some (.int .i64 (C : Nat)) ∧ w'.cell? ⟨a.sb G, a.so G + C * 5, none⟩ = some (.int .i64 ((V.gv G).s0 C))) wa → Below wa.heap.size wa wb → (fun w' => Below wd.heap.size wd w' ∧ w'.cell? ⟨wr.heap.size, 1, none⟩ = some (.int .i64 (G : Nat)) ∧ w'.cell? ⟨wr.heap.size, 2, none⟩ = some (.int .i64 (C : Nat)) ∧ w'.cell? ⟨a.sb G, a.so G + C * 5, none⟩ = some (.int .i64 ((V.gv G).s0 C))) wb := fun wa wb h hab => KS wb (h.1.trans (hab.mono h.1.size))
              have HKS := Lib.hid KS
              have HKT := Lib.hid KT
              clear KS KT
              clear k1 k2 g0
              refine wp_region_held_drew (S := (fun w' => Below wd.heap.size wd w' ∧ w'.cell? ⟨wr.heap.size, 1, none⟩ = some (.int .i64 (G : Nat)) ∧ w'.cell? ⟨wr.heap.size, 2, none⟩ = some (.int .i64 (C : Nat)) ∧ w'.cell? ⟨a.sb G, a.so G + C * 5, none⟩ = some (.int .i64 ((V.gv G).s0 C)))) (by kernel_rfl) (HKS.out _ (Below.refl _ _).drew) (fun hH => ?_)
              refine rgT 0 ?_ ?_ hH ?_; rotate_left; · (intro w s; (try dsimp only at s); go_simp; try with_reducible rfl)
              try simp only [rgp, rg0, rg1]
              refine rgT 1 ?_ ?_ hH ?_; rotate_left; · (intro w s; (try dsimp only at s); go_simp; try with_reducible rfl)
              try simp only [rgp, rg0, rg1]
              refine rgT 2 ?_ ?_ hH ?_; rotate_left; · (intro w s; (try dsimp only at s); go_simp; try with_reducible rfl)
              try simp only [rgp, rg0, rg1]
              refine rgT 4 ?_ ?_ hH ?_; rotate_left; · (intro w s; (try dsimp only at s); go_simp; try with_reducible rfl)
              try simp only [rgp, rg0, rg1]
              refine rgT 5 ?_ ?_ hH ?_; rotate_left; · (intro w s; (try dsimp only at s); go_simp; try with_reducible rfl)
              try simp only [rgp, rg0, rg1]
              refine rgS 3 (fun K hK => ?_)
              go_simp
              (go_at_call 30; refine (lane_any hw _ _).mono ?_; rintro e wv1 ⟨rfl, hbb1⟩)
              go_wp2_with fail
              refine hK.out _ _ (HKT.out _ _ hH hbb1) (fun hH_1 => ?_)
              clear hK K
              try simp only [rgp, rgn, rg0, rg1]
              refine rgS 6 (fun K hK => ?_)
              go_simp
              (go_at_call 62; refine (HSH.out _ (hbx.trans (hH_1.1.mono hbx.size))).mono ?_; rintro e wv2 ⟨rfl, hbb2⟩)
              go_wp2_with fail
              refine hK.out _ _ (HKT.out _ _ hH_1 hbb2) (fun hH_2 => ?_)
              clear hK K
              try simp only [rgp, rgn, rg0, rg1]
              refine rgT 7 ?_ ?_ hH_2 ?_; rotate_left; · (intro w s; (try dsimp only at s); go_simp; try with_reducible rfl)
              try simp only [rgp, rg0, rg1]
              refine rgT 8 ?_ ?_ hH_2 ?_; rotate_left; · (intro w s; (try dsimp only at s); go_simp; try with_reducible rfl)
              try simp only [rgp, rg0, rg1]
              refine rgT 9 ?_ ?_ hH_2 ?_; rotate_left; · (intro w s; (try dsimp only at s); go_simp; try with_reducible rfl)
              try simp only [rgp, rg0, rg1]
              refine rgT 10 ?_ ?_ hH_2 ?_; rotate_left; · (intro w s; (try dsimp only at s); go_simp; try with_reducible rfl)
              try simp only [rgp, rg0, rg1]
              refine wpAnyH_done (by kernel_rfl) ?_ _
              go_wp2
              go_meet
              exact ⟨by rw [HFL.out], hH_2.1⟩
            case rest =>
              obtain ⟨rfl, HX9⟩ := hcut
              rename World => we
              have hkx : Bk we wr.heap.size 54 #[.int .i64 (V.tv k).st, .int .i64 (V.tv k).gr, .int .i64 (V.tv k).cp, .int .i64 (V.tv k).ni, .int .i64 (V.tv k).ma, .int .i64 (V.tv k).vv, .int .i64 (V.tv k).su, .int .i64 (V.tv k).us, .int .i64 (V.tv k).lo] := HKD.out.below HX9.out l1
              have hbx : Below w.heap.size w we := HBD.out.trans (HX9.out.mono HBD.out.size)
              clear HX9 HBD HKD g0 k1 k2 l1 l2 HGE u2 u3 HAL
              go_upto_region 10 with (fail)
              have KS : ∀ w', Below we.heap.size we w' → (fun w' => Below we.heap.size we w' ∧ w'.cell? ⟨wr.heap.size, 0, none⟩ = some (.int .i64 (V.tv k).st) ∧ w'.cell? ⟨wr.heap.size, 3, none⟩ = some (.int .i64 (V.tv k).ni) ∧ w'.cell? ⟨wr.heap.size, 5, none⟩ = some (.int .i64 (V.tv k).vv)) w' := fun w' h => ⟨h, (h.cell (p := ⟨wr.heap.size, 0, none⟩) hkx.lt).trans ((hkx.cell 0).trans rfl), (h.cell (p := ⟨wr.heap.size, 3, none⟩) hkx.lt).trans ((hkx.cell 3).trans rfl), (h.cell (p := ⟨wr.heap.size, 5, none⟩) hkx.lt).trans ((hkx.cell 5).trans rfl)⟩
              have KT : ∀ wa wb, (fun w' => Below we.heap.size we w' ∧ w'.cell? ⟨wr.heap.size, 0, none⟩ = some (.int .i64 (V.tv k).st) ∧ w'.cell? ⟨wr.heap.size, 3, none⟩ = some (.int .i64 (V.tv k).ni) ∧ w'.cell? ⟨wr.heap.size, 5, none⟩ = some (.int .i64 (V.tv k).vv)) wa → Below wa.heap.size wa wb → (fun w' => Below we.heap.size we w' ∧ w'.cell? ⟨wr.heap.size, 0, none⟩ = some (.int .i64 (V.tv k).st) ∧ w'.cell? ⟨wr.heap.size, 3, none⟩ = some (.int .i64 (V.tv k).ni) ∧ w'.cell? ⟨wr.heap.size, 5, none⟩ = some (.int .i64 (V.tv k).vv)) wb := fun wa wb h hab => KS wb (h.1.trans (hab.mono h.1.size))
              have HKS := Lib.hid KS
              have HKT := Lib.hid KT
              clear KS KT
              clear hkx
              refine wp_region_held_drew (S := (fun w' => Below we.heap.size we w' ∧ w'.cell? ⟨wr.heap.size, 0, none⟩ = some (.int .i64 (V.tv k).st) ∧ w'.cell? ⟨wr.heap.size, 3, none⟩ = some (.int .i64 (V.tv k).ni) ∧ w'.cell? ⟨wr.heap.size, 5, none⟩ = some (.int .i64 (V.tv k).vv))) (by kernel_rfl) (HKS.out _ (Below.refl _ _).drew) (fun hH => ?_)
              refine rgT 0 ?_ ?_ hH ?_; rotate_left; · (intro w s; (try dsimp only at s); go_simp; try with_reducible rfl)
              try simp only [rgp, rg0, rg1]
              refine rgT 1 ?_ ?_ hH ?_; rotate_left; · (intro w s; (try dsimp only at s); go_simp; try with_reducible rfl)
              try simp only [rgp, rg0, rg1]
              cases e1 : ((V.tv k).st == 1)
              · refine rgT 2 ?_ ?_ hH ?_; rotate_left; · (intro w s; (try dsimp only at s); go_simp; try with_reducible rfl)
                try simp only [rgp, rg0, rg1]
                refine rgT 3 ?_ ?_ hH ?_; rotate_left; · (intro w s; (try dsimp only at s); go_simp; try with_reducible rfl)
                try simp only [rgp, rg0, rg1]
                refine rgU 4 hH ?_; try simp only [rgp, rg0, rg1]
                refine rgU 5 hH ?_; try simp only [rgp, rg0, rg1]
                refine rgU 6 hH ?_; try simp only [rgp, rg0, rg1]
                refine rgU 7 hH ?_; try simp only [rgp, rg0, rg1]
                refine rgU 8 hH ?_; try simp only [rgp, rg0, rg1]
                refine rgU 9 hH ?_; try simp only [rgp, rg0, rg1]
                refine rgU 10 hH ?_; try simp only [rgp, rg0, rg1]
                refine rgU 11 hH ?_; try simp only [rgp, rg0, rg1]
                refine rgU 12 hH ?_; try simp only [rgp, rg0, rg1]
                refine rgU 13 hH ?_; try simp only [rgp, rg0, rg1]
                refine rgU 14 hH ?_; try simp only [rgp, rg0, rg1]
                refine rgU 15 hH ?_; try simp only [rgp, rg0, rg1]
                refine rgU 16 hH ?_; try simp only [rgp, rg0, rg1]
                refine rgU 17 hH ?_; try simp only [rgp, rg0, rg1]
                refine rgT 18 ?_ ?_ hH ?_; rotate_left; · (intro w s; (try dsimp only at s); go_simp; try with_reducible rfl)
                try simp only [rgp, rg0, rg1]
                refine wpAnyH_done (by kernel_rfl) ?_ _
                go_wp2
                go_roundw
                case rel => exact ⟨k + 1, by omega, by go_num, HX.out (by rw [HE.out]; simp [bne, e1]), hbx.trans (hH.1.mono hbx.size)⟩
                case measure => simp [intOf]; omega
              · refine rgT 2 ?_ ?_ hH ?_; rotate_left; · (intro w s; (try dsimp only at s); go_simp; try with_reducible rfl)
                try simp only [rgp, rg0, rg1]
                refine rgT 3 ?_ ?_ hH ?_; rotate_left; · (intro w s; (try dsimp only at s); go_simp; try with_reducible rfl)
                try simp only [rgp, rg0, rg1]
                refine rgT 4 ?_ ?_ hH ?_; rotate_left; · (intro w s; (try dsimp only at s); go_simp; try with_reducible rfl)
                try simp only [rgp, rg0, rg1]
                refine rgS 5 (fun K hK => ?_)
                go_simp
                refine hK.out _ _ (HKT.out _ _ hH ((Below.refl _ _).alloc (Nat.le_refl _) _)) (fun hH_1 => ?_)
                clear hK K
                try simp only [rgp, rgn, rg0, rg1]
                refine rgBase hH_1 (fun hH_1b => ?_)
                cases e2 : (timeB (flT V k))
                · refine rgS 6 (fun K hK => ?_)
                  go_simp
                  (go_at_call 82; first | refine (timeOk_at1 _ _ _ _ _ _ hH_1b.1 rfl).mono ?_ | refine (timeOk_at1 _ _ _ _ _ _ (undrewB hH_1b.1) rfl).mono ?_; rintro e wv2 ⟨rfl, rfl⟩)
                  go_wp2_with fail
                  refine hK.out _ _ (hH_1b) (fun hH_2 => ?_)
                  clear hK K
                  try simp only [rgp, rgn, rg0, rg1]
                  refine rgT 7 ?_ ?_ hH_2 ?_; rotate_left; · (intro w s; (try dsimp only at s); go_simp; try with_reducible rfl)
                  try simp only [rgp, rg0, rg1]
                  refine rgT 8 ?_ ?_ hH_2 ?_; rotate_left; · (intro w s; (try dsimp only at s); go_simp; try with_reducible rfl)
                  try simp only [rgp, rg0, rg1]
                  refine rgU 9 hH_2 ?_; try simp only [rgp, rg0, rg1]
                  refine rgU 10 hH_2 ?_; try simp only [rgp, rg0, rg1]
                  refine rgU 11 hH_2 ?_; try simp only [rgp, rg0, rg1]
                  refine rgU 12 hH_2 ?_; try simp only [rgp, rg0, rg1]
                  refine rgU 13 hH_2 ?_; try simp only [rgp, rg0, rg1]
                  refine rgU 14 hH_2 ?_; try simp only [rgp, rg0, rg1]
                  refine rgU 15 hH_2 ?_; try simp only [rgp, rg0, rg1]
                  refine rgU 16 hH_2 ?_; try simp only [rgp, rg0, rg1]
                  refine rgT 17 ?_ ?_ hH_2 ?_; rotate_left; · (intro w s; (try dsimp only at s); go_simp; try with_reducible rfl)
                  try simp only [rgp, rg0, rg1]
                  refine rgT 18 ?_ ?_ hH_2 ?_; rotate_left; · (intro w s; (try dsimp only at s); go_simp; try with_reducible rfl)
                  try simp only [rgp, rg0, rg1]
                  refine wpAnyH_done (by kernel_rfl) ?_ _
                  go_wp2
                  go_ret
                  exact ⟨ret_boolB (HF.out (by rw [HE.out]; simp [bne, e1, e2])).symm, hbx.trans (hH_2.2.1.mono hbx.size)⟩
                · refine rgS 6 (fun K hK => ?_)
                  go_simp
                  (go_at_call 82; first | refine (timeOk_at1 _ _ _ _ _ _ hH_1b.1 rfl).mono ?_ | refine (timeOk_at1 _ _ _ _ _ _ (undrewB hH_1b.1) rfl).mono ?_; rintro e wv3 ⟨rfl, rfl⟩)
                  go_wp2_with fail
                  refine hK.out _ _ (hH_1b) (fun hH_3 => ?_)
                  clear hK K
                  try simp only [rgp, rgn, rg0, rg1]
                  refine rgT 7 ?_ ?_ hH_3 ?_; rotate_left; · (intro w s; (try dsimp only at s); go_simp; try with_reducible rfl)
                  try simp only [rgp, rg0, rg1]
                  refine rgT 8 ?_ ?_ hH_3 ?_; rotate_left; · (intro w s; (try dsimp only at s); go_simp; try with_reducible rfl)
                  try simp only [rgp, rg0, rg1]
                  refine rgT 9 ?_ ?_ hH_3 ?_; rotate_left; · (intro w s; (try dsimp only at s); go_simp; try with_reducible rfl)
                  try simp only [rgp, rg0, rg1]
                  refine rgT 10 ?_ ?_ hH_3 ?_; rotate_left; · (intro w s; (try dsimp only at s); go_simp; try with_reducible rfl)
                  try simp only [rgp, rg0, rg1]
                  refine rgT 11 ?_ ?_ hH_3 ?_; rotate_left; · (intro w s; (try dsimp only at s); go_simp; try with_reducible rfl)
                  try simp only [rgp, rg0, rg1]
                  refine rgT 12 ?_ ?_ hH_3 ?_; rotate_left; · (intro w s; (try dsimp only at s); go_simp; try with_reducible rfl)
                  try simp only [rgp, rg0, rg1]
                  refine rgT 13 ?_ ?_ hH_3 ?_; rotate_left; · (intro w s; (try dsimp only at s); go_simp; try with_reducible rfl)
                  try simp only [rgp, rg0, rg1]
                  refine rgS 14 (fun K hK => ?_)
                  go_simp
                  (go_at_call 93; refine (iWeightOf_any _ _).mono ?_; rintro e wv4 ⟨rfl, rfl⟩)
                  go_wp2_with fail
                  refine hK.out _ _ (hH_3) (fun hH_4 => ?_)
                  clear hK K
                  try simp only [rgp, rgn, rg0, rg1]
                  cases e3 : (placedB (V.tv k).vv (flT V k) (weightOf (V.tv k).ni))
                  · refine rgS 15 (fun K hK => ?_)
                    go_simp
                    (go_at_call 92; refine (placed_any _ _ _ (timeB_t P1.out).1 (timeB_t P1.out).2 (timeB_t e2).1 (timeB_t e2).2 _ _ (Below.refl _ _)).mono ?_; rintro e wv5 ⟨rfl, hbb5⟩)
                    go_wp2_with fail
                    refine hK.out _ _ ((keep2 HKT.out) _ _ hH_4 hbb5) (fun hH_5 => ?_)
                    clear hK K
                    try simp only [rgp, rgn, rg0, rg1]
                    refine rgT 16 ?_ ?_ hH_5 ?_; rotate_left; · (intro w s; (try dsimp only at s); go_simp; try with_reducible rfl)
                    try simp only [rgp, rg0, rg1]
                    refine rgT 17 ?_ ?_ hH_5 ?_; rotate_left; · (intro w s; (try dsimp only at s); go_simp; try with_reducible rfl)
                    try simp only [rgp, rg0, rg1]
                    refine rgT 18 ?_ ?_ hH_5 ?_; rotate_left; · (intro w s; (try dsimp only at s); go_simp; try with_reducible rfl)
                    try simp only [rgp, rg0, rg1]
                    refine wpAnyH_done (by kernel_rfl) ?_ _
                    go_wp2
                    go_ret
                    exact ⟨ret_boolB (HF.out (by rw [HE.out]; simp [bne, e1, e2, e3])).symm, hbx.trans (hH_5.2.1.mono hbx.size)⟩
                  · refine rgS 15 (fun K hK => ?_)
                    go_simp
                    (go_at_call 92; refine (placed_any _ _ _ (timeB_t P1.out).1 (timeB_t P1.out).2 (timeB_t e2).1 (timeB_t e2).2 _ _ (Below.refl _ _)).mono ?_; rintro e wv6 ⟨rfl, hbb6⟩)
                    go_wp2_with fail
                    refine hK.out _ _ ((keep2 HKT.out) _ _ hH_4 hbb6) (fun hH_6 => ?_)
                    clear hK K
                    try simp only [rgp, rgn, rg0, rg1]
                    refine rgT 16 ?_ ?_ hH_6 ?_; rotate_left; · (intro w s; (try dsimp only at s); go_simp; try with_reducible rfl)
                    try simp only [rgp, rg0, rg1]
                    refine rgT 17 ?_ ?_ hH_6 ?_; rotate_left; · (intro w s; (try dsimp only at s); go_simp; try with_reducible rfl)
                    try simp only [rgp, rg0, rg1]
                    refine rgT 18 ?_ ?_ hH_6 ?_; rotate_left; · (intro w s; (try dsimp only at s); go_simp; try with_reducible rfl)
                    try simp only [rgp, rg0, rg1]
                    refine wpAnyH_done (by kernel_rfl) ?_ _
                    go_wp2
                    go_roundw
                    case rel => exact ⟨k + 1, by omega, by go_num, HX.out (by rw [HE.out]; simp [bne, e1, e2, e3]), hbx.trans (hH_6.2.1.mono hbx.size)⟩
                    case measure => simp [intOf]; omega
      · go_wp2
        go_roundw
        case rel => exact ⟨k + 1, by omega, by go_num, HX.out (by rw [HE.out]; rfl), HBX.out⟩
        case measure => simp [intOf]; omega
    · obtain rfl : k = V.tn := by omega
      go_wp2
      go_ret
      exact ⟨ret_boolB HA.out.symm, HB.out⟩
end Go.Proofs.YtndbmeedimhohaaGreat

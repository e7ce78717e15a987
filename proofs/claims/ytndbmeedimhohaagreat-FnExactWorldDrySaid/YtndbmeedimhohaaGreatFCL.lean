/- Worlds as arguments of laws: sizes, copies. -/
import Derived.Test.YtndbmeedimhohaaGreatFX9Base
import Derived.Test.YtndbmeedimhohaaGreatFCF
namespace Go.Proofs.YtndbmeedimhohaaGreat
open Go.RowKit
structure WBig (V : WV) : Prop where
  c : (V.cn : Int) ≤ 9223372036854775807
  t : (V.tn : Int) ≤ 9223372036854775807
  g : (V.gn : Int) ≤ 9223372036854775807
  b : ∀ i, GBig (V.gv i)
theorem OwnGs.low {p : Nat → Prop} {w w' : World} {q n : Nat} {g : Nat → GV} {h : Nat → GH} (o : OwnGs w q n g h) (hk : Kept p w w') (hp : ∀ b, q ≤ b → ¬ p b) : OwnGs w' q n g h := by
  obtain ⟨o1, lo, h0, hm, h2⟩ := o
  have hlo : ∀ i, i ≤ n → q ≤ lo i := fun i hi => by
    induction i with
    | zero => omega
    | succ i ih => have := hm i (by omega); have := ih (by omega); omega
  exact ⟨o1.kept hk (hp q (Nat.le_refl _)), lo, h0, hm, fun i hi => ⟨(h2 i hi).1, (h2 i hi).2.kept hk (fun k hk' => hp k (Nat.le_trans (hlo i (by omega)) hk'))⟩⟩
set_option maxHeartbeats 2000000 in
theorem szWorld_any (V : WV) (h : WH) (hB : WBig V) (w W : World) (hb : Below W.heap.size W w) (hR : WRd W W.heap.size V h) :
    Calls Tryz.prog 8 #[.agg #[.int .i64 V.now, .slice h.ca V.cn h.cc, .slice h.ta V.tn h.tc, .slice h.ga V.gn h.gc], .int .i64 1048576] w fun e w' => ∃ r : Int, e = .returned (.int .i64 r) ∧ Below W.heap.size W w' ∧ (r = -1 ∨ (0 ≤ r ∧ WLen V)) := by
  have hz := hb.size
  have HB := Lib.hid hB
  have hbx : Below W.heap.size W (w.alloc (.cells #[.int .i64 V.now, .slice h.ca V.cn h.cc, .slice h.ta V.tn h.tc, .slice h.ga V.gn h.gc] 26)) := hb.alloc hz _
  obtain ⟨l1, hl1⟩ : ∃ l, l = szN 1048576 V.cn := ⟨_, rfl⟩
  obtain ⟨l2, hl2⟩ : ∃ l, l = szN l1 V.tn := ⟨_, rfl⟩
  have c1 := szN_cases 1048576 V.cn
  have c2 := szN_cases l1 V.tn
  rw [← hl1] at c1
  rw [← hl2] at c2
  have HC : Hid (∀ x : World, Calls Tryz.prog 21 #[.slice h.ca V.cn h.cc, .int .i64 1048576] x fun e w' => e = .returned (.int .i64 l1) ∧ x = w') := fun x => by rw [hl1]; exact szCpuS_any _ _ _ _ (by omega) (by omega) HB.out.c _
  have HT : Hid (0 ≤ l1 → l1 ≤ 1048576 → ∀ x : World, Calls Tryz.prog 22 #[.slice h.ta V.tn h.tc, .int .i64 l1] x fun e w' => e = .returned (.int .i64 l2) ∧ x = w') := fun h0 h1 x => by rw [hl2]; exact szTaskS_any _ _ _ _ h0 h1 HB.out.t _
  have HSG : Hid (0 ≤ l2 → l2 ≤ 1048576 → Calls Tryz.prog 23 #[.slice h.ga V.gn h.gc, .int .i64 l2] (w.alloc (.cells #[.int .i64 V.now, .slice h.ca V.cn h.cc, .slice h.ta V.tn h.tc, .slice h.ga V.gn h.gc] 26)) fun e w' => ∃ r : Int, e = .returned (.int .i64 r) ∧ Below W.heap.size W w' ∧ (r = -1 ∨ (0 ≤ r ∧ r ≤ l2 ∧ V.gn ≤ 1048576 ∧ ∀ i, i < V.gn → GLen (V.gv i)))) := fun h0 h1 => szGroupS_any h.ga V.gn h.gc HB.out.g V.gv h.gh (fun i _ => HB.out.b i) l2 h0 h1 _ W hbx hR.g
  clear hB hR hb hz hl1 hl2
  rcases c1 with rfl | ⟨h1, h1'⟩
  · go_enter Tryz.func8, Tryz.ntmps8
    go_wp2_with (go_at_call 21; refine (HC.out _).mono ?_; rintro e w2 ⟨rfl, rfl⟩)
    go_ret
    exact ⟨-1, rfl, hbx, .inl rfl⟩
  have hlt1 : ¬ l1 < 0 := by omega
  have HT2 := Lib.hid (HT.out h1 (by omega))
  have HH1 := Lib.hid h1'
  clear h1' HT
  rcases c2 with rfl | ⟨h2, h2'⟩
  · go_enter Tryz.func8, Tryz.ntmps8
    go_wp2_with (first | (go_at_call 21; refine (HC.out _).mono ?_; rintro e w2 ⟨rfl, rfl⟩) | (go_at_call 22; refine (HT2.out _).mono ?_; rintro e w2 ⟨rfl, rfl⟩))
    go_ret
    exact ⟨-1, rfl, hbx, .inl rfl⟩
  have hlt2 : ¬ l2 < 0 := by omega
  have HSG2 := Lib.hid (HSG.out h2 (by have := HH1.out; omega))
  have hln : V.cn ≤ 1048576 ∧ V.tn ≤ 1048576 := by have := HH1.out; omega
  have HLN := Lib.hid hln
  clear HSG HH1 h2' hln
  go_enter Tryz.func8, Tryz.ntmps8
  go_wp2_with (first | (go_at_call 21; refine (HC.out _).mono ?_; rintro e w2 ⟨rfl, rfl⟩) | (go_at_call 22; refine (HT2.out _).mono ?_; rintro e w2 ⟨rfl, rfl⟩))
  refine HSG2.out.mono ?_
  rintro e w1 ⟨r, rfl, hb1, hr⟩
  rcases hr with rfl | ⟨r0, r1, hn, hL⟩
  · go_wp2
    go_ret
    exact ⟨-1, rfl, hb1, .inl rfl⟩
  · have hL' := Lib.hid hL
    have r0' : ¬ r < 0 := by omega
    clear hL
    go_wp2
    go_ret
    exact ⟨r, rfl, hb1, .inr ⟨r0, ⟨HLN.out.1, HLN.out.2, hn, hL'.out⟩⟩⟩
set_option maxHeartbeats 2000000 in
theorem toWorld_any (V : WV) (h : WH) (hl : WLen V) (w W : World) (hb : Below W.heap.size W w) (hR : WRd W W.heap.size V h) :
    Calls Tryz.prog 10 #[.agg #[.int .i64 V.now, .slice h.ca V.cn h.cc, .slice h.ta V.tn h.tc, .slice h.ga V.gn h.gc]] w fun e w' => ∃ h' : WH, e = .returned (.agg #[.int .i64 V.now, .slice h'.ca V.cn h'.cc, .slice h'.ta V.tn h'.tc, .slice h'.ga V.gn h'.gc]) ∧ WRd w' w'.heap.size V h' ∧ Below w.heap.size w w' := by
  have HR := Lib.hid (hR.at_ hb)
  have HL := Lib.hid hl
  clear hR hb hl
  go_enter Tryz.func10, Tryz.ntmps10
  go_wp2_with fail
  refine (toCpuS_any h.ca V.cn h.cc HL.out.c (fun i => (V.cv i).up) (fun i => (V.cv i).cu) (fun i => (V.cv i).ra) (fun i => (V.cv i).bu) (fun i => (V.cv i).id) _ w (by go_grown) HR.out.c).mono ?_
  rintro e w1 ⟨rfl, hO1, hb1⟩
  have hz1 := hb1.size
  simp only [World.size_alloc] at hz1 hO1
  have hB1 : Below w.heap.size w w1 := (by go_grown : Below w.heap.size w _).trans (hb1.mono (by simp only [World.size_alloc]; omega))
  have kb := ((Bk.new' w w.heap.size _ _ rfl).alloc _).alloc _ |>.below hb1 (by simp only [World.size_alloc]; omega)
  have kr := (Bk.new' _ (w.heap.size + 1) _ _ (by simp)).alloc _ |>.below hb1 (by simp only [World.size_alloc]; omega)
  have ko := (Bk.new' _ (w.heap.size + 1 + 1) _ _ (by simp)).below hb1 (by simp only [World.size_alloc]; omega)
  have r1 : w.heap.size + 1 + 1 + 1 < w1.heap.size := hO1.1
  clear hb1
  obtain ⟨_, _, b2, b3⟩ := kb.four
  obtain ⟨_, o1, o2, o3⟩ := ko.four
  have fo := ko.frees
  have KB := Lib.hid kb
  have KR := Lib.hid kr
  have KO := Lib.hid ko
  have HO1 := Lib.hid hO1
  have HB1 := Lib.hid hB1
  clear kb kr ko hO1 hB1
  go_wp2_with fail
  have hko : Bk (w1.setCell ⟨w.heap.size + 1 + 1, 1, none⟩ (.slice (some ⟨w.heap.size + 1 + 1 + 1, 0, none⟩) V.cn V.cn)) (w.heap.size + 1 + 1) 33 #[.int .i64 V.now, .slice (some ⟨w.heap.size + 1 + 1 + 1, 0, none⟩) V.cn V.cn, .slice none 0 0, .slice none 0 0] := KO.out.put 1 _
  have hkr := KR.out.off (p := ⟨w.heap.size + 1 + 1, 1, none⟩) (by simp) (.slice (some ⟨w.heap.size + 1 + 1 + 1, 0, none⟩) V.cn V.cn)
  have hkb := KB.out.off (p := ⟨w.heap.size + 1 + 1, 1, none⟩) (by simp; omega) (.slice (some ⟨w.heap.size + 1 + 1 + 1, 0, none⟩) V.cn V.cn)
  have ho1 := HO1.out.off (p := ⟨w.heap.size + 1 + 1, 1, none⟩) (by simp) (.slice (some ⟨w.heap.size + 1 + 1 + 1, 0, none⟩) V.cn V.cn)
  have hB1 := HB1.out.setCell (p := ⟨w.heap.size + 1 + 1, 1, none⟩) (by simp; omega) (.slice (some ⟨w.heap.size + 1 + 1 + 1, 0, none⟩) V.cn V.cn)
  have hz2 : (w1.setCell ⟨w.heap.size + 1 + 1, 1, none⟩ (.slice (some ⟨w.heap.size + 1 + 1 + 1, 0, none⟩) V.cn V.cn)).heap.size ≤ w1.heap.size ∧ w1.heap.size ≤ (w1.setCell ⟨w.heap.size + 1 + 1, 1, none⟩ (.slice (some ⟨w.heap.size + 1 + 1 + 1, 0, none⟩) V.cn V.cn)).heap.size := by simp
  generalize w1.setCell ⟨w.heap.size + 1 + 1, 1, none⟩ (.slice (some ⟨w.heap.size + 1 + 1 + 1, 0, none⟩) V.cn V.cn) = x1 at hko hkr hkb ho1 hB1 hz2 ⊢
  clear KB KR KO HO1 HB1 b2 b3 o1 o2 o3 fo
  refine (toTaskS_any h.ta V.tn h.tc HL.out.t (fun i => (V.tv i).st) (fun i => (V.tv i).gr) (fun i => (V.tv i).cp) (fun i => (V.tv i).ni) (fun i => (V.tv i).ma) (fun i => (V.tv i).vv) (fun i => (V.tv i).su) (fun i => (V.tv i).us) (fun i => (V.tv i).lo) _ w hB1 HR.out.t).mono ?_
  rintro e w2 ⟨rfl, hO2, hb2⟩
  have hz3 := hb2.size
  have hko2 := hko.below hb2 (by omega)
  have hkr2 := hkr.below hb2 (by omega)
  have hkb2 := hkb.below hb2 (by omega)
  have ho1b := ho1.below hb2 ho1.1
  have hB2 := hB1.trans (hb2.mono hB1.size)
  have r2 : x1.heap.size < w2.heap.size := hO2.1
  clear hko hkr hkb ho1 hB1 hb2
  obtain ⟨_, _, _, b3⟩ := hkb2.four
  obtain ⟨_, o1, o2, o3⟩ := hko2.four
  have fo := hko2.frees
  have KB := Lib.hid hkb2
  have KR := Lib.hid hkr2
  have KO := Lib.hid hko2
  have HO1 := Lib.hid ho1b
  have HO2 := Lib.hid hO2
  have HB2 := Lib.hid hB2
  clear hkb2 hkr2 hko2 ho1b hO2 hB2
  go_wp2_with fail
  have hko : Bk (w2.setCell ⟨w.heap.size + 1 + 1, 2, none⟩ (.slice (some ⟨x1.heap.size, 0, none⟩) V.tn V.tn)) (w.heap.size + 1 + 1) 33 #[.int .i64 V.now, .slice (some ⟨w.heap.size + 1 + 1 + 1, 0, none⟩) V.cn V.cn, .slice (some ⟨x1.heap.size, 0, none⟩) V.tn V.tn, .slice none 0 0] := KO.out.put 2 _
  have hkr := KR.out.off (p := ⟨w.heap.size + 1 + 1, 2, none⟩) (by simp) (.slice (some ⟨x1.heap.size, 0, none⟩) V.tn V.tn)
  have ho1 := HO1.out.off (p := ⟨w.heap.size + 1 + 1, 2, none⟩) (by simp) (.slice (some ⟨x1.heap.size, 0, none⟩) V.tn V.tn)
  have ho2 := HO2.out.off (p := ⟨w.heap.size + 1 + 1, 2, none⟩) (by simp; omega) (.slice (some ⟨x1.heap.size, 0, none⟩) V.tn V.tn)
  have hB2 := HB2.out.setCell (p := ⟨w.heap.size + 1 + 1, 2, none⟩) (by simp; omega) (.slice (some ⟨x1.heap.size, 0, none⟩) V.tn V.tn)
  have hz4 : (w2.setCell ⟨w.heap.size + 1 + 1, 2, none⟩ (.slice (some ⟨x1.heap.size, 0, none⟩) V.tn V.tn)).heap.size ≤ w2.heap.size ∧ w2.heap.size ≤ (w2.setCell ⟨w.heap.size + 1 + 1, 2, none⟩ (.slice (some ⟨x1.heap.size, 0, none⟩) V.tn V.tn)).heap.size := by simp
  generalize w2.setCell ⟨w.heap.size + 1 + 1, 2, none⟩ (.slice (some ⟨x1.heap.size, 0, none⟩) V.tn V.tn) = x2 at hko hkr ho1 ho2 hB2 hz4 ⊢
  clear KB KR KO HO1 HO2 HB2 b3 o1 o2 o3 fo
  refine (toGroupS_any h.ga V.gn h.gc HL.out.g V.gv h.gh _ w hB2 HL.out.l HR.out.g).mono ?_
  rintro e w3 ⟨rfl, ⟨gh, hO3⟩, hb3⟩
  have hz5 := hb3.size
  have hko3 := hko.below hb3 (by omega)
  have hkr3 := hkr.below hb3 (by omega)
  have ho1c := ho1.below hb3 ho1.1
  have ho2c := ho2.below hb3 ho2.1
  have hB3 := hB2.trans (hb3.mono hB2.size)
  clear hko hkr ho1 ho2 hB2 hb3
  obtain ⟨_, o1, o2, o3⟩ := hko3.four
  have fo := hko3.frees
  have KO3 : Hid (Bk (w3.setCell ⟨w.heap.size + 1 + 1, 3, none⟩ (.slice (some ⟨x2.heap.size, 0, none⟩) V.gn V.gn)) (w.heap.size + 1 + 1) 33 #[.int .i64 V.now, .slice (some ⟨w.heap.size + 1 + 1 + 1, 0, none⟩) V.cn V.cn, .slice (some ⟨x1.heap.size, 0, none⟩) V.tn V.tn, .slice (some ⟨x2.heap.size, 0, none⟩) V.gn V.gn]) := hko3.put 3 _
  have KR3 := Lib.hid (hkr3.off (p := ⟨w.heap.size + 1 + 1, 3, none⟩) (by simp) (.slice (some ⟨x2.heap.size, 0, none⟩) V.gn V.gn))
  have HO1 := Lib.hid ho1c
  have HO2 := Lib.hid ho2c
  have HO3 := Lib.hid hO3
  have HB3 := Lib.hid hB3
  clear hko3 hkr3 ho1c ho2c hO3 hB3
  go_wp2_with (first
    | refine wpList_load_row rfl 33 _ rfl (w.heap.size + 1 + 1) rfl 33 _ (0, 0) _ KO3.out Tryz.underlying33 rfl (by kernel_rfl) ?_
    | refine wpList_store_row rfl 33 _ _ rfl (w.heap.size + 1) _ rfl rfl 33 _ KR3.out (by kernel_rfl) rfl (by kernel_rfl) ?_)
  refine bodyPost_ret (results_cell_row rfl _ _ (w.heap.size + 1) 33 _ (0, 0) _ rfl (setRow_heap _ _ _ _ _ _ KR3.out) Tryz.underlying33 rfl (by kernel_rfl)) rfl ?_
  generalize hxs : (#[.int .i64 V.now, .slice (some ⟨w.heap.size + 1 + 1 + 1, 0, none⟩) V.cn V.cn, .slice (some ⟨x1.heap.size, 0, none⟩) V.tn V.tn, .slice (some ⟨x2.heap.size, 0, none⟩) V.gn V.gn] : Array Value) = xs
  have hk : Kept (fun b => b = w.heap.size + 1 ∨ b = w.heap.size + 1 + 1) w3 (World.setRow (w3.setCell ⟨w.heap.size + 1 + 1, 3, none⟩ (.slice (some ⟨x2.heap.size, 0, none⟩) V.gn V.gn)) (w.heap.size + 1) xs) :=
    ⟨rfl, rfl, rfl, by simp [World.setRow], fun b hb hnb => by
      rw [setRow_other _ _ _ _ (by omega)]
      exact Below.heap_setCell _ _ _ b (by simp; omega)⟩
  have hne : ∀ b, w.heap.size + 1 + 1 + 1 ≤ b → ¬ (b = w.heap.size + 1 ∨ b = w.heap.size + 1 + 1) := fun b hb => by omega
  subst hxs
  exact ⟨⟨some ⟨w.heap.size + 1 + 1 + 1, 0, none⟩, V.cn, some ⟨x1.heap.size, 0, none⟩, V.tn, some ⟨x2.heap.size, 0, none⟩, V.gn, gh⟩, rfl, ⟨(HO1.out.kept hk (hne _ (by omega))).rs, (HO2.out.kept hk (hne _ (by omega))).rs, (HO3.out.low hk (fun b hb => hne b (by omega))).rd⟩, HB3.out.trans (hk.below (by omega) (fun b hb => by omega)) |> fun h => h⟩
end Go.Proofs.YtndbmeedimhohaaGreat
namespace Go.Proofs.YtndbmeedimhohaaGreat
open Go.ChangeShapes Go.WideShapes Go.ChangeAt Go.RowKit Go.Deep
theorem cellsLCpu : Tryz.prog.cellsOf 84 = 5 := by kernel_rfl
theorem cellsLTask : Tryz.prog.cellsOf 86 = 9 := by kernel_rfl
theorem cellsLCpus : Tryz.prog.cellsOf 22 = 1 := by kernel_rfl
theorem cellsLTasks : Tryz.prog.cellsOf 23 = 1 := by kernel_rfl
theorem cellsLGroups : Tryz.prog.cellsOf 24 = 1 := by kernel_rfl
theorem cellsLWorld : Tryz.prog.cellsOf 26 = 4 := by kernel_rfl
instance : Inhabited CV := ⟨⟨false, 0, 0, 0, 0⟩⟩
instance : Inhabited TV := ⟨⟨0, 0, 0, 0, 0, 0, 0, 0, 0⟩⟩
section
variable {H : Type} {enc : TypeId × Value → H} {w : World} {base : Nat} {spare : Nat → Bool} {held : Bool}
theorem open_cpuCells {fuel : Nat} {cs : List Value} {x : DataW H × List MemPlace} (hl : cs.length = 5) (h : DataW.trod enc Tryz.prog w base spare held fuel 84 cs = some x) : ∃ z : CV, cs = cpC z := by
  match cs, hl with
  | [c0, c1, c2, c3, c4], _ =>
    obtain ⟨k, hf⟩ := open_field Tryz.underlying84 h
    obtain ⟨y0, h0⟩ := hf 0 _ rfl 4 0 1 rfl rfl cellsBool
    obtain ⟨y1, h1⟩ := hf 1 _ rfl 3 1 1 rfl rfl cellsInt
    obtain ⟨y2, h2⟩ := hf 2 _ rfl 3 2 1 rfl rfl cellsInt
    obtain ⟨y3, h3⟩ := hf 3 _ rfl 3 3 1 rfl rfl cellsInt
    obtain ⟨y4, h4⟩ := hf 4 _ rfl 3 4 1 rfl rfl cellsInt
    simp only [List.drop_zero, List.drop_succ_cons, List.take_succ_cons, List.take_zero] at h0 h1 h2 h3 h4
    obtain ⟨q0, e0, _⟩ := DataW.trod_bool Tryz.underlying4 h0
    obtain ⟨q1, e1, _⟩ := DataW.trod_int Tryz.underlying3 h1
    obtain ⟨q2, e2, _⟩ := DataW.trod_int Tryz.underlying3 h2
    obtain ⟨q3, e3, _⟩ := DataW.trod_int Tryz.underlying3 h3
    obtain ⟨q4, e4, _⟩ := DataW.trod_int Tryz.underlying3 h4
    simp only [List.cons.injEq, and_true] at e0 e1 e2 e3 e4
    subst e0 e1 e2 e3 e4
    exact ⟨⟨q0, q1, q2, q3, q4⟩, rfl⟩
theorem open_taskCells {fuel : Nat} {cs : List Value} {x : DataW H × List MemPlace} (hl : cs.length = 9) (h : DataW.trod enc Tryz.prog w base spare held fuel 86 cs = some x) : ∃ z : TV, cs = taC z := by
  match cs, hl with
  | [c0, c1, c2, c3, c4, c5, c6, c7, c8], _ =>
    obtain ⟨k, hf⟩ := open_field Tryz.underlying86 h
    obtain ⟨y0, h0⟩ := hf 0 _ rfl 3 0 1 rfl rfl cellsInt
    obtain ⟨y1, h1⟩ := hf 1 _ rfl 3 1 1 rfl rfl cellsInt
    obtain ⟨y2, h2⟩ := hf 2 _ rfl 3 2 1 rfl rfl cellsInt
    obtain ⟨y3, h3⟩ := hf 3 _ rfl 3 3 1 rfl rfl cellsInt
    obtain ⟨y4, h4⟩ := hf 4 _ rfl 3 4 1 rfl rfl cellsInt
    obtain ⟨y5, h5⟩ := hf 5 _ rfl 3 5 1 rfl rfl cellsInt
    obtain ⟨y6, h6⟩ := hf 6 _ rfl 3 6 1 rfl rfl cellsInt
    obtain ⟨y7, h7⟩ := hf 7 _ rfl 3 7 1 rfl rfl cellsInt
    obtain ⟨y8, h8⟩ := hf 8 _ rfl 3 8 1 rfl rfl cellsInt
    simp only [List.drop_zero, List.drop_succ_cons, List.take_succ_cons, List.take_zero] at h0 h1 h2 h3 h4 h5 h6 h7 h8
    obtain ⟨q0, e0, _⟩ := DataW.trod_int Tryz.underlying3 h0
    obtain ⟨q1, e1, _⟩ := DataW.trod_int Tryz.underlying3 h1
    obtain ⟨q2, e2, _⟩ := DataW.trod_int Tryz.underlying3 h2
    obtain ⟨q3, e3, _⟩ := DataW.trod_int Tryz.underlying3 h3
    obtain ⟨q4, e4, _⟩ := DataW.trod_int Tryz.underlying3 h4
    obtain ⟨q5, e5, _⟩ := DataW.trod_int Tryz.underlying3 h5
    obtain ⟨q6, e6, _⟩ := DataW.trod_int Tryz.underlying3 h6
    obtain ⟨q7, e7, _⟩ := DataW.trod_int Tryz.underlying3 h7
    obtain ⟨q8, e8, _⟩ := DataW.trod_int Tryz.underlying3 h8
    simp only [List.cons.injEq, and_true] at e0 e1 e2 e3 e4 e5 e6 e7 e8
    subst e0 e1 e2 e3 e4 e5 e6 e7 e8
    exact ⟨⟨q0, q1, q2, q3, q4, q5, q6, q7, q8⟩, rfl⟩
/-- What an argument World holds. -/
structure WArg (w : World) (V : WV) (h : WH) : Prop where
  r : WRd w w.heap.size V h
  b : WBig V
  f : ∀ i, GWf (V.gv i)
theorem open_worldCells {fuel : Nat} {cs : List Value} {x : DataW H × List MemPlace} (hl : cs.length = 4) (h : DataW.trod enc Tryz.prog w base spare held fuel 26 cs = some x) :
    ∃ (V : WV) (h : WH), cs = [.int .i64 V.now, .slice h.ca V.cn h.cc, .slice h.ta V.tn h.tc, .slice h.ga V.gn h.gc] ∧ WArg w V h := by
  match cs, hl with
  | [c0, c1, c2, c3], _ =>
    obtain ⟨k, hf⟩ := open_field Tryz.underlying26 h
    obtain ⟨y0, h0⟩ := hf 0 _ rfl 3 0 1 rfl rfl cellsInt
    obtain ⟨y1, h1⟩ := hf 1 _ rfl 22 1 1 rfl rfl cellsLCpus
    obtain ⟨y2, h2⟩ := hf 2 _ rfl 23 2 1 rfl rfl cellsLTasks
    obtain ⟨y3, h3⟩ := hf 3 _ rfl 24 3 1 rfl rfl cellsLGroups
    simp only [List.drop_zero, List.drop_succ_cons, List.take_succ_cons, List.take_zero] at h0 h1 h2 h3
    obtain ⟨q0, e0, _⟩ := DataW.trod_int Tryz.underlying3 h0
    obtain ⟨A1, n1, k1, f1, e1, l1, r1⟩ := open_rows (α := CV) (el := cpC) Tryz.underlying22 cellsLCpu (by omega) (fun _ _ _ hl hy => open_cpuCells hl hy) h1
    obtain ⟨A2, n2, k2, f2, e2, l2, r2⟩ := open_rows (α := TV) (el := taC) Tryz.underlying23 cellsLTask (by omega) (fun _ _ _ hl hy => open_taskCells hl hy) h2
    obtain ⟨A3, n3, k3, f3, e3, l3, r3⟩ := open_rows (α := GSub w) (el := fun z => grC z.1.1 z.1.2) Tryz.underlying24 cellsLGroup (by omega) (fun _ _ _ hl hy => open_groupCells hl hy) h3
    simp only [List.cons.injEq, and_true] at e0
    subst e0 e1 e2 e3
    exact ⟨⟨q0, n1, f1, n2, f2, n3, fun i => (f3 i).1.1⟩, ⟨A1, k1, A2, k2, A3, k3, fun i => (f3 i).1.2⟩, rfl, ⟨⟨r1, r2, ⟨r3, fun i _ => (f3 i).2.1⟩⟩, ⟨l1, l2, l3, fun i => (f3 i).2.2.1⟩, fun i => (f3 i).2.2.2⟩⟩
set_option maxRecDepth 100000 in
theorem open_lawsWorld {W : World} {r : Reach} {b0 : Nat} {v : Value} {d : DataW H} {p : List MemPlace} (hv : Value.okWide Tryz.prog W r b0 26 v) (h : DataW.Trod enc Tryz.prog w base spare held 26 v d p) :
    ∃ (V : WV) (h : WH), v = .agg #[.int .i64 V.now, .slice h.ca V.cn h.cc, .slice h.ta V.tn h.tc, .slice h.ga V.gn h.gc] ∧ WArg w V h := by
  obtain ⟨cs, rfl, hsz⟩ := okWide_struct Tryz.underlying26 hv
  obtain ⟨fuel, hf⟩ := h
  obtain ⟨V, u, he, ha⟩ := open_worldCells (cs := cs.toList) (by simpa [cellsLWorld] using hsz) (by simpa [Value.cells] using hf)
  refine ⟨V, u, ?_, ha⟩
  rw [← he]
end
theorem WArg.ne {w : World} {V : WV} {h : WH} (a : WArg w V h) (k : Nat) : (V.gv k).ne ≤ 9223372036854775807 := by
  have := (a.f k).ne
  simp only [Lit.wf, Bool.and_eq_true, decide_eq_true_eq] at this
  exact this.2
end Go.Proofs.YtndbmeedimhohaaGreat

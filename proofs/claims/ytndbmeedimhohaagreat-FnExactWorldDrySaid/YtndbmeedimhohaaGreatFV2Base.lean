/- Worlds: lanes (printed by mkv.py). -/
import Derived.Test.YtndbmeedimhohaaGreatFCF
import Derived.BigQuiet
namespace Go.Proofs.YtndbmeedimhohaaGreat
open Go.RowKit
set_option maxHeartbeats 4000000 in
theorem lane_any (hw : Nat) (c : Int) (w : World) :
    Calls Tryz.prog 30 #[.pointer (some ⟨hw, 0, none⟩), .int .i64 c] w fun e w' => e = .returned (.agg #[.pointer (some ⟨hw, 0, none⟩), .int .i64 c]) ∧ Below w.heap.size w w' := by
  go_enter Tryz.func30, Tryz.ntmps30
  go_wp2
  refine bodyPost_ret (v := .agg #[.pointer (some ⟨hw, 0, none⟩), .int .i64 c]) (by simp [results, Tryz.results30, go_sem]) rfl ?_
  exact ⟨rfl, by go_grown⟩
set_option maxHeartbeats 4000000 in
theorem shelf_any (V : WV) (a : WA) (hw g c : Nat) (hg : g < V.gn) (_h8 : V.gn ≤ 1048576) (hc : c < (V.gv g).sn) (h9 : (V.gv g).sn ≤ 1048576) (w : World) (hk : Bk w hw 33 #[.int .i64 V.now, .slice (some ⟨a.ca, a.oc, none⟩) V.cn a.cc, .slice (some ⟨a.ta, a.ot, none⟩) V.tn a.tc, .slice (some ⟨a.ga, a.og, none⟩) V.gn a.gc]) (m : MR w V a) :
    Calls Tryz.prog 62 #[.agg #[.pointer (some ⟨hw, 0, none⟩), .int .i64 (c : Nat)], .int .i64 g] w fun e w' => e = .returned (.pointer (some ⟨a.sb g, a.so g + c * 5, none⟩)) ∧ Below w.heap.size w w' := by
  obtain ⟨_, _, _, k3⟩ := hk.four
  obtain ⟨s1, s2, s3⟩ := m.s g hg (by omega)
  have c13 := m.g g hg 13 _ rfl
  rw [s1] at c13
  have hgl := m.gl
  have hkl := hk.lt
  clear hk m s3 s1
  go_enter Tryz.func62, Tryz.ntmps62
  go_wp2
  go_quiet (fail)
  go_wp2
  go_ret
  exact ⟨rfl, below_drewN (by go_grown) _⟩
set_option maxHeartbeats 4000000 in
theorem band_of {w : World} {b o : Nat} {g : GV} {u : GH} (h : w.rangeAt b o (grC g u)) : w.rangeAt b (o + 8) [.int .i64 g.qu, .int .i64 g.po, .int .i64 g.sp, .slice u.la g.ln u.lc, .slice u.da g.dn u.dc] := fun j v hj => by
  rw [Nat.add_assoc]
  rcases j with _ | _ | _ | _ | _ | j
  · exact h 8 v hj
  · exact h 9 v hj
  · exact h 10 v hj
  · exact h 11 v hj
  · exact h 12 v hj
  · simp at hj
set_option maxHeartbeats 4000000 in
theorem dry_any (V : WV) (a : WA) (hw g c : Nat) (hg : g < V.gn) (_h8 : V.gn ≤ 1048576) (hc : 0 < (V.gv g).qu → c < (V.gv g).dn) (h9 : (V.gv g).dn ≤ 1048576) (w : World) (hk : Bk w hw 33 #[.int .i64 V.now, .slice (some ⟨a.ca, a.oc, none⟩) V.cn a.cc, .slice (some ⟨a.ta, a.ot, none⟩) V.tn a.tc, .slice (some ⟨a.ga, a.og, none⟩) V.gn a.gc]) (m : MR w V a) :
    Calls Tryz.prog 55 #[.agg #[.pointer (some ⟨hw, 0, none⟩), .int .i64 (c : Nat)], .int .i64 g] w fun e w' => e = .returned (.bool (dryB V g c)) ∧ Below w.heap.size w w' := by
  obtain ⟨_, _, _, k3⟩ := hk.four
  have hr := Lib.hid (band_of (m.g g hg))
  have hgl := m.gl
  have hkl := hk.lt
  by_cases hq : 0 < (V.gv g).qu
  · have hcd := hc hq
    obtain ⟨s1, s2, s3⟩ := m.y g hg (by omega)
    have hcc := s3 c hcd
    rw [s1] at hr
    clear hk m s3 s1 hc
    go_enter Tryz.func55, Tryz.ntmps55
    go_wp2_with (refine wpList_load_mid rfl 65 _ rfl a.ga (a.og + g * 14 + 8) rfl _ _ (rangeAt_below hr.out (B := w.heap.size) (by go_grown) hgl) Tryz.underlying65 rfl (by kernel_rfl) ?_)
    go_wp2
    go_ret
    exact ⟨ret_boolB (by simp [dryB, hq]), by go_grown⟩
  · have HN := Lib.hid (show dryB V g c = false by simp [dryB, hq])
    clear hk m hc
    go_enter Tryz.func55, Tryz.ntmps55
    go_wp2_with (refine wpList_load_mid rfl 65 _ rfl a.ga (a.og + g * 14 + 8) rfl _ _ (rangeAt_below hr.out (B := w.heap.size) (by go_grown) hgl) Tryz.underlying65 rfl (by kernel_rfl) ?_)
    go_wp2
    go_ret
    exact ⟨ret_boolB HN.out.symm, by go_grown⟩
set_option maxHeartbeats 4000000 in
theorem queues_any (V : WV) (a : WA) (hw t g c : Nat) (ht : t < V.tn) (_h8 : V.tn ≤ 1048576) (w : World) (hk : Bk w hw 33 #[.int .i64 V.now, .slice (some ⟨a.ca, a.oc, none⟩) V.cn a.cc, .slice (some ⟨a.ta, a.ot, none⟩) V.tn a.tc, .slice (some ⟨a.ga, a.og, none⟩) V.gn a.gc]) (m : MR w V a) :
    Calls Tryz.prog 113 #[.agg #[.pointer (some ⟨hw, 0, none⟩), .int .i64 (c : Nat)], .int .i64 t, .int .i64 g] w fun e w' => e = .returned (.bool (queB V t g c)) ∧ Below w.heap.size w w' := by
  obtain ⟨_, _, k2, _⟩ := hk.four
  have hr : Hid (w.rangeAt a.ta (a.ot + t * 9) [.int .i64 (V.tv t).st, .int .i64 (V.tv t).gr, .int .i64 (V.tv t).cp, .int .i64 (V.tv t).ni, .int .i64 (V.tv t).ma, .int .i64 (V.tv t).vv, .int .i64 (V.tv t).su, .int .i64 (V.tv t).us, .int .i64 (V.tv t).lo]) := m.t t ht
  have htl := m.tl
  have hkl := hk.lt
  clear hk m
  have HE : Hid (∀ b : Bool, b = queB V t g c → Ending.returned (.bool b) = .returned (.bool (queB V t g c))) := fun b hb => by rw [hb]
  cases h1 : ((V.tv t).st == 1) <;> cases h2 : ((V.tv t).gr == (g : Int)) <;> cases h3 : ((V.tv t).cp == (c : Int))
  all_goals
    go_enter Tryz.func113, Tryz.ntmps113
    go_wp2_with (refine wpList_load_mid rfl 54 _ rfl a.ta (a.ot + t * 9) rfl _ _ (rangeAt_below hr.out (B := w.heap.size) (by go_grown) htl) Tryz.underlying54 rfl (by kernel_rfl) ?_)
    go_wp2
    go_ret
    exact ⟨HE.out _ (by simp [queB, h1, h2, h3]), by go_grown⟩
set_option maxHeartbeats 4000000 in
theorem holds_any (V : WV) (a : WA) (hw k g c : Nat) (hg : k < V.gn) (h8 : V.gn ≤ 1048576) (hc : (V.gv k).us = true → c < (V.gv k).sn ∧ (V.gv k).sn ≤ 1048576) (w : World) (hk : Bk w hw 33 #[.int .i64 V.now, .slice (some ⟨a.ca, a.oc, none⟩) V.cn a.cc, .slice (some ⟨a.ta, a.ot, none⟩) V.tn a.tc, .slice (some ⟨a.ga, a.og, none⟩) V.gn a.gc]) (m : MR w V a) :
    Calls Tryz.prog 114 #[.agg #[.pointer (some ⟨hw, 0, none⟩), .int .i64 (c : Nat)], .int .i64 k, .int .i64 g] w fun e w' => e = .returned (.bool (holdB V k g c)) ∧ Below w.heap.size w w' := by
  obtain ⟨k0, k1, k2, k3⟩ := hk.four
  have hr := m.g k hg
  have c0 := hr 0 _ rfl
  have c1 := hr 1 _ rfl
  simp only [Nat.add_zero] at c0
  have hgl := m.gl
  have hkl := hk.lt
  by_cases h0 : k = 0
  · subst h0
    clear hk m hc
    go_enter Tryz.func114, Tryz.ntmps114
    go_wp2
    go_ret
    exact ⟨ret_boolB (by simp [holdB]), by go_grown⟩
  have h0' : ((k : Int) != 0) = true := by simp [h0]
  cases h1 : (V.gv k).us
  · rw [h1] at c0
    clear hk m hc
    go_enter Tryz.func114, Tryz.ntmps114
    go_wp2
    go_ret
    exact ⟨ret_boolB (by simp [holdB, h1]), by go_grown⟩
  rw [h1] at c0
  cases h2 : ((V.gv k).pa == (g : Int))
  · clear hk m hc
    go_enter Tryz.func114, Tryz.ntmps114
    go_wp2
    go_ret
    exact ⟨ret_boolB (by simp [holdB, h1, h2]), by go_grown⟩
  obtain ⟨hcs, h9⟩ := hc h1
  obtain ⟨_, s2, s3⟩ := m.s k hg (by omega)
  have d1 := s3 c hcs 1 _ rfl
  have HK := Lib.hid hk
  have HM := Lib.hid m
  clear hk m hc s3
  go_enter Tryz.func114, Tryz.ntmps114
  go_wp2_with (go_at_call 62; go_loud (refine (shelf_any V a hw k c hg h8 hcs h9 _ (HK.out.alloc _) (HM.out.below (by go_grown))).mono ?_); rintro e w1 ⟨rfl, hb1⟩; have hbb := ((Below.refl _ w).alloc (Nat.le_refl _) (.cells #[.pointer (some ⟨hw, 0, none⟩), .int .i64 (c : Nat)] 51)).trans (hb1.mono (by simp)); have d2 := (hbb.cell (p := ⟨a.sb k, a.so k + c * 5 + 1, none⟩) s2).trans d1)
  go_ret
  exact ⟨ret_boolB (by simp [holdB, h0, h1, h2]), hbb⟩
end Go.Proofs.YtndbmeedimhohaaGreat

/- Trees: the program's nodes: used slots, depth by the pointers, keys. -/
import Derived.Test.YtndbmeedimhohaaGreatFG7Base
import Derived.DeepKeys4
import Derived.Maps.OwnSet
import Derived.Deep.Cut
namespace Go.Proofs.YtndbmeedimhohaaGreat
open Go.RowKit
theorem iUsed_any (A : Option Addr) (n c : Nat) (hn : n ≤ 1048576) (us : Nat → Bool) (pa : Nat → Int) (nm : Nat → ByteArray) (g : Int) (w : World) (hT : TRd w w.heap.size A n us pa nm) :
    Calls Tryz.prog 53 #[.slice A n c, .int .i64 g] w fun e w' => e = .returned (.bool (usedB us n g)) ∧ w = w' := by
  by_cases h1 : 0 ≤ g ∧ g < n
  · obtain ⟨k, rfl⟩ := Int.eq_ofNat_of_zero_le h1.1
    have hk : k < n := by omega
    have hI : inR (k : Int) 0 ((n : Int) - 1) = true := inR_t (by omega) (by omega)
    obtain ⟨ga, oa, rfl, hga, hc⟩ := hT (by omega)
    obtain ⟨c0, _, _⟩ := hc k hk
    clear hc hT
    rw [usedB_nat hk]
    go_enter Tryz.func53, Tryz.ntmps53
    go_wp2_with (go_at_call 61; refine (inRange_any _ _ _ _).mono ?_; rintro e w' ⟨rfl, rfl⟩)
    go_ret
    exact ⟨rfl, rfl⟩
  · have : usedB us n g = false := by simp [usedB]; omega
    rw [this]
    have hI : inR g 0 ((n : Int) - 1) = false := inR_f (by omega)
    clear this hT
    go_enter Tryz.func53, Tryz.ntmps53
    go_wp2_with (go_at_call 61; refine (inRange_any _ _ _ _).mono ?_; rintro e w' ⟨rfl, rfl⟩)
    go_ret
    exact ⟨rfl, rfl⟩
/-- The nodes of the used slots; those that up says are linked. -/
def NodesAt (w : World) (nb : Nat → Nat) (us : Nat → Bool) (pa : Nat → Int) (nm : Nat → ByteArray) (up : Nat → Bool) : Prop :=
  ∀ h, h < 8 → us h = true → Bk w (nb h) 125 #[.int .i64 (h : Int), .string (nm h), .pointer (if up h then some ⟨nb (pa h).toNat, 0, none⟩ else none)]
theorem NodesAt.below {w w' : World} {B : Nat} {nb : Nat → Nat} {us : Nat → Bool} {pa : Nat → Int} {nm : Nat → ByteArray} {up : Nat → Bool} (h : NodesAt w nb us pa nm up) (hb : Below B w w') (hB : ∀ h, h < 8 → us h = true → nb h < B) : NodesAt w' nb us pa nm up :=
  fun k hk hu => (h k hk hu).below hb (hB k hk hu)
section
variable {us : Nat → Bool} {pa : Nat → Int} {n N : Nat} {D : Int} {k : Nat} {x : Int}
theorem depEndN (h : D = if dep us pa n (N - k) x < 0 then -1 else k + dep us pa n (N - k) x) (hk : k = N) : D = -1 := by
  subst hk
  simpa [dep] using h
theorem depRootN (h : D = if dep us pa n (N - k) 0 < 0 then -1 else k + dep us pa n (N - k) 0) (hk : k < N) (hu : usedB us n 0 = true) : D = k := by
  rw [dep_zero hu _ (by omega)] at h
  simpa using h
theorem depGoN (h : D = if dep us pa n (N - k) x < 0 then -1 else k + dep us pa n (N - k) x) (hk : k < N) (hu : usedB us n x = true) (hx : x ≠ 0) :
    D = if dep us pa n (N - (k + 1)) (pa x.toNat) < 0 then -1 else ((k + 1 : Nat) : Int) + dep us pa n (N - (k + 1)) (pa x.toNat) := by
  rw [show N - k = (N - (k + 1)) + 1 by omega, dep_step hu hx] at h
  rw [h]
  have := (dep_lt (u := us) (p := pa) (n := n) (N - (k + 1)) (pa x.toNat)).2
  split
  · rfl
  · rw [if_neg (by omega)]; omega
theorem depStart (us : Nat → Bool) (pa : Nat → Int) (n N : Nat) (x : Int) : dep us pa n N x = if dep us pa n (N - 0) x < 0 then -1 else ((0 : Nat) : Int) + dep us pa n (N - 0) x := by
  have := (dep_lt (u := us) (p := pa) (n := n) N x).2
  simp only [Nat.sub_zero]
  split <;> omega
end
set_option maxHeartbeats 1000000 in
theorem iDepth_any (nb : Nat → Nat) (us : Nat → Bool) (pa : Nat → Int) (nm : Nat → ByteArray) (g : Nat) (hg : g < 8) (hu : us g = true) (hl : ∀ h, 1 ≤ h → h < 8 → us h = true → usedB us 8 (pa h) = true) (w : World) (hN : NodesAt w nb us pa nm (fun h => decide (1 ≤ h))) :
    Calls Tryz.prog 125 #[.pointer (some ⟨nb g, 0, none⟩)] w fun e w' => e = .returned (.int .i64 (dep us pa 8 4 g)) ∧ w = w' := by
  have HN := Lib.hid hN
  have HL := Lib.hid hl
  clear hN hl
  obtain ⟨D, hD0⟩ : ∃ D, D = dep us pa 8 4 g := ⟨_, rfl⟩
  rw [← hD0]
  have H0 : Hid (D = if dep us pa 8 (4 - 0) g < 0 then -1 else ((0 : Nat) : Int) + dep us pa 8 (4 - 0) g) := Lib.hid (hD0.trans (depStart us pa 8 4 g))
  clear hD0
  go_enter Tryz.func125, Tryz.ntmps125
  go_wp2
  go_loop [0, 3] (fun p i => ∃ (s x : Nat), s ≤ 4 ∧ x < 8 ∧ us x = true ∧ i = .int .i64 s ∧ p = .pointer (some ⟨nb x, 0, none⟩) ∧ Hid (D = if dep us pa 8 (4 - s) x < 0 then -1 else s + dep us pa 8 (4 - s) x)) (fun _ i => 4 - (intOf i).toNat)
  case atStart => exact ⟨0, g, by omega, hg, hu, rfl, rfl, H0⟩
  case round =>
    obtain ⟨s, x, hs, hx8, hux, rfl, rfl, HD⟩ := hrel
    clear H0 hu hg
    by_cases hlt : s < 4
    · have hb := HN.out x hx8 hux
      have c0 : w.cell? ⟨nb x, 0, none⟩ = some (.int .i64 (x : Int)) := hb.cell 0
      by_cases hx : x = 0
      · subst hx
        have hD := Lib.hid (depRootN HD.out hlt (by simpa [usedB] using hux))
        clear hb
        go_wp2
        go_ret
        exact ⟨ret_intB hD.out.symm, rfl⟩
      · have hux2 : usedB us 8 (x : Int) = true := by rw [usedB_nat hx8]; exact hux
        have hD := Lib.hid (depGoN HD.out hlt hux2 (by omega))
        have hup := HL.out x (by omega) hx8 hux
        obtain ⟨p1, p2, p3⟩ := usedB_iff.1 hup
        have c2 : w.cell? ⟨nb x, 2, none⟩ = some (.pointer (some ⟨nb (pa x).toNat, 0, none⟩)) := by
          have := hb.cell 2
          simpa [show 1 ≤ x by omega] using this
        have hxI : ¬ ((x : Int) = 0) := by omega
        obtain ⟨j, hj⟩ := Int.eq_ofNat_of_zero_le p1
        have hD2 : Hid (D = if dep us pa 8 (4 - (s + 1)) (j : Int) < 0 then -1 else ((s + 1 : Nat) : Int) + dep us pa 8 (4 - (s + 1)) (j : Int)) := by
          have := hD.out
          rw [Int.toNat_natCast, hj] at this
          exact this
        have p3' : us j = true := by rw [hj] at p3; simpa using p3
        have c2' : w.cell? ⟨nb x, 2, none⟩ = some (.pointer (some ⟨nb j, 0, none⟩)) := by rw [c2, hj]; simp
        have hj8 : j < 8 := by omega
        clear hb c2 hup p1 p2 p3 hj hD HD hux2
        go_wp2
        go_round
        case rel => exact ⟨s + 1, j, by omega, hj8, p3', by go_num, rfl, hD2⟩
        case measure => simp [intOf]; omega
    · have hD := Lib.hid (depEndN HD.out (by omega))
      go_wp2
      go_ret
      exact ⟨ret_intB hD.out.symm, rfl⟩
/-- What a node's key reads as. -/
def keyL (p : Int) (s : ByteArray) : Lit := .string (keyBytes [.int .i64 p, .string s.data.toList])
theorem keyNode (p : Int) (s : ByteArray) (wp : (Lit.int .i64 p).wf = true) (hs : s.size ≤ maxLen) : keyOf Tryz.prog 128 (.agg #[.int .i64 p, .string s]) = some (keyL p s) := by
  have hkt : Tryz.prog.keyType 128 = true := by kernel_rfl
  obtain ⟨m, hm⟩ : ∃ m, Tryz.prog.types.size = m + 1 := ⟨Tryz.prog.types.size - 1, by kernel_rfl⟩
  have hc : Tryz.prog.cellsOf 128 = 2 := by kernel_rfl
  have c3 : Tryz.prog.cellsOf 3 = 1 := by kernel_rfl
  have c9 : Tryz.prog.cellsOf 9 = 1 := by kernel_rfl
  unfold keyOf
  simp only [Tryz.underlying128]
  rw [if_pos (by simp [hkt, Value.formed, Tryz.underlying128, hc]), hm]
  unfold Program.keyLits
  simp only [Tryz.underlying128, Value.cells]
  simp [hc, c3, c9, Program.keyLits, Tryz.underlying3, Tryz.underlying9, wp, hs, keyL]
theorem laidOutN : laidOutB Tryz.prog = true := by kernel_rfl
theorem keyLaw : Go.Maps.Keyed Tryz.prog 128 := Go.Maps.Keyed.of_law (deep_law_laid laidOutN (m := 2) (by omega) (of_decide_eq_true (by kernel_rfl)) (by kernel_rfl) (by rw [Tryz.underlying128]))
theorem keyL_inj {p p' : Int} {s s' : ByteArray} (wp : (Lit.int .i64 p).wf = true) (wp' : (Lit.int .i64 p').wf = true) (hs : s.size ≤ maxLen) (hs' : s'.size ≤ maxLen) (h : keyL p s = keyL p' s') : p = p' ∧ s = s' := by
  have e := keyLaw.inj (keyNode p s wp hs) (h ▸ keyNode p' s' wp' hs')
  simpa using e
end Go.Proofs.YtndbmeedimhohaaGreat
namespace Go.Proofs.YtndbmeedimhohaaGreat
open Go.RowKit Go.Maps
/-- Keys that stand in the map are those of the used slots below k. -/
def KeysAre (D : DataW Unit) (us : Nat → Bool) (pa : Nat → Int) (nm : Nat → ByteArray) (k : Nat) : Prop :=
  Maps.IsMap D ∧ ∀ g, g < 8 → us g = true → (Maps.has D (keyL (pa g) (nm g)) = true ↔ ∃ h, 1 ≤ h ∧ h < k ∧ us h = true ∧ pa h = pa g ∧ nm h = nm g)
/-- What is known of the fields. -/
structure Flds (us : Nat → Bool) (pa : Nat → Int) (nm : Nat → ByteArray) : Prop where
  wf : ∀ i, i < 8 → (Lit.int .i64 (pa i)).wf = true
  ln : ∀ i, i < 8 → (nm i).size ≤ maxLen
theorem KeysAre.start (us : Nat → Bool) (pa : Nat → Int) (nm : Nat → ByteArray) : KeysAre (.map []) us pa nm 1 :=
  ⟨Maps.isMap_empty, fun g _ _ => ⟨fun h => by simp [Maps.has] at h, fun ⟨h, h1, h2, _⟩ => by omega⟩⟩
theorem KeysAre.skip {D : DataW Unit} {us : Nat → Bool} {pa : Nat → Int} {nm : Nat → ByteArray} {k : Nat} (h : KeysAre D us pa nm k) (hu : us k = false) : KeysAre D us pa nm (k + 1) :=
  ⟨h.1, fun g hg hug => (h.2 g hg hug).trans ⟨fun ⟨x, h1, h2, h3⟩ => ⟨x, h1, by omega, h3⟩, fun ⟨x, h1, h2, h3⟩ => ⟨x, h1, by
    by_cases e : x = k
    · subst e; rw [hu] at h3; exact absurd h3.1 (by simp)
    · omega, h3⟩⟩⟩
theorem isKey_keyL (p : Int) (s : ByteArray) : WideAt.IsKeyLit (keyL p s) := by unfold keyL; trivial
theorem KeysAre.put {D : DataW Unit} {us : Nat → Bool} {pa : Nat → Int} {nm : Nat → ByteArray} {k : Nat} (h : KeysAre D us pa nm k) (F : Flds us pa nm) (h1 : 1 ≤ k) (hk : k < 8) (hu : us k = true) (d : DataW Unit) : KeysAre (D.put (keyL (pa k) (nm k)) d) us pa nm (k + 1) := by
  refine ⟨h.1.put _ _, fun g hg hug => ?_⟩
  by_cases e : keyL (pa g) (nm g) = keyL (pa k) (nm k)
  · rw [e, Maps.has_put_same h.1 (isKey_keyL _ _)]
    obtain ⟨e1, e2⟩ := keyL_inj (F.wf g hg) (F.wf k hk) (F.ln g hg) (F.ln k hk) e
    exact ⟨fun _ => ⟨k, h1, by omega, hu, e1.symm, e2.symm⟩, fun _ => rfl⟩
  · rw [Maps.has_put_other e]
    refine (h.2 g hg hug).trans ⟨fun ⟨x, a1, a2, a3⟩ => ⟨x, a1, by omega, a3⟩, fun ⟨x, a1, a2, a3⟩ => ⟨x, a1, ?_, a3⟩⟩
    by_cases ex : x = k
    · subst ex
      exact absurd (by rw [a3.2.1, a3.2.2]) e
    · omega
/-- The nodes made of the slots below k: where they lie. -/
structure MadeS (w W : World) (ab : Nat) (nb : Nat → Nat) (us : Nat → Bool) (nm : Nat → ByteArray) (k : Nat) : Prop where
  all : OwnV w ab 8 (fun h => .pointer (if decide (h < k) && us h then some ⟨nb h, 0, none⟩ else none))
  nd : ∀ h, h < k → us h = true → Bk w (nb h) 125 #[.int .i64 (h : Int), .string (nm h), .pointer none] ∧ ab < nb h
  up : ∀ h h', h < h' → h' < k → us h = true → us h' = true → nb h < nb h'
  bel : Below W.heap.size W w
  ge : W.heap.size ≤ ab
theorem MadeS.skip {w W : World} {ab : Nat} {nb : Nat → Nat} {us : Nat → Bool} {nm : Nat → ByteArray} {k : Nat} (h : MadeS w W ab nb us nm k) (hu : us k = false) : MadeS w W ab nb us nm (k + 1) := by
  refine ⟨h.all.congr (fun i hi => ?_), fun i hi hui => ?_, fun i j hij hj hui huj => ?_, h.bel, h.ge⟩
  · by_cases e : i = k
    · subst e; simp [hu]
    · have : (decide (i < k + 1)) = decide (i < k) := by simp; omega
      rw [this]
  · by_cases e : i = k
    · subst e; rw [hu] at hui; cases hui
    · exact h.nd i (by omega) hui
  · by_cases e : j = k
    · subst e; rw [hu] at huj; cases huj
    · exact h.up i j hij (by omega) hui huj
theorem MadeS.step {w W : World} {ab : Nat} {nb : Nat → Nat} {us : Nat → Bool} {nm : Nat → ByteArray} {k : Nat} (h : MadeS w W ab nb us nm k) (hk : k < 8) (hu : us k = true) :
    MadeS ((w.setCell ⟨ab, k, none⟩ (.pointer (some ⟨w.heap.size, 0, none⟩))).alloc (.cells #[.int .i64 (k : Int), .string (nm k), .pointer none] 125)) W ab (updN nb k w.heap.size) us nm (k + 1) := by
  have hab := h.all.1
  refine ⟨((h.all.put hk _).same (Below.heap_alloc _ _ ab (by simpa using hab)) (by simp)).congr (fun i hi => ?_), fun i hi hui => ?_, fun i j hij hj hui huj => ?_, ?_, h.ge⟩
  · by_cases e : i = k
    · subst e; simp [hu, updN_same]
    · have : (decide (i < k + 1)) = decide (i < k) := by simp; omega
      rw [this]
      simp [e, updN]
  · by_cases e : i = k
    · subst e
      rw [updN_same]
      exact ⟨Bk.new' _ w.heap.size _ _ (by simp), hab⟩
    · obtain ⟨n1, n2⟩ := h.nd i (by omega) hui
      rw [show updN nb k w.heap.size i = nb i by simp [updN, e]]
      exact ⟨(n1.off (by simp; omega) _).alloc _, n2⟩
  · by_cases e : j = k
    · subst e
      rw [updN_same, updN_lt _ _ _ hij]
      exact (h.nd i hij hui).1.lt
    · rw [updN_lt _ _ _ (by omega), updN_lt _ _ _ (by omega)]
      exact h.up i j hij (by omega) hui huj
  · exact (h.bel.setCell (by have := h.ge; simpa using this) _).alloc (by have := h.bel.size; simpa using this) _
/-- What linking has done when the slots below k are linked. -/
structure LinkS (w W : World) (ab mb : Nat) (nb : Nat → Nat) (us : Nat → Bool) (pa : Nat → Int) (nm : Nat → ByteArray) (k : Nat) (D : DataW Unit) : Prop where
  all : OwnV w ab 8 (fun h => .pointer (if us h then some ⟨nb h, 0, none⟩ else none))
  nd : NodesAt w nb us pa nm (fun h => decide (1 ≤ h) && decide (h < k))
  mp : w.ownsMap Tryz.prog 128 (plainElem Tryz.prog 3) mb k D
  ks : KeysAre D us pa nm k
  sep : ∀ h, h < 8 → us h = true → ab < nb h ∧ nb h < mb
  up : ∀ h h', h < h' → h' < 8 → us h = true → us h' = true → nb h < nb h'
  bel : Below W.heap.size W w
  ge : W.heap.size ≤ ab
  mlt : ab < mb
theorem MadeS.link {w W : World} {ab : Nat} {nb : Nat → Nat} {us : Nat → Bool} {pa : Nat → Int} {nm : Nat → ByteArray} (h : MadeS w W ab nb us nm 8) : LinkS (w.alloc (.map #[] 0)) W ab w.heap.size nb us pa nm 1 (.map []) := by
  refine ⟨(h.all.same (Below.heap_alloc w _ ab h.all.1) (by simp)).congr (fun i hi => by simp [hi]), fun i hi hui => ?_, ?_, KeysAre.start us pa nm, fun i hi hui => ⟨(h.nd i hi hui).2, (h.nd i hi hui).1.lt⟩, h.up, h.bel.alloc h.bel.size _, h.ge, h.all.1⟩
  · have := (h.nd i hi hui).1.alloc (.map #[] 0)
    have e : (decide (1 ≤ i) && decide (i < 1)) = false := by simp; omega
    simp only [e, Bool.false_eq_true, if_false]
    exact this
  · exact (World.ownsMap_made w _ _ _).mono (by omega)
theorem LinkS.skip {w W : World} {ab mb : Nat} {nb : Nat → Nat} {us : Nat → Bool} {pa : Nat → Int} {nm : Nat → ByteArray} {k : Nat} {D : DataW Unit} (h : LinkS w W ab mb nb us pa nm k D) (hu : us k = false) : LinkS w W ab mb nb us pa nm (k + 1) D := by
  refine ⟨h.all, fun i hi hui => ?_, h.mp.mono (by omega), h.ks.skip hu, h.sep, h.up, h.bel, h.ge, h.mlt⟩
  have e : i ≠ k := fun e => by subst e; rw [hu] at hui; cases hui
  have e2 : decide (i < k + 1) = decide (i < k) := by simp; omega
  have := h.nd i hi hui
  simpa [e2] using this
/-- The node of slot k gets its parent. -/
theorem LinkS.tie {w W : World} {ab mb : Nat} {nb : Nat → Nat} {us : Nat → Bool} {pa : Nat → Int} {nm : Nat → ByteArray} {k : Nat} {D : DataW Unit} (h : LinkS w W ab mb nb us pa nm k D) (hk1 : 1 ≤ k) (hk : k < 8) (hu : us k = true) :
    OwnV (w.setCell ⟨nb k, 2, none⟩ (.pointer (some ⟨nb (pa k).toNat, 0, none⟩))) ab 8 (fun h => .pointer (if us h then some ⟨nb h, 0, none⟩ else none)) ∧
    NodesAt (w.setCell ⟨nb k, 2, none⟩ (.pointer (some ⟨nb (pa k).toNat, 0, none⟩))) nb us pa nm (fun h => decide (1 ≤ h) && decide (h < k + 1)) ∧
    (w.setCell ⟨nb k, 2, none⟩ (.pointer (some ⟨nb (pa k).toNat, 0, none⟩))).ownsMap Tryz.prog 128 (plainElem Tryz.prog 3) mb k D ∧
    Below W.heap.size W (w.setCell ⟨nb k, 2, none⟩ (.pointer (some ⟨nb (pa k).toNat, 0, none⟩))) := by
  obtain ⟨s1, s2⟩ := h.sep k hk hu
  refine ⟨h.all.off (by simp; omega) _, fun i hi hui => ?_, h.mp.setCell (by simp; omega) _, h.bel.setCell (by have := h.ge; simp; omega) _⟩
  have hn := h.nd i hi hui
  by_cases e : i = k
  · subst e
    have := hn.put 2 (.pointer (some ⟨nb (pa i).toNat, 0, none⟩))
    have e1 : (decide (1 ≤ i) && decide (i < i + 1)) = true := by simp [hk1]
    simp only [e1, if_true]
    simpa using this
  · have hne : nb i ≠ nb k := by
      rcases Nat.lt_or_gt_of_ne e with hlt | hlt
      · have := h.up i k hlt hk hui hu; omega
      · have := h.up k i hlt hi hu hui; omega
    have e2 : decide (i < k + 1) = decide (i < k) := by simp; omega
    have := hn.off (p := ⟨nb k, 2, none⟩) hne (.pointer (some ⟨nb (pa k).toNat, 0, none⟩))
    simpa [e2] using this
end Go.Proofs.YtndbmeedimhohaaGreat

/- Trees: the program's nodes: used slots, depth by the pointers, keys. -/
import Derived.Test.YtclloljigdmdnaaG7Base
import Derived.DeepKeys4
import Derived.Maps.OwnSet
namespace Go.Proofs.Ytclloljigdmdnaa
open Go.RowKit
theorem iUsed_any (A : Option Addr) (n c : Nat) (hn : n ≤ 1048576) (us : Nat → Bool) (pa : Nat → Int) (nm : Nat → ByteArray) (g : Int) (w : World) (hT : TRd w w.heap.size A n us pa nm) :
    Calls Try.prog 37 #[.slice A n c, .int .i64 g] w fun e w' => e = .returned (.bool (usedB us n g)) ∧ w = w' := by
  by_cases h1 : 0 ≤ g ∧ g < n
  · obtain ⟨k, rfl⟩ := Int.eq_ofNat_of_zero_le h1.1
    have hk : k < n := by omega
    have hI : inR (k : Int) 0 ((n : Int) - 1) = true := inR_t (by omega) (by omega)
    obtain ⟨ga, oa, rfl, hga, hc⟩ := hT (by omega)
    obtain ⟨c0, _, _⟩ := hc k hk
    clear hc hT
    rw [usedB_nat hk]
    go_enter Try.func37, Try.ntmps37
    go_wp2_with (go_at_call 49; refine (inRange_any _ _ _ _).mono ?_; rintro e w' ⟨rfl, rfl⟩)
    go_ret
    exact ⟨rfl, rfl⟩
  · have : usedB us n g = false := by simp [usedB]; omega
    rw [this]
    have hI : inR g 0 ((n : Int) - 1) = false := inR_f (by omega)
    clear this hT
    go_enter Try.func37, Try.ntmps37
    go_wp2_with (go_at_call 49; refine (inRange_any _ _ _ _).mono ?_; rintro e w' ⟨rfl, rfl⟩)
    go_ret
    exact ⟨rfl, rfl⟩
/-- The nodes of the used slots; those that up says are linked. -/
def NodesAt (w : World) (nb : Nat → Nat) (us : Nat → Bool) (pa : Nat → Int) (nm : Nat → ByteArray) (up : Nat → Bool) : Prop :=
  ∀ h, h < 8 → us h = true → Bk w (nb h) 69 #[.int .i64 (h : Int), .string (nm h), .pointer (if up h then some ⟨nb (pa h).toNat, 0, none⟩ else none)]
theorem NodesAt.below {w w' : World} {B : Nat} {nb : Nat → Nat} {us : Nat → Bool} {pa : Nat → Int} {nm : Nat → ByteArray} {up : Nat → Bool} (h : NodesAt w nb us pa nm up) (hb : Below B w w') (hB : ∀ h, h < 8 → us h = true → nb h < B) : NodesAt w' nb us pa nm up :=
  fun k hk hu => (h k hk hu).below hb (hB k hk hu)
section
variable {us : Nat → Bool} {pa : Nat → Int} {n N : Nat} {D : Int} {k : Nat} {x : Int}
theorem depEndN (h : D = if dep us pa n (N - k) x < 0 then -1 else k + dep us pa n (N - k) x) (hk : k = N) : D = -1 := by
  subst hk
  simpa [dep] using h
theorem depRootN (h : D = if dep us pa n (N - k) 0 < 0 then -1 else k + dep us pa n (N - k) 0) (hk : k < N) (hu : usedB us n 0 = true) : D = k := by
  rw [dep_zero hu _ (by omega)] at h
  simpa using h
theorem depGoN (h : D = if dep us pa n (N - k) x < 0 then -1 else k + dep us pa n (N - k) x) (hk : k < N) (hu : usedB us n x = true) (hx : x ≠ 0) :
    D = if dep us pa n (N - (k + 1)) (pa x.toNat) < 0 then -1 else ((k + 1 : Nat) : Int) + dep us pa n (N - (k + 1)) (pa x.toNat) := by
  rw [show N - k = (N - (k + 1)) + 1 by omega, dep_step hu hx] at h
  rw [h]
  have := (dep_lt (u := us) (p := pa) (n := n) (N - (k + 1)) (pa x.toNat)).2
  split
  · rfl
  · rw [if_neg (by omega)]; omega
theorem depStart (us : Nat → Bool) (pa : Nat → Int) (n N : Nat) (x : Int) : dep us pa n N x = if dep us pa n (N - 0) x < 0 then -1 else ((0 : Nat) : Int) + dep us pa n (N - 0) x := by
  have := (dep_lt (u := us) (p := pa) (n := n) N x).2
  simp only [Nat.sub_zero]
  split <;> omega
end
set_option maxHeartbeats 1000000 in
theorem iDepth_any (nb : Nat → Nat) (us : Nat → Bool) (pa : Nat → Int) (nm : Nat → ByteArray) (g : Nat) (hg : g < 8) (hu : us g = true) (hl : ∀ h, 1 ≤ h → h < 8 → us h = true → usedB us 8 (pa h) = true) (w : World) (hN : NodesAt w nb us pa nm (fun h => decide (1 ≤ h))) :
    Calls Try.prog 34 #[.pointer (some ⟨nb g, 0, none⟩)] w fun e w' => e = .returned (.int .i64 (dep us pa 8 4 g)) ∧ w = w' := by
  have HN := Lib.hid hN
  have HL := Lib.hid hl
  clear hN hl
  obtain ⟨D, hD0⟩ : ∃ D, D = dep us pa 8 4 g := ⟨_, rfl⟩
  rw [← hD0]
  have H0 : Hid (D = if dep us pa 8 (4 - 0) g < 0 then -1 else ((0 : Nat) : Int) + dep us pa 8 (4 - 0) g) := Lib.hid (hD0.trans (depStart us pa 8 4 g))
  clear hD0
  go_enter Try.func34, Try.ntmps34
  go_wp2
  go_loop [0, 3] (fun p i => ∃ (s x : Nat), s ≤ 4 ∧ x < 8 ∧ us x = true ∧ i = .int .i64 s ∧ p = .pointer (some ⟨nb x, 0, none⟩) ∧ Hid (D = if dep us pa 8 (4 - s) x < 0 then -1 else s + dep us pa 8 (4 - s) x)) (fun _ i => 4 - (intOf i).toNat)
  case atStart => exact ⟨0, g, by omega, hg, hu, rfl, rfl, H0⟩
  case round =>
    obtain ⟨s, x, hs, hx8, hux, rfl, rfl, HD⟩ := hrel
    clear H0 hu hg
    by_cases hlt : s < 4
    · have hb := HN.out x hx8 hux
      have c0 : w.cell? ⟨nb x, 0, none⟩ = some (.int .i64 (x : Int)) := hb.cell 0
      by_cases hx : x = 0
      · subst hx
        have hD := Lib.hid (depRootN HD.out hlt (by simpa [usedB] using hux))
        clear hb
        go_wp2
        go_ret
        exact ⟨ret_intB hD.out.symm, rfl⟩
      · have hux2 : usedB us 8 (x : Int) = true := by rw [usedB_nat hx8]; exact hux
        have hD := Lib.hid (depGoN HD.out hlt hux2 (by omega))
        have hup := HL.out x (by omega) hx8 hux
        obtain ⟨p1, p2, p3⟩ := usedB_iff.1 hup
        have c2 : w.cell? ⟨nb x, 2, none⟩ = some (.pointer (some ⟨nb (pa x).toNat, 0, none⟩)) := by
          have := hb.cell 2
          simpa [show 1 ≤ x by omega] using this
        have hxI : ¬ ((x : Int) = 0) := by omega
        obtain ⟨j, hj⟩ := Int.eq_ofNat_of_zero_le p1
        have hD2 : Hid (D = if dep us pa 8 (4 - (s + 1)) (j : Int) < 0 then -1 else ((s + 1 : Nat) : Int) + dep us pa 8 (4 - (s + 1)) (j : Int)) := by
          have := hD.out
          rw [Int.toNat_natCast, hj] at this
          exact this
        have p3' : us j = true := by rw [hj] at p3; simpa using p3
        have c2' : w.cell? ⟨nb x, 2, none⟩ = some (.pointer (some ⟨nb j, 0, none⟩)) := by rw [c2, hj]; simp
        have hj8 : j < 8 := by omega
        clear hb c2 hup p1 p2 p3 hj hD HD hux2
        go_wp2
        go_round
        case rel => exact ⟨s + 1, j, by omega, hj8, p3', by go_num, rfl, hD2⟩
        case measure => simp [intOf]; omega
    · have hD := Lib.hid (depEndN HD.out (by omega))
      go_wp2
      go_ret
      exact ⟨ret_intB hD.out.symm, rfl⟩
/-- What a node's key reads as. -/
def keyL (p : Int) (s : ByteArray) : Lit := .string (keyBytes [.int .i64 p, .string s.data.toList])
theorem keyNode (p : Int) (s : ByteArray) (wp : (Lit.int .i64 p).wf = true) (hs : s.size ≤ maxLen) : keyOf Try.prog 72 (.agg #[.int .i64 p, .string s]) = some (keyL p s) := by
  have hkt : Try.prog.keyType 72 = true := by kernel_rfl
  obtain ⟨m, hm⟩ : ∃ m, Try.prog.types.size = m + 1 := ⟨Try.prog.types.size - 1, by kernel_rfl⟩
  have hc : Try.prog.cellsOf 72 = 2 := by kernel_rfl
  have c3 : Try.prog.cellsOf 3 = 1 := by kernel_rfl
  have c9 : Try.prog.cellsOf 9 = 1 := by kernel_rfl
  unfold keyOf
  simp only [Try.underlying72]
  rw [if_pos (by simp [hkt, Value.formed, Try.underlying72, hc]), hm]
  unfold Program.keyLits
  simp only [Try.underlying72, Value.cells]
  simp [hc, c3, c9, Program.keyLits, Try.underlying3, Try.underlying9, wp, hs, keyL]
theorem laidOutN : laidOutB Try.prog = true := by kernel_rfl
theorem keyLaw : Go.Maps.Keyed Try.prog 72 := Go.Maps.Keyed.of_law (deep_law_laid laidOutN (m := 2) (by omega) (of_decide_eq_true (by kernel_rfl)) (by kernel_rfl) (by rw [Try.underlying72]))
theorem keyL_inj {p p' : Int} {s s' : ByteArray} (wp : (Lit.int .i64 p).wf = true) (wp' : (Lit.int .i64 p').wf = true) (hs : s.size ≤ maxLen) (hs' : s'.size ≤ maxLen) (h : keyL p s = keyL p' s') : p = p' ∧ s = s' := by
  have e := keyLaw.inj (keyNode p s wp hs) (h ▸ keyNode p' s' wp' hs')
  simpa using e
end Go.Proofs.Ytclloljigdmdnaa

/- Trees: paths. -/
import Derived.Test.YtclloljigdmdnaaG12Base
import Derived.Laws.Concat
namespace Go.Proofs.Ytclloljigdmdnaa
open Go.RowKit
theorem drewN_drewN (w : World) (a b : Nat) : (w.drewN a).drewN b = w.drewN (a + b) := by simp [World.drewN, Nat.add_assoc]
theorem ba_assoc (a b c : ByteArray) : a ++ b ++ c = a ++ (b ++ c) := by
  apply ByteArray.ext
  simp [ByteArray.data_append, Array.append_assoc]
theorem ba_empty (a : ByteArray) : ByteArray.empty ++ a = a := by
  apply ByteArray.ext
  simp [ByteArray.data_append]
theorem pathUp_zero (pa : Nat → Int) (nm : Nat → ByteArray) (k : Nat) : pathUp pa nm k 0 = ByteArray.empty := by cases k <;> simp [pathUp]
theorem pathUp_go (pa : Nat → Int) (nm : Nat → ByteArray) (k : Nat) {g : Int} (hg : g ≠ 0) : pathUp pa nm (k + 1) g = pathUp pa nm k (pa g.toNat) ++ ⟨#[47]⟩ ++ nm g.toNat := by simp [pathUp, hg]
theorem ret_str {a b : ByteArray} (h : a = b) : Ending.returned (.string a) = .returned (.string b) := by rw [h]
def strLen : Value → Nat
  | .string b => b.size
  | _ => 0
theorem path_step {pa : Nat → Int} {nm : Nat → ByteArray} {P s : ByteArray} {k x : Nat} (hx : x ≠ 0) (h : P = pathUp pa nm (k + 1) (x : Int) ++ s) : P = pathUp pa nm k (pa x) ++ (⟨#[47]⟩ ++ nm x ++ s) := by
  rw [pathUp_go pa nm k (by omega)] at h
  rw [h]
  simp only [Int.toNat_natCast, ba_assoc]
theorem pathUp_size {us : Nat → Bool} {pa : Nat → Int} {nm : Nat → ByteArray} {n : Nat} (hs : ∀ h, 1 ≤ h → h < n → us h = true → (nm h).size ≤ 8) : ∀ (k : Nat) (g : Int), 0 ≤ dep us pa n k g → (pathUp pa nm k g).size ≤ 9 * k
  | 0, g, hd => by simp [dep] at hd
  | k + 1, g, hd => by
    by_cases hg : g = 0
    · subst hg
      rw [pathUp_zero]
      show (0 : Nat) ≤ _
      omega
    · obtain ⟨hu, h2, _⟩ := dep_parent hg hd
      have ih := pathUp_size hs k _ h2
      obtain ⟨u1, u2, u3⟩ := usedB_iff.1 hu
      have := hs g.toNat (by omega) (by omega) u3
      rw [pathUp_go pa nm k hg, ByteArray.size_append, ByteArray.size_append]
      have e : (⟨#[47]⟩ : ByteArray).size = 1 := rfl
      omega
set_option maxHeartbeats 1000000 in
theorem iPath_any (nb : Nat → Nat) (us : Nat → Bool) (pa : Nat → Int) (nm : Nat → ByteArray) (g : Nat) (hg : g < 8) (hu : us g = true) (hl : ∀ h, 1 ≤ h → h < 8 → us h = true → usedB us 8 (pa h) = true) (hs : ∀ h, 1 ≤ h → h < 8 → us h = true → (nm h).size ≤ 8) (hd : 0 ≤ dep us pa 8 4 g) (w : World) (hN : NodesAt w nb us pa nm (fun h => decide (1 ≤ h))) :
    Calls Try.prog 36 #[.pointer (some ⟨nb g, 0, none⟩)] w fun e w' => e = .returned (.string (if g = 0 then ⟨#[47]⟩ else pathUp pa nm 4 g)) ∧ w = w' := by
  have hb := hN g hg hu
  have c0 : w.cell? ⟨nb g, 0, none⟩ = some (.int .i64 (g : Int)) := hb.cell 0
  have HN := Lib.hid hN
  have HL := Lib.hid hl
  clear hN hl hb
  by_cases hg0 : g = 0
  · subst hg0
    rw [if_pos rfl]
    go_enter Try.func36, Try.ntmps36
    go_wp2
    go_ret
    exact ⟨rfl, rfl⟩
  rw [if_neg hg0]
  obtain ⟨P, hP⟩ : ∃ P, P = pathUp pa nm 4 g := ⟨_, rfl⟩
  rw [← hP]
  have H0 : Hid (P = pathUp pa nm 4 g ++ ⟨#[]⟩) := Lib.hid (by rw [hP]; apply ByteArray.ext; simp [ByteArray.data_append])
  have hgI : ¬ ((g : Int) = 0) := by omega
  have HPZ : Hid (P.size ≤ 36) := Lib.hid (by rw [hP]; exact pathUp_size hs 4 _ hd)
  clear hP hs
  go_enter Try.func36, Try.ntmps36
  go_wp2
  go_loop [0, 3] (fun p t => ∃ (k x : Nat) (s : ByteArray), x < 8 ∧ us x = true ∧ p = .pointer (some ⟨nb x, 0, none⟩) ∧ t = .string s ∧ Hid (0 ≤ dep us pa 8 k x) ∧ Hid (P = pathUp pa nm k x ++ s)) (fun _ t => P.size - strLen t)
  case atStart => exact ⟨4, g, _, hg, hu, rfl, rfl, hd, H0⟩
  case round =>
    obtain ⟨k, x, s, hx8, hux, rfl, rfl, HD, HP⟩ := hrel
    clear H0 hu hg c0 hd hg0 hgI
    have hb := HN.out x hx8 hux
    have c0 : w.cell? ⟨nb x, 0, none⟩ = some (.int .i64 (x : Int)) := hb.cell 0
    have c1 : w.cell? ⟨nb x, 1, none⟩ = some (.string (nm x)) := hb.cell 1
    by_cases hx : x = 0
    · subst hx
      have hE : P = s := by rw [HP.out]; show pathUp pa nm k 0 ++ s = s; rw [pathUp_zero, ba_empty]
      clear hb HP HD
      go_wp2
      go_ret
      exact ⟨by first | rfl | exact ret_str hE.symm, rfl⟩
    · obtain ⟨k', rfl⟩ : ∃ k', k = k' + 1 := by
        cases k with
        | zero => have := HD.out; simp [dep] at this
        | succ k' => exact ⟨k', rfl⟩
      have hpar := dep_parent (u := us) (p := pa) (n := 8) (g := (x : Int)) (by omega) HD.out
      simp only [Int.toNat_natCast] at hpar
      obtain ⟨p1, p2, p3⟩ := usedB_iff.1 (HL.out x (by omega) hx8 hux)
      have hst := path_step hx HP.out
      obtain ⟨j, hj⟩ := Int.eq_ofNat_of_zero_le p1
      have c2 : w.cell? ⟨nb x, 2, none⟩ = some (.pointer (some ⟨nb j, 0, none⟩)) := by
        have := hb.cell 2
        simpa [show 1 ≤ x by omega, hj] using this
      have hxI : ¬ ((x : Int) = 0) := by omega
      have hj8 : j < 8 := by omega
      have huj : us j = true := by rw [hj] at p3; simpa using p3
      rw [hj] at hst
      have HD2 : Hid (0 ≤ dep us pa 8 k' j) := by have := hpar.2.1; rw [hj] at this; exact this
      have hsz : s.size < (⟨#[47]⟩ ++ nm x ++ s : ByteArray).size ∧ (⟨#[47]⟩ ++ nm x ++ s : ByteArray).size ≤ P.size := by
        have e1 : (⟨#[47]⟩ ++ nm x ++ s : ByteArray).size = 1 + (nm x).size + s.size := by simp [ByteArray.size_append]; rfl
        have e2 : P.size = (pathUp pa nm k' j).size + (⟨#[47]⟩ ++ nm x ++ s : ByteArray).size := by rw [hst, ByteArray.size_append]
        omega
      have e0 : (⟨#[47]⟩ : ByteArray).size = 1 := rfl
      have hpz := HPZ.out
      have ez : (⟨#[47]⟩ ++ nm x ++ s : ByteArray).size = (⟨#[47]⟩ : ByteArray).size + (nm x).size + s.size := by rw [ByteArray.size_append, ByteArray.size_append]
      have a1 := fun w => run_string_add_sum (P := Try.prog) w ⟨#[47]⟩ (nm x) (by omega)
      have a2 := fun w => run_string_add_sum (P := Try.prog) w (⟨#[47]⟩ ++ nm x) s (by rw [ByteArray.size_append]; omega)
      clear e0 hpz ez
      have HS := Lib.hid hst
      have HZ := Lib.hid hsz
      clear hb HP HD hpar p1 p2 p3 hj hst hsz
      go_wp2
      go_round
      case rel => exact ⟨k', j, _, hj8, huj, rfl, rfl, HD2, HS⟩
      case measure => have := HZ.out; simp only [strLen]; omega
/-- The reference's path below the root. -/
theorem sPathUp_any (A : Option Addr) (n c : Nat) (hn : n ≤ 1048576) (us : Nat → Bool) (pa : Nat → Int) (nm : Nat → ByteArray) (hs : ∀ h, 1 ≤ h → h < n → us h = true → (nm h).size ≤ 8) : ∀ (k : Nat) (_ : k ≤ 4) (g : Int) (_ : 0 ≤ dep us pa n k g) (w : World) (_ : TRd w w.heap.size A n us pa nm),
    Calls Try.prog 35 #[.slice A n c, .int .i64 g] w fun e w' => e = .returned (.string (pathUp pa nm k g)) ∧ ∃ m, w' = w.drewN m
  | 0, _, g, hd, _, _ => by simp [dep] at hd
  | k + 1, hk, g, hd, w, hT => by
    by_cases hg : g = 0
    · subst hg
      rw [pathUp_zero]
      clear hT
      go_enter Try.func35, Try.ntmps35
      go_wp2
      go_ret
      exact ⟨rfl, 0, rfl⟩
    · rw [pathUp_go pa nm k hg]
      obtain ⟨hu, h2, _⟩ := dep_parent hg hd
      have HIH := Lib.hid (sPathUp_any A n c hn us pa nm hs k (by omega) (pa g.toNat) h2)
      have hz := pathUp_size hs k _ h2
      have HT := Lib.hid hT
      obtain ⟨u1, u2, _⟩ := usedB_iff.1 hu
      obtain ⟨j, rfl⟩ := Int.eq_ofNat_of_zero_le u1
      obtain ⟨ga, oa, rfl, hga, hc⟩ := hT (by omega)
      have hj : j < n := by omega
      obtain ⟨_, c1, c2⟩ := hc j hj
      simp only [Int.toNat_natCast] at HIH hz ⊢
      have hs1 := hs j (by omega) hj (by simpa using (usedB_iff.1 hu).2.2)
      have e0 : (⟨#[47]⟩ : ByteArray).size = 1 := rfl
      have a1 := fun w => run_string_add_sum (P := Try.prog) w (pathUp pa nm k (pa j)) ⟨#[47]⟩ (by omega)
      have a2 := fun w => run_string_add_sum (P := Try.prog) w (pathUp pa nm k (pa j) ++ ⟨#[47]⟩) (nm j) (by rw [ByteArray.size_append]; omega)
      clear hz hs1 e0
      have hgI : ¬ ((j : Int) = 0) := by omega
      clear hd hc h2 hu u1 u2 hT hg
      go_enter Try.func35, Try.ntmps35
      go_wp2
      go_quiet ((go_at_call 35; exact (HIH.out _ (HT.out.at_ (below_drewN (Below.refl _ _) _))).mono (fun e w' ⟨h1, m, h2⟩ => ⟨h1, _, h2.trans (drewN_drewN _ _ _)⟩)))
      go_wp2
      go_ret
      exact ⟨rfl, _, rfl⟩
theorem treeOk_name {us : Nat → Bool} {pa : Nat → Int} {nm : Nat → ByteArray} {n : Nat} (h : treeOk nameOk us pa nm n = true) : ∀ g, 1 ≤ g → g < n → us g = true → (nm g).size ≤ 8 := fun g h1 h2 h3 => by
  have := (treeOk_spec h).2 g h1 h2
  unfold slotB at this
  simp only [h3, Bool.not_true, Bool.false_or, Bool.and_eq_true] at this
  have h4 := this.1.1
  unfold nameOk at h4
  simp only [Bool.and_eq_true] at h4
  have := (inR_iff.1 h4.1.1).2
  omega
theorem treePath_no {us : Nat → Bool} {pa : Nat → Int} {nm : Nat → ByteArray} {n : Nat} {g : Int} (h : (treeOk nameOk us pa nm n && usedB us n g) = false) : treePath nameOk us pa nm n g = ByteArray.empty := by simp [treePath, h]
theorem treePath_root {us : Nat → Bool} {pa : Nat → Int} {nm : Nat → ByteArray} {n : Nat} {g : Int} (h : (treeOk nameOk us pa nm n && usedB us n g) = true) (hg : g = 0) : treePath nameOk us pa nm n g = ⟨#[47]⟩ := by
  subst hg
  unfold treePath
  rw [h]
  rfl
theorem treePath_yes {us : Nat → Bool} {pa : Nat → Int} {nm : Nat → ByteArray} {n : Nat} {g : Int} (h : (treeOk nameOk us pa nm n && usedB us n g) = true) (hg : g ≠ 0) : treePath nameOk us pa nm n g = pathUp pa nm 4 g := by simp [treePath, h, hg]
theorem iTreePath_any (A : Option Addr) (n c : Nat) (hn : n ≤ 1048576) (us : Nat → Bool) (pa : Nat → Int) (nm : Nat → ByteArray) (hF : n = 8 → Flds us pa nm) (g : Int) (w W : World) (hb : Below W.heap.size W w) (hT0 : TRd W W.heap.size A n us pa nm) :
    Calls Try.prog 16 #[.slice A n c, .int .i64 g] w fun e w' => e = .returned (.string (treePath nameOk us pa nm n g)) ∧ Below w.heap.size w w' := by
  have HN := Lib.hid (nodeOf_any A n c hn us pa nm hF g w w (Below.refl _ _) (hT0.at_ hb))
  clear hT0
  go_enter Try.func16, Try.ntmps16
  go_wp2_with fail
  refine HN.out.mono ?_
  rintro e w1 ⟨hr, hb1⟩
  unfold NodeR at hr
  clear HN
  cases ht : (treeOk nameOk us pa nm n && usedB us n g)
  · rw [ht] at hr
    obtain rfl := hr
    have HE := Lib.hid (treePath_no ht)
    clear ht
    go_wp2
    go_ret
    exact ⟨ret_str HE.out.symm, hb1⟩
  · rw [ht] at hr
    obtain ⟨nb, rfl, hN⟩ := hr
    have h1 : treeOk nameOk us pa nm n = true := by simp at ht; exact ht.1
    have h2 : usedB us n g = true := by simp at ht; exact ht.2
    have h8 := treeOk_eight h1
    subst h8
    obtain ⟨u1, u2, u3⟩ := usedB_iff.1 h2
    obtain ⟨j, rfl⟩ := Int.eq_ofNat_of_zero_le u1
    have huj : us j = true := by simpa using u3
    have HD := Lib.hid (iPath_any nb us pa nm j (by omega) huj (treeOk_up h1) (treeOk_name h1) (treeOk_dep h1 (by omega) huj) w1 hN)
    have HE : Hid ((if j = 0 then (⟨#[47]⟩ : ByteArray) else pathUp pa nm 4 j) = treePath nameOk us pa nm 8 j) := by
      by_cases e : j = 0
      · rw [if_pos e, treePath_root ht (by omega)]; exact rfl
      · rw [if_neg e, treePath_yes ht (by omega)]; exact rfl
    obtain ⟨P, hP⟩ : ∃ P, P = (if j = 0 then (⟨#[47]⟩ : ByteArray) else pathUp pa nm 4 j) := ⟨_, rfl⟩
    rw [← hP] at HD HE
    clear u1 u2 u3 hN h1 h2 ht hP
    go_wp2_with (go_at_call 36; refine HD.out.mono ?_; rintro e w' ⟨rfl, rfl⟩)
    go_ret
    exact ⟨ret_str HE.out, hb1⟩
theorem sTreePath_any (A : Option Addr) (n c : Nat) (hn : n ≤ 1048576) (us : Nat → Bool) (pa : Nat → Int) (nm : Nat → ByteArray) (g : Int) (w W : World) (hb : Below W.heap.size W w) (hT0 : TRd W W.heap.size A n us pa nm) :
    Calls Try.prog 15 #[.slice A n c, .int .i64 g] w fun e w' => e = .returned (.string (treePath nameOk us pa nm n g)) ∧ Below w.heap.size w w' := by
  have HT := Lib.hid (hT0.at_ hb)
  have HN := Lib.hid (sTreeOk_any A n c hn us pa nm w w (Below.refl _ _) HT.out)
  clear hT0
  cases ht : treeOk nameOk us pa nm n
  · rw [treePath_no (by simp [ht])]
    rw [ht] at HN
    go_enter Try.func15, Try.ntmps15
    go_wp2_with (go_at_call 9; refine HN.out.mono ?_; rintro e w1 ⟨rfl, hb1⟩)
    go_ret
    exact ⟨rfl, hb1⟩
  · rw [ht] at HN
    cases hu : usedB us n g
    · rw [treePath_no (by simp [hu])]
      go_enter Try.func15, Try.ntmps15
      go_wp2_with (first | (go_at_call 9; refine HN.out.mono ?_; rintro e w1 ⟨rfl, hb1⟩; have HT1 := Lib.hid (HT.out.at_ hb1)) | (go_at_call 32; refine (sUsed_any A n c hn us pa nm g _ HT1.out).mono ?_; rintro e w' ⟨rfl, rfl⟩))
      go_ret
      exact ⟨rfl, hb1⟩
    · have hg2 : (treeOk nameOk us pa nm n && usedB us n g) = true := by simp [ht, hu]
      by_cases hg : g = 0
      · rw [treePath_root hg2 hg]
        clear hg2
        subst hg
        go_enter Try.func15, Try.ntmps15
        go_wp2_with (first | (go_at_call 9; refine HN.out.mono ?_; rintro e w1 ⟨rfl, hb1⟩; have HT1 := Lib.hid (HT.out.at_ hb1)) | (go_at_call 32; refine (sUsed_any A n c hn us pa nm 0 _ HT1.out).mono ?_; rintro e w' ⟨rfl, rfl⟩))
        go_ret
        exact ⟨rfl, hb1⟩
      · rw [treePath_yes hg2 hg]
        have hd : 0 ≤ dep us pa n 4 g := by
          obtain ⟨u1, u2, u3⟩ := usedB_iff.1 hu
          obtain ⟨j, rfl⟩ := Int.eq_ofNat_of_zero_le u1
          exact treeOk_dep ht (by omega) (by simpa using u3)
        have HP := Lib.hid (sPathUp_any A n c hn us pa nm (treeOk_name ht) 4 (Nat.le_refl _) g hd)
        clear hg2 hd
        go_enter Try.func15, Try.ntmps15
        go_wp2_with (first | (go_at_call 9; refine HN.out.mono ?_; rintro e w1 ⟨rfl, hb1⟩; have HT1 := Lib.hid (HT.out.at_ hb1)) | (go_at_call 32; refine (sUsed_any A n c hn us pa nm g _ HT1.out).mono ?_; rintro e w' ⟨rfl, rfl⟩) | (go_at_call 35; refine (HP.out _ HT1.out).mono ?_; rintro e w' ⟨rfl, m, rfl⟩))
        go_ret
        exact ⟨rfl, below_drewN hb1 _⟩
end Go.Proofs.Ytclloljigdmdnaa

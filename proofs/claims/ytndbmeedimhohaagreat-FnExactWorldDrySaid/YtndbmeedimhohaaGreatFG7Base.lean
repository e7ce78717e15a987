/- Trees: TreeOk of the reference. -/
import Derived.Test.YtndbmeedimhohaaGreatFCD
import Derived.BigQuiet
namespace Go.Proofs.YtndbmeedimhohaaGreat
open Go.RowKit
theorem slotB_unused {ok : ByteArray → Bool} {u : Nat → Bool} {p : Nat → Int} {nm : Nat → ByteArray} {n g : Nat} (h : u g = false) : slotB ok u p nm n g = true := by simp [slotB, h]
theorem slotB_name {ok : ByteArray → Bool} {u : Nat → Bool} {p : Nat → Int} {nm : Nat → ByteArray} {n g : Nat} (hu : u g = true) (h : ok (nm g) = false) : slotB ok u p nm n g = false := by simp [slotB, hu, h]
theorem slotB_deep {ok : ByteArray → Bool} {u : Nat → Bool} {p : Nat → Int} {nm : Nat → ByteArray} {n g : Nat} (hu : u g = true) (h : inR (dep u p n (n + 1) g) 1 3 = false) : slotB ok u p nm n g = false := by simp [slotB, hu, h]
theorem slotB_twin {ok : ByteArray → Bool} {u : Nat → Bool} {p : Nat → Int} {nm : Nat → ByteArray} {n g : Nat} (hu : u g = true) (h : twinB u p nm g = true) : slotB ok u p nm n g = false := by simp [slotB, hu, h]
theorem slotB_good {ok : ByteArray → Bool} {u : Nat → Bool} {p : Nat → Int} {nm : Nat → ByteArray} {n g : Nat} (h1 : ok (nm g) = true) (h2 : inR (dep u p n (n + 1) g) 1 3 = true) (h3 : twinB u p nm g = false) : slotB ok u p nm n g = true := by simp [slotB, h1, h2, h3]
set_option maxHeartbeats 4000000 in
theorem sTreeOk_any (A : Option Addr) (n c : Nat) (hn : n ≤ 1048576) (us : Nat → Bool) (pa : Nat → Int) (nm : Nat → ByteArray) (w W : World) (hb : Below W.heap.size W w) (hT0 : TRd W W.heap.size A n us pa nm) :
    Calls Tryz.prog 40 #[.slice A n c] w fun e w' => e = .returned (.bool (treeOk nameOk us pa nm n)) ∧ Below w.heap.size w w' := by
  have hT := hT0.at_ hb
  clear hT0
  by_cases h8 : n = 8
  case neg =>
    rw [treeOk_root (by cases hh : rootB us pa nm n with | false => rfl | true => exact absurd (rootB_iff.1 hh).1 h8)]
    clear hT
    have h8' : ¬ ((n : Int) = 8) := by omega
    go_enter Tryz.func40, Tryz.ntmps40
    go_wp2
    go_ret
    exact ⟨rfl, Below.refl _ _⟩
  subst h8
  obtain ⟨ga, oa, rfl, hga, hc⟩ := hT (by omega)
  obtain ⟨c0, c1, c2⟩ := hc 0 (by omega)
  simp only [Nat.zero_mul, Nat.add_zero] at c0 c1 c2
  have HC := Lib.hid hc
  have HT := Lib.hid hT
  clear hc hT
  cases hu0 : us 0
  case false =>
    rw [treeOk_root (by cases hh : rootB us pa nm 8 with | false => rfl | true => exact absurd (rootB_iff.1 hh).2.1 (by simp [hu0]))]
    rw [hu0] at c0
    go_enter Tryz.func40, Tryz.ntmps40
    go_wp2
    go_ret
    exact ⟨rfl, Below.refl _ _⟩
  rw [hu0] at c0
  by_cases hp0 : pa 0 = -1
  case neg =>
    rw [treeOk_root (by cases hh : rootB us pa nm 8 with | false => rfl | true => exact absurd (rootB_iff.1 hh).2.2.1 hp0)]
    go_enter Tryz.func40, Tryz.ntmps40
    go_wp2
    go_ret
    exact ⟨rfl, Below.refl _ _⟩
  rw [hp0] at c1
  by_cases hm0 : nm 0 = ByteArray.empty
  case neg =>
    rw [treeOk_root (by cases hh : rootB us pa nm 8 with | false => rfl | true => exact absurd (rootB_iff.1 hh).2.2.2 hm0)]
    have hm1 : (nm 0).toList.isEmpty = false := by
      rw [ByteArray.toList_eq]
      cases hh : (nm 0).data.toList with
      | nil => exact absurd (show nm 0 = ByteArray.empty from ByteArray.ext (Array.toList_inj.1 (by rw [hh]; rfl))) hm0
      | cons a b => rfl
    clear hm0
    go_enter Tryz.func40, Tryz.ntmps40
    go_wp2
    go_ret
    exact ⟨rfl, Below.refl _ _⟩
  rw [show nm 0 = ⟨#[]⟩ from hm0] at c2
  have HR : Hid (rootB us pa nm 8 = true) := Lib.hid (rootB_iff.2 ⟨rfl, hu0, hp0, hm0⟩)
  clear hu0 hp0 hm0
  go_enter Tryz.func40, Tryz.ntmps40
  go_wp2
  clear c0 c1 c2
  go_loopw [3] (fun i wr => ∃ k : Nat, k ≤ 8 ∧ 1 ≤ k ∧ i = .int .i64 k ∧ Hid (∀ g, 1 ≤ g → g < k → slotB nameOk us pa nm 8 g = true) ∧ Below w.heap.size w wr) (fun i _ => 8 - (intOf i).toNat)
  case atStart => exact ⟨1, by omega, by omega, rfl, fun g h1 h2 => by omega, Below.refl _ _⟩
  case round =>
    obtain ⟨k, hk, hk1, rfl, HS, hbr⟩ := hrel
    by_cases hlt : k < 8
    · obtain ⟨d0, d1, d2⟩ := HC.out k hlt
      have d0 := (hbr.cell (p := ⟨ga, oa + k * 14, none⟩) hga).trans d0
      have d1 := (hbr.cell (p := ⟨ga, oa + k * 14 + 1, none⟩) hga).trans d1
      have d2 := (hbr.cell (p := ⟨ga, oa + k * 14 + 2, none⟩) hga).trans d2
      have HTr := Lib.hid (HT.out.at_ hbr)
      cases hu : us k
      · have HN : Hid (∀ g, 1 ≤ g → g < k + 1 → slotB nameOk us pa nm 8 g = true) := fun g h1 h2 => by
          by_cases e : g = k
          · subst e; exact slotB_unused hu
          · exact HS.out g h1 (by omega)
        rw [hu] at d0
        clear d1 d2
        go_wp2
        go_roundw
        case rel => exact ⟨k + 1, by omega, by omega, by go_num, HN, hbr⟩
        case measure => simp [intOf]; omega
      · rw [hu] at d0
        cases ho : nameOk (nm k)
        · have HE := Lib.hid (treeOk_slot hk1 hlt (slotB_name (p := pa) (n := 8) hu ho))
          go_wp2_with (go_at_call 70; refine (sNameOk_any (nm k) _).mono ?_; rintro e w' ⟨rfl, rfl⟩)
          go_ret
          exact ⟨ret_bool5 HE.out.symm, hbr⟩
        · cases hi : inR (dep us pa 8 (8 + 1) k) 1 3
          · have HE := Lib.hid (treeOk_slot hk1 hlt (slotB_deep (ok := nameOk) (nm := nm) (p := pa) (n := 8) hu hi))
            go_wp2_with (first | (go_at_call 70; refine (sNameOk_any (nm k) _).mono ?_; rintro e w' ⟨rfl, rfl⟩) | (go_at_call 71; refine (sDepth_any _ 8 c hn us pa nm k _ HTr.out).mono ?_; rintro e w' ⟨rfl, rfl⟩) | (go_at_call 39; refine (l1In_any _ _ _ _).mono ?_; rintro e w' ⟨rfl, rfl⟩))
            go_ret
            exact ⟨ret_bool5 HE.out.symm, hbr⟩
          · go_wp2_with (first | (go_at_call 70; refine (sNameOk_any (nm k) _).mono ?_; rintro e w' ⟨rfl, rfl⟩) | (go_at_call 71; refine (sDepth_any _ 8 c hn us pa nm k _ HTr.out).mono ?_; rintro e w' ⟨rfl, rfl⟩) | (go_at_call 39; refine (l1In_any _ _ _ _).mono ?_; rintro e w' ⟨rfl, rfl⟩))
            clear d0 d1 d2
            go_loopw [4] (fun i wx => ∃ m : Nat, m ≤ k ∧ 1 ≤ m ∧ i = .int .i64 m ∧ Hid (∀ h, 1 ≤ h → h < m → ¬ (us h = true ∧ pa h = pa k ∧ nm h = nm k)) ∧ Below w.heap.size w wx) (fun i _ => k - (intOf i).toNat)
            case atStart => exact ⟨1, hk1, by omega, rfl, fun h h1 h2 => by omega, hbr⟩
            case round =>
              rename World => wx
              obtain ⟨m, hm, hm1, rfl, HM, hbx⟩ := hrel
              by_cases hmk : m < k
              · obtain ⟨e0, e1, e2⟩ := HC.out m (by omega)
                obtain ⟨d0, d1, d2⟩ := HC.out k hlt
                have e0 := (hbx.cell (p := ⟨ga, oa + m * 14, none⟩) hga).trans e0
                have e1 := (hbx.cell (p := ⟨ga, oa + m * 14 + 1, none⟩) hga).trans e1
                have e2 := (hbx.cell (p := ⟨ga, oa + m * 14 + 2, none⟩) hga).trans e2
                have d1 := (hbx.cell (p := ⟨ga, oa + k * 14 + 1, none⟩) hga).trans d1
                have d2 := (hbx.cell (p := ⟨ga, oa + k * 14 + 2, none⟩) hga).trans d2
                have hm8 : m < 8 := by omega
                have hBx := Lib.hid hbx
                clear HC HT HTr hbx hbr
                by_cases htw : us m = true ∧ pa m = pa k ∧ nm m = nm k
                · obtain ⟨t1, t2, t3⟩ := htw
                  have HE := Lib.hid (treeOk_slot hk1 hlt (slotB_twin (ok := nameOk) (n := 8) hu (twinB_of (p := pa) (nm := nm) hm1 hmk t1 t2 t3)))
                  rw [t1] at e0
                  rw [t2] at e1
                  rw [t3] at e2
                  go_wp2
                  go_quiet (fail)
                  go_wp2
                  go_ret
                  exact ⟨ret_bool5 HE.out.symm, below_drewN hBx.out _⟩
                · have HN : Hid (∀ h, 1 ≤ h → h < m + 1 → ¬ (us h = true ∧ pa h = pa k ∧ nm h = nm k)) := fun h h1 h2 => by
                    by_cases e : h = m
                    · subst e; exact htw
                    · exact HM.out h h1 (by omega)
                  clear HM
                  cases t1 : us m
                  · rw [t1] at e0
                    clear htw
                    go_wp2
                    go_quiet (fail)
                    go_wp2
                    go_roundw
                    case rel => exact ⟨m + 1, by omega, by omega, by go_num, HN, below_drewN hBx.out _⟩
                    case measure => simp [intOf]; omega
                  · rw [t1] at e0
                    by_cases t2 : pa m = pa k
                    · have t3 : ((nm m).toList == (nm k).toList) = false := by
                        rw [beq_eq_false_iff_ne, ByteArray.toList_eq, ByteArray.toList_eq]
                        exact fun e => htw ⟨t1, t2, ByteArray.ext (Array.toList_inj.1 e)⟩
                      rw [t2] at e1
                      clear htw
                      go_wp2
                      go_quiet (fail)
                      go_wp2
                      go_roundw
                      case rel => exact ⟨m + 1, by omega, by omega, by go_num, HN, below_drewN hBx.out _⟩
                      case measure => simp [intOf]; omega
                    · have t2' : (pa m == pa k) = false := by simpa using t2
                      clear htw t2
                      go_wp2
                      go_quiet (fail)
                      go_wp2
                      go_roundw
                      case rel => exact ⟨m + 1, by omega, by omega, by go_num, HN, below_drewN hBx.out _⟩
                      case measure => simp [intOf]; omega
              · obtain rfl : m = k := by omega
                have HN : Hid (∀ g, 1 ≤ g → g < m + 1 → slotB nameOk us pa nm 8 g = true) := fun g h1 h2 => by
                  by_cases e : g = m
                  · subst e; exact slotB_good ho hi (twinB_not HM.out)
                  · exact HS.out g h1 (by omega)
                clear HM HS
                go_wp2
                go_roundw
                case rel => exact ⟨m + 1, by omega, by omega, by go_num, HN, hbx⟩
                case measure => simp [intOf]; omega
    · obtain rfl : k = 8 := by omega
      have HE := Lib.hid (treeOk_all HR.out HS.out)
      go_wp2
      go_ret
      exact ⟨ret_bool5 HE.out.symm, hbr⟩
end Go.Proofs.YtndbmeedimhohaaGreat

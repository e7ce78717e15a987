/- Trees: the groups in a group (printed by mkg17.py). -/
import Derived.Test.YtclloljigdmdnaaG16Base
import Derived.Laws.OwnMore
namespace Go.Proofs.Ytclloljigdmdnaa
open Go.RowKit
def kidsTo (us : Nat → Bool) (pa : Nat → Int) (g : Int) : Nat → List Int
  | 0 => []
  | k + 1 => kidsTo us pa g k ++ (if us k && decide (pa k = g) then [(k : Int)] else [])
def kids (us : Nat → Bool) (pa : Nat → Int) (nm : Nat → ByteArray) (n : Nat) (g : Int) : List Int := if treeOk nameOk us pa nm n && usedB us n g then kidsTo us pa g n else []
def intsL (L : List Int) : List Value := L.map (fun x => Value.int .i64 x)
theorem intsL_append (L M : List Int) : intsL (L ++ M) = intsL L ++ intsL M := by simp [intsL]
theorem kidsTo_len (us : Nat → Bool) (pa : Nat → Int) (g : Int) : ∀ k, (kidsTo us pa g k).length ≤ k
  | 0 => by simp [kidsTo]
  | k + 1 => by
    have := kidsTo_len us pa g k
    simp only [kidsTo, List.length_append]
    split <;> simp <;> omega
theorem kidsTo_no {us : Nat → Bool} {pa : Nat → Int} {g : Int} {k : Nat} (h : us k = false ∨ ¬ pa k = g) : kidsTo us pa g (k + 1) = kidsTo us pa g k := by
  rcases h with h | h <;> simp [kidsTo, h]
theorem kidsTo_yes {us : Nat → Bool} {pa : Nat → Int} {g : Int} {k : Nat} (h1 : us k = true) (h2 : pa k = g) : kidsTo us pa g (k + 1) = kidsTo us pa g k ++ [(k : Int)] := by simp [kidsTo, h1, h2]
theorem below_grown3 {w w' : World} {row : Option Nat} {B : Nat} (h : w.grownBy w' row) (hB : B ≤ w.heap.size) (hr : ∀ k, some k = row → B ≤ k) : Below B w w' :=
  ⟨h.os, h.tape, h.output, h.size, fun k hk => h.block k (Nat.lt_of_lt_of_le hk hB) (fun e => absurd (hr k e) (by omega))⟩
theorem flat_ints (L : List Int) : flat L.length (fun i => [Value.int .i64 (L.getD i 0)]) = intsL L := by
  have hl := flat_length L.length 1 (fun i => [Value.int .i64 (L.getD i 0)]) (fun _ => rfl)
  unfold flat at hl
  unfold flat intsL
  apply List.ext_getElem
  · rw [hl]; simp
  · intro i h1 h2
    have hi : i < L.length := by simpa using h2
    have e := flat_get L.length 1 (fun i => [Value.int .i64 (L.getD i 0)]) (fun _ => rfl) i 0 hi (by omega)
    unfold flat at e
    simp only [Nat.mul_one, Nat.add_zero] at e
    rw [List.getElem?_eq_getElem h1] at e
    simp only [List.getElem?_cons_zero, Option.some.injEq] at e
    rw [e]
    simp [List.getD_eq_getElem?_getD, hi]
theorem kids_own {w : World} {B : Nat} {lv : Value} {L : List Int} (h : w.ownsRow B 3 1 lv L.length (intsL L)) : ∃ A c, lv = .slice A L.length c ∧ OwnR w B A L.length (fun i => .int .i64 (L.getD i 0)) := by
  rw [← flat_ints] at h
  obtain ⟨A, c, e, o⟩ := owns_ownQ (sz := 1) (m := L.length) (el := fun i => [Value.int .i64 (L.getD i 0)]) (fun _ => rfl) h
  refine ⟨A, c, e, fun hn => ?_⟩
  obtain ⟨g, e1, hB, h1, h2, h3⟩ := o hn
  refine ⟨g, e1, hB, h1, fun i hi => ?_, fun i hi => ?_⟩
  · have := h2 i hi 0 _ rfl
    simpa using this
  · have := (h3 i (by omega)).2
    simpa using this
/-- What TreeKids gives. -/
def KidR (us : Nat → Bool) (pa : Nat → Int) (nm : Nat → ByteArray) (n : Nat) (g : Int) (B : Nat) (e : Ending) (w' : World) : Prop :=
  ∃ A c, e = .returned (.slice A (kids us pa nm n g).length c) ∧ OwnR w' B A (kids us pa nm n g).length (fun i => .int .i64 ((kids us pa nm n g).getD i 0))
theorem KidR.no {us : Nat → Bool} {pa : Nat → Int} {nm : Nat → ByteArray} {n : Nat} {g : Int} {B : Nat} {w' : World} (h : (treeOk nameOk us pa nm n && usedB us n g) = false) : KidR us pa nm n g B (.returned (.slice none 0 0)) w' := by
  have e : kids us pa nm n g = [] := by simp [kids, h]
  unfold KidR
  rw [e]
  exact ⟨none, 0, rfl, fun h => absurd h (by simp)⟩
theorem KidR.yes {us : Nat → Bool} {pa : Nat → Int} {nm : Nat → ByteArray} {g : Int} {B : Nat} {w' : World} {A : Option Addr} {c : Nat} (h : (treeOk nameOk us pa nm 8 && usedB us 8 g) = true) (o : OwnR w' B A (kidsTo us pa g 8).length (fun i => .int .i64 ((kidsTo us pa g 8).getD i 0))) : KidR us pa nm 8 g B (.returned (.slice A (kidsTo us pa g 8).length c)) w' := by
  have e : kids us pa nm 8 g = kidsTo us pa g 8 := by simp only [kids, h, if_true]
  unfold KidR
  rw [e]
  exact ⟨A, c, rfl, o⟩
theorem infoIntK : (Try.prog.info? 3).map (fun i => (i.zero, i.size, i.bytes)) = some (some (.int .i64 0), 1, 8) := by kernel_rfl
set_option maxRecDepth 100000 in
set_option maxHeartbeats 2000000 in
theorem iTreeKids_any (A : Option Addr) (n c : Nat) (hn : n ≤ 1048576) (us : Nat → Bool) (pa : Nat → Int) (nm : Nat → ByteArray) (hF : n = 8 → Flds us pa nm) (g : Int) (w W : World) (hb : Below W.heap.size W w) (hT0 : TRd W W.heap.size A n us pa nm) :
    Calls Try.prog 20 #[.slice A n c, .int .i64 g] w fun e w' => KidR us pa nm n g w.heap.size e w' ∧ Below w.heap.size w w' := by
  have hT := hT0.at_ hb
  have HT := Lib.hid hT
  have HN := Lib.hid (iTreeOk_any A n c hn us pa nm hF w w (Below.refl _ _) HT.out)
  clear hT0
  cases ht : treeOk nameOk us pa nm n
  · have HE := Lib.hid (show (treeOk nameOk us pa nm n && usedB us n g) = false by simp [ht])
    rw [ht] at HN
    clear hT
    go_enter Try.func20, Try.ntmps20
    go_wp2_with (go_at_call 11; refine HN.out.mono ?_; rintro e w1 ⟨rfl, hb1⟩)
    go_ret
    exact ⟨KidR.no HE.out, hb1⟩
  · rw [ht] at HN
    have h8 := treeOk_eight ht
    subst h8
    cases hg : usedB us 8 g
    · have HE := Lib.hid (show (treeOk nameOk us pa nm 8 && usedB us 8 g) = false by simp [hg])
      clear hT
      go_enter Try.func20, Try.ntmps20
      go_wp2_with (first | (go_at_call 11; refine HN.out.mono ?_; rintro e w1 ⟨rfl, hb1⟩; have HT1 := Lib.hid (HT.out.at_ hb1)) | (go_at_call 37; refine (iUsed_any A 8 c hn us pa nm g _ HT1.out).mono ?_; rintro e w' ⟨rfl, rfl⟩))
      go_ret
      exact ⟨KidR.no HE.out, hb1⟩
    have HE := Lib.hid (show (treeOk nameOk us pa nm 8 && usedB us 8 g) = true by simp [hg, ht])
    have HP0 : Hid (¬ pa 0 = g) := by
      have h1 := (rootB_iff.1 (treeOk_spec ht).1).2.2.1
      have h2 := (usedB_iff.1 hg).1
      show ¬ pa 0 = g
      omega
    clear ht
    obtain ⟨ga, oa, rfl, hga, hc⟩ := hT (by omega)
    have HC := Lib.hid hc
    clear hc hT
    obtain ⟨i0, hi, hz0, hz1, hz2⟩ := info_parts infoIntK
    go_enter Try.func20, Try.ntmps20
    go_wp2_with (first | (go_at_call 11; refine HN.out.mono ?_; rintro e w1 ⟨rfl, hb1⟩; have HT1 := Lib.hid (HT.out.at_ hb1)) | (go_at_call 37; refine (iUsed_any _ 8 c hn us pa nm g _ HT1.out).mono ?_; rintro e w' ⟨rfl, rfl⟩))
    go_loopw [5, 18] (fun t i wr => ∃ (k : Nat) (lv : Value), k ≤ 8 ∧ lv = t ∧ i = .int .i64 k ∧ Hid (wr.ownsRow w.heap.size 3 1 lv (kidsTo us pa g k).length (intsL (kidsTo us pa g k))) ∧ Hid (Below w.heap.size w wr)) (fun _ i _ => 8 - (intOf i).toNat)
    case atStart =>
      refine ⟨0, _, by omega, rfl, rfl, ?_, hb1⟩
      show w1.ownsRow _ _ _ _ (kidsTo us pa g 0).length (intsL (kidsTo us pa g 0))
      skip
      exact World.ownsRow_nil _ _ _ _
    case round =>
      obtain ⟨k, lv, hk, rfl, rfl, HO, HB⟩ := hrel
      have hlen := kidsTo_len us pa g k
      have hz := HB.out.size
      by_cases hlt : k < 8
      · obtain ⟨d0, d1, _⟩ := HC.out k hlt
        have d0 := (HB.out.cell (p := ⟨ga, oa + k * 14, none⟩) hga).trans d0
        have d1 := (HB.out.cell (p := ⟨ga, oa + k * 14 + 1, none⟩) hga).trans d1
        cases hu : us k
        · rw [hu] at d0
          have HN : Hid (wr.ownsRow w.heap.size 3 1 lv (kidsTo us pa g (k + 1)).length (intsL (kidsTo us pa g (k + 1)))) := by
            show wr.ownsRow w.heap.size 3 1 lv (kidsTo us pa g (k + 1)).length (intsL (kidsTo us pa g (k + 1)))
            rw [kidsTo_no (.inl hu)]; exact HO.out
          clear HO
          go_wp2
          go_roundw
          case rel => exact ⟨k + 1, lv, by omega, rfl, by go_num, HN, HB⟩
          case measure => simp [intOf]; omega
        rw [hu] at d0
        by_cases hp : pa k = g
        case neg =>
          have HN : Hid (wr.ownsRow w.heap.size 3 1 lv (kidsTo us pa g (k + 1)).length (intsL (kidsTo us pa g (k + 1)))) := by
            show wr.ownsRow w.heap.size 3 1 lv (kidsTo us pa g (k + 1)).length (intsL (kidsTo us pa g (k + 1)))
            rw [kidsTo_no (.inr hp)]; exact HO.out
          have hp' : (pa k == g) = false := by simpa using hp
          clear HO hp
          go_wp2
          go_roundw
          case rel => exact ⟨k + 1, lv, by omega, rfl, by go_num, HN, HB⟩
          case measure => simp [intOf]; omega
        rw [hp] at d1
        go_wp2_with (at_builtin; refine wpList_append_own _ rfl _ _ 34 rfl w.heap.size 3 i0 (.int .i64 0) 1 8 Try.underlying34 hi hz0 hz1 hz2 rfl (by decide) lv _ (intsL (kidsTo us pa g k)) rfl (HO.out.alloc _) ⟨wr.heap.size, 0, none⟩ 1 1 [.int .i64 (k : Int)] rfl rfl ?c1 ?c2 ?c3 ?c4 ?c5 ?_)
        case c1 =>
          intro j u hj
          match j, hj with
          | 0, hj => simp at hj; subst hj; simp [Addr.add]
        case c2 => intro u hu; simp at hu; subst hu; rfl
        case c3 => have := hlen; unfold maxLen; omega
        case c4 => have := hlen; omega
        case c5 => have := hz; simp; omega
        intro lv' w2 hown hgrow hnn
        have hrow : ∀ b, lv.ownBlock = some b → w.heap.size ≤ b := fun b hk => (HO.out.lt b hk).1
        have hb2 : Below w.heap.size wr w2 := ((Below.refl _ wr).alloc hz _).trans (below_grown3 hgrow (by simp; omega) (fun b hk => hrow b hk.symm))
        have HN : Hid (w2.ownsRow w.heap.size 3 1 lv' (kidsTo us pa g (k + 1)).length (intsL (kidsTo us pa g (k + 1)))) := by
          show w2.ownsRow w.heap.size 3 1 lv' (kidsTo us pa g (k + 1)).length (intsL (kidsTo us pa g (k + 1)))
          rw [kidsTo_yes hu hp, List.length_append, intsL_append]
          exact hown
        have HB2 := Lib.hid (HB.out.trans hb2)
        clear hown hgrow hnn hrow hb2 HO HB
        go_wp2
        go_roundw
        case rel =>
          first
            | exact ⟨k + 1, _, by omega, rfl, by go_num, HN, HB2⟩
            | (repeat apply Exists.intro
               refine ⟨?_, rfl⟩
               exact ⟨k + 1, _, by omega, rfl, by go_num, HN, HB2⟩)
        case measure => first | (simp [intOf]; omega) | (trace_state; omega)
      · obtain rfl : k = 8 := by omega
        have HR := Lib.hid (kids_own HO.out)
        rcases HR.out with ⟨A1, c1, rfl, hq⟩
        have HQ := Lib.hid hq
        clear HR hq HO
        go_wp2
        go_ret
        exact ⟨KidR.yes HE.out HQ.out, HB.out⟩
set_option maxRecDepth 100000 in
set_option maxHeartbeats 2000000 in
theorem sTreeKids_any (A : Option Addr) (n c : Nat) (hn : n ≤ 1048576) (us : Nat → Bool) (pa : Nat → Int) (nm : Nat → ByteArray) (g : Int) (w W : World) (hb : Below W.heap.size W w) (hT0 : TRd W W.heap.size A n us pa nm) :
    Calls Try.prog 19 #[.slice A n c, .int .i64 g] w fun e w' => KidR us pa nm n g w.heap.size e w' ∧ Below w.heap.size w w' := by
  have hT := hT0.at_ hb
  have HT := Lib.hid hT
  have HN := Lib.hid (sTreeOk_any A n c hn us pa nm w w (Below.refl _ _) HT.out)
  clear hT0
  cases ht : treeOk nameOk us pa nm n
  · have HE := Lib.hid (show (treeOk nameOk us pa nm n && usedB us n g) = false by simp [ht])
    rw [ht] at HN
    clear hT
    go_enter Try.func19, Try.ntmps19
    go_wp2_with (go_at_call 9; refine HN.out.mono ?_; rintro e w1 ⟨rfl, hb1⟩)
    go_ret
    exact ⟨KidR.no HE.out, hb1⟩
  · rw [ht] at HN
    have h8 := treeOk_eight ht
    subst h8
    cases hg : usedB us 8 g
    · have HE := Lib.hid (show (treeOk nameOk us pa nm 8 && usedB us 8 g) = false by simp [hg])
      clear hT
      go_enter Try.func19, Try.ntmps19
      go_wp2_with (first | (go_at_call 9; refine HN.out.mono ?_; rintro e w1 ⟨rfl, hb1⟩; have HT1 := Lib.hid (HT.out.at_ hb1)) | (go_at_call 32; refine (sUsed_any A 8 c hn us pa nm g _ HT1.out).mono ?_; rintro e w' ⟨rfl, rfl⟩))
      go_ret
      exact ⟨KidR.no HE.out, hb1⟩
    have HE := Lib.hid (show (treeOk nameOk us pa nm 8 && usedB us 8 g) = true by simp [hg, ht])
    have HP0 : Hid (¬ pa 0 = g) := by
      have h1 := (rootB_iff.1 (treeOk_spec ht).1).2.2.1
      have h2 := (usedB_iff.1 hg).1
      show ¬ pa 0 = g
      omega
    clear ht
    obtain ⟨ga, oa, rfl, hga, hc⟩ := hT (by omega)
    have HC := Lib.hid hc
    clear hc hT
    obtain ⟨i0, hi, hz0, hz1, hz2⟩ := info_parts infoIntK
    go_enter Try.func19, Try.ntmps19
    go_wp2_with (first | (go_at_call 9; refine HN.out.mono ?_; rintro e w1 ⟨rfl, hb1⟩; have HT1 := Lib.hid (HT.out.at_ hb1)) | (go_at_call 32; refine (sUsed_any _ 8 c hn us pa nm g _ HT1.out).mono ?_; rintro e w' ⟨rfl, rfl⟩))
    go_loopw [5, 6] (fun t i wr => ∃ (k : Nat) (lv : Value), k ≤ 8 ∧ 1 ≤ k ∧ lv = t ∧ i = .int .i64 k ∧ Hid (wr.ownsRow w.heap.size 3 1 lv (kidsTo us pa g k).length (intsL (kidsTo us pa g k))) ∧ Hid (Below w.heap.size w wr)) (fun _ i _ => 8 - (intOf i).toNat)
    case atStart =>
      refine ⟨1, _, by omega, by omega, rfl, rfl, ?_, hb1⟩
      show w1.ownsRow _ _ _ _ (kidsTo us pa g 1).length (intsL (kidsTo us pa g 1))
      rw [kidsTo_no (.inr HP0.out)]
      exact World.ownsRow_nil _ _ _ _
    case round =>
      obtain ⟨k, lv, hk, hk1, rfl, rfl, HO, HB⟩ := hrel
      have hlen := kidsTo_len us pa g k
      have hz := HB.out.size
      by_cases hlt : k < 8
      · obtain ⟨d0, d1, _⟩ := HC.out k hlt
        have d0 := (HB.out.cell (p := ⟨ga, oa + k * 14, none⟩) hga).trans d0
        have d1 := (HB.out.cell (p := ⟨ga, oa + k * 14 + 1, none⟩) hga).trans d1
        cases hu : us k
        · rw [hu] at d0
          have HN : Hid (wr.ownsRow w.heap.size 3 1 lv (kidsTo us pa g (k + 1)).length (intsL (kidsTo us pa g (k + 1)))) := by
            show wr.ownsRow w.heap.size 3 1 lv (kidsTo us pa g (k + 1)).length (intsL (kidsTo us pa g (k + 1)))
            rw [kidsTo_no (.inl hu)]; exact HO.out
          clear HO
          go_wp2
          go_roundw
          case rel => exact ⟨k + 1, lv, by omega, by omega, rfl, by go_num, HN, HB⟩
          case measure => simp [intOf]; omega
        rw [hu] at d0
        by_cases hp : pa k = g
        case neg =>
          have HN : Hid (wr.ownsRow w.heap.size 3 1 lv (kidsTo us pa g (k + 1)).length (intsL (kidsTo us pa g (k + 1)))) := by
            show wr.ownsRow w.heap.size 3 1 lv (kidsTo us pa g (k + 1)).length (intsL (kidsTo us pa g (k + 1)))
            rw [kidsTo_no (.inr hp)]; exact HO.out
          have hp' : (pa k == g) = false := by simpa using hp
          clear HO hp
          go_wp2
          go_roundw
          case rel => exact ⟨k + 1, lv, by omega, by omega, rfl, by go_num, HN, HB⟩
          case measure => simp [intOf]; omega
        rw [hp] at d1
        go_wp2_with (at_builtin; refine wpList_append_own _ rfl _ _ 34 rfl w.heap.size 3 i0 (.int .i64 0) 1 8 Try.underlying34 hi hz0 hz1 hz2 rfl (by decide) lv _ (intsL (kidsTo us pa g k)) rfl (HO.out.alloc _) ⟨wr.heap.size, 0, none⟩ 1 1 [.int .i64 (k : Int)] rfl rfl ?c1 ?c2 ?c3 ?c4 ?c5 ?_)
        case c1 =>
          intro j u hj
          match j, hj with
          | 0, hj => simp at hj; subst hj; simp [Addr.add]
        case c2 => intro u hu; simp at hu; subst hu; rfl
        case c3 => have := hlen; unfold maxLen; omega
        case c4 => have := hlen; omega
        case c5 => have := hz; simp; omega
        intro lv' w2 hown hgrow hnn
        have hrow : ∀ b, lv.ownBlock = some b → w.heap.size ≤ b := fun b hk => (HO.out.lt b hk).1
        have hb2 : Below w.heap.size wr w2 := ((Below.refl _ wr).alloc hz _).trans (below_grown3 hgrow (by simp; omega) (fun b hk => hrow b hk.symm))
        have HN : Hid (w2.ownsRow w.heap.size 3 1 lv' (kidsTo us pa g (k + 1)).length (intsL (kidsTo us pa g (k + 1)))) := by
          show w2.ownsRow w.heap.size 3 1 lv' (kidsTo us pa g (k + 1)).length (intsL (kidsTo us pa g (k + 1)))
          rw [kidsTo_yes hu hp, List.length_append, intsL_append]
          exact hown
        have HB2 := Lib.hid (HB.out.trans hb2)
        clear hown hgrow hnn hrow hb2 HO HB
        go_wp2
        go_roundw
        case rel =>
          first
            | exact ⟨k + 1, _, by omega, by omega, rfl, by go_num, HN, HB2⟩
            | (repeat apply Exists.intro
               refine ⟨?_, rfl⟩
               exact ⟨k + 1, _, by omega, by omega, rfl, by go_num, HN, HB2⟩)
        case measure => first | (simp [intOf]; omega) | (trace_state; omega)
      · obtain rfl : k = 8 := by omega
        have HR := Lib.hid (kids_own HO.out)
        rcases HR.out with ⟨A1, c1, rfl, hq⟩
        have HQ := Lib.hid hq
        clear HR hq HO
        go_wp2
        go_ret
        exact ⟨KidR.yes HE.out HQ.out, HB.out⟩
theorem OwnR.ub {w : World} {B n : Nat} {A : Option Addr} {f : Nat → Value} (h : OwnR w B A n f) (hn : 0 < n) {b : Nat} (hb : hd A b) : B ≤ b ∧ b < w.heap.size := by
  obtain ⟨g, e, hB, hv⟩ := h hn
  obtain ⟨o, e2⟩ := hb
  rw [e] at e2
  simp only [Option.some.injEq, Addr.mk.injEq] at e2
  have := hv.1
  omega
theorem kids_len (us : Nat → Bool) (pa : Nat → Int) (nm : Nat → ByteArray) (n : Nat) (g : Int) : (kids us pa nm n g).length ≤ n := by
  unfold kids
  split
  · exact kidsTo_len us pa g n
  · simp
theorem KidR.named {us : Nat → Bool} {pa : Nat → Int} {nm : Nat → ByteArray} {n : Nat} {g : Int} {B : Nat} {e : Ending} {w' : World} {m : Nat} {F : Nat → Value} (hm : m = (kids us pa nm n g).length) (hF : F = fun i => .int .i64 ((kids us pa nm n g).getD i 0)) (h : KidR us pa nm n g B e w') : ∃ A c, e = .returned (.slice A m c) ∧ OwnR w' B A m F := by
  subst hm hF
  exact h
end Go.Proofs.Ytclloljigdmdnaa

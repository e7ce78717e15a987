/- Masks: impl's MaskText: a range over the members, its runs joined. -/
import Derived.Test.YtclepnpdkmcaeaaDoorM1Base
import Derived.Test.YtclepnpdkmcaeaaDoorS4Base
import Derived.Test.YtclepnpdkmcaeaaDoorMem2
import Derived.Test.YtclepnpdkmcaeaaDoorShelf
import Derived.RangeFuncBox
import Derived.Laws.Concat
namespace Go.Proofs.YtclepnpdkmcaeaaDoor
open Go.RowKit Go.Shelf
attribute [local go_sem] Oper.semAt_some

set_option maxHeartbeats 1000000 in
theorem members4_in (n : Nat) (hn : 1 ≤ n) (l Bn : Nat) (m : Int) (J Jx : List Int → World → Prop)
    (hY : ∀ pre (x : Int) W, maskHas m x = true → J pre W → pre.length < 4 → YieldAt Fence.wide (n - 1) Tryd.prog l #[.int .i64 x] W fun e W' =>
      (e = .returned (.bool true) ∧ J (pre ++ [x]) W' ∧ KeepCell Bn W W') ∨ (e = .returned (.bool false) ∧ Jx (pre ++ [x]) W'))
    (W : World) (hBn : W.cell? ⟨Bn, 0, none⟩ = some (.int .i64 m)) (h0 : J [] W) :
    CallsIn Fence.wide n Tryd.prog 28 #[.func (.yield l) #[] #[], .pointer (some ⟨Bn, 0, none⟩)] W fun e W' => (∃ v, e = .returned v) ∧
      ((∃ ys, ys = membI m 4 ∧ J ys W') ∨ (∃ pre, pre <+: membI m 4 ∧ Jx pre W')) := by
  refine callsIn_of_wp Tryd.func28 rfl trivial ?_ rfl
  simp only [Tryd.ntmps28, List.size_toArray, List.length_cons, List.length_nil, Nat.reduceAdd, Nat.reduceSub, Array.replicate_succ, Array.replicate_zero, List.push_toArray, List.append_toArray, List.nil_append, List.cons_append]
  gi_wp2
  gi_loopw [4] (fun i wr => ∃ k : Int, 0 ≤ k ∧ k ≤ 4 ∧ i = .int .i64 k ∧ wr.cell? ⟨Bn, 0, none⟩ = some (.int .i64 m) ∧ J (membI m k) wr) (fun i _ => (4 - intOf i).toNat)
  case atStart => exact ⟨0, by omega, by omega, rfl, hBn, h0⟩
  case round =>
    obtain ⟨k, hk0, hk, rfl, hc, hJ⟩ := hrel
    by_cases hlt : k < 4
    · cases hm : maskHas m k
      · have HS := Lib.hid (membI_f m k hk0 hm)
        gi_wp2_with (refine ⟨trivial, ?_⟩; gi_at_call 21; refine (callsIn_wide.2 (cpuSetHas_any _ _ _)).mono ?_; rintro e w' ⟨rfl, rfl⟩)
        refine ⟨fun _ h => (by cases h), ?_⟩
        gi_wp2
        go_roundw
        case rel => exact ⟨k + 1, by omega, by omega, rfl, hc, by rw [HS.out]; exact hJ⟩
        case measure => simp [intOf]; omega
      · have HS := Lib.hid (membI_t m k hk0 hm)
        have hl := membI_len m k
        obtain ⟨fn, tmps, assign, body, hy, hR⟩ := hY (membI m k) k wr hm hJ (by omega)
        gi_wp2_with (refine ⟨trivial, ?_⟩; gi_at_call 21; refine (callsIn_wide.2 (cpuSetHas_any _ _ _)).mono ?_; rintro e w' ⟨rfl, rfl⟩)
        refine hR.mono ?_
        rintro e W3 (⟨rfl, hJ3, hk3⟩ | ⟨rfl, hJx3⟩)
        · have hc3 := hk3 _ hc
          gi_wp2
          go_roundw
          case rel => exact ⟨k + 1, by omega, by omega, rfl, hc3, by rw [HS.out]; exact hJ3⟩
          case measure => simp [intOf]; omega
        · gi_wp2
          refine bodyPost_ret (results_none rfl _ _ _) rfl ?_
          exact ⟨⟨_, rfl⟩, .inr ⟨membI m k ++ [k], by rw [← HS.out]; exact membI_pre m _ _ (by omega), hJx3⟩⟩
    · obtain rfl : k = 4 := by omega
      gi_wp2
      go_end0
      exact ⟨⟨_, rfl⟩, .inl hJ⟩

/-- A member of a set. -/
abbrev Mem (m : Int) := {x : Int // maskHas m x = true}
theorem members_stops4 (n : Nat) (hn : 1 ≤ n) (Bn : Nat) (m : Int) (w : World) (hBn : Bn < w.heap.size) (hc : w.cell? ⟨Bn, 0, none⟩ = some (.int .i64 m)) :
    SeqStopsK Fence.wide n Tryd.prog 28 #[.pointer (some ⟨Bn, 0, none⟩)] (fun x : Mem m => #[Value.int .i64 x.1]) (KeepCell Bn) (fun ys => ys.map (·.1) = membI m 4) (fun pre => pre.map (·.1) <+: membI m 4) 4 w := fun l J Jx W hW _ _ hY h0 => by
  refine (members4_in n hn l Bn m (fun pre W => ∃ p : List (Mem m), p.map (·.1) = pre ∧ J p W) (fun pre W => ∃ p : List (Mem m), p.map (·.1) = pre ∧ Jx p W) ?_ W ((hW.cell (p := ⟨Bn, 0, none⟩) hBn).trans hc) ⟨[], rfl, h0⟩).mono ?_
  · rintro pre x W1 hx ⟨p, rfl, hJ⟩ hl
    obtain ⟨fn, tmps, assign, body, hy, hR⟩ := hY p ⟨x, hx⟩ W1 hJ (by simpa using hl)
    refine ⟨fn, tmps, assign, body, hy, hR.mono ?_⟩
    rintro e W' (⟨he, h1, h2⟩ | ⟨he, h1⟩)
    · exact .inl ⟨he, ⟨p ++ [⟨x, hx⟩], by simp, h1⟩, h2⟩
    · exact .inr ⟨he, p ++ [⟨x, hx⟩], by simp, h1⟩
  · rintro e W' ⟨hv, ⟨ys, rfl, p, hp, hJ⟩ | ⟨pre, hpre, p, rfl, hJ⟩⟩
    · exact ⟨hv, .inl ⟨p, hp, hJ⟩⟩
    · exact ⟨hv, .inr ⟨p, hpre, hJ⟩⟩
/-- The runs that start at members of a list. -/
def runsI (m : Int) (l : List Int) : List ByteArray := (l.filter (startB m)).map (pieceB m)
theorem runsI_yes {m : Int} {l : List Int} {x : Int} (h : startB m x = true) : runsI m (l ++ [x]) = runsI m l ++ [pieceB m x] := by simp [runsI, h]
theorem runsI_no {m : Int} {l : List Int} {x : Int} (h : startB m x = false) : runsI m (l ++ [x]) = runsI m l := by simp [runsI, h]
theorem runsI_len (m : Int) (l : List Int) : (runsI m l).length ≤ l.length := by
  unfold runsI
  rw [List.length_map]
  exact List.length_filter_le _ _
def joinB (xs : List ByteArray) : ByteArray := ⟨(Lib.join (xs.map (·.data.toList)) [44]).toArray⟩
theorem joinTail_snoc (sep y : List UInt8) (r : List (List UInt8)) : Lib.joinTail sep (r ++ [y]) = Lib.joinTail sep r ++ (sep ++ y) := by simp [Lib.joinTail]
theorem joinB_one (x : ByteArray) : joinB [x] = x := by
  unfold joinB
  simp [Lib.join_one]
theorem joinB_more (xs : List ByteArray) (x : ByteArray) (h : xs ≠ []) : joinB (xs ++ [x]) = joinB xs ++ ⟨#[44]⟩ ++ x := by
  cases xs with
  | nil => exact absurd rfl h
  | cons a r =>
    unfold joinB
    apply ByteArray.ext
    simp only [List.cons_append, List.map_cons, List.map_append, List.map_nil, Lib.join_cons, joinTail_snoc, ByteArray.data_append]
    simp
theorem runs_text (m : Int) : ∀ k : Nat, joinB (runsI m (memb m k)) = sB m k ∧ (runsI m (memb m k) = [] ↔ sB m k = ⟨#[]⟩)
  | 0 => ⟨rfl, by simp [memb, runsI, sB]⟩
  | k + 1 => by
    obtain ⟨i1, i2⟩ := runs_text m k
    have hz := pieceB_size m k
    simp only [memb]
    cases hh : maskHas m k
    · have hs : startB m k = false := by simp [startB, hh]
      rw [sB_no hs]
      simpa using ⟨i1, i2⟩
    · rw [if_pos rfl]
      cases hs : startB m k
      · rw [sB_no hs, runsI_no hs]
        exact ⟨i1, i2⟩
      · rw [runsI_yes hs]
        by_cases he : sB m k = ⟨#[]⟩
        · rw [sB_first hs he, i2.2 he, List.nil_append, joinB_one]
          refine ⟨rfl, by simp, fun e => ?_⟩
          rw [e] at hz
          exact absurd hz.1 (by show ¬ 1 ≤ 0; omega)
        · rw [sB_more hs he, joinB_more _ _ (fun e => he (i2.1 e)), i1]
          refine ⟨rfl, by simp, fun e => ?_⟩
          have := congrArg ByteArray.size e
          rw [ByteArray.size_append] at this
          have : (⟨#[]⟩ : ByteArray).size = 0 := rfl
          omega
theorem runs_all (m : Int) : joinB (runsI m (membI m 4)) = maskText m := (runs_text m 4).1
theorem itoaM (c : Int) (h0 : 0 ≤ c) (h1 : c ≤ 3) (w : World) : Calls Tryd.prog 22 #[.int .i64 c] w fun e w' => e = .returned (.string (digM c)) ∧ w = w' := by
  obtain ⟨i, rfl⟩ : ∃ i : Nat, c = (i : Int) := ⟨c.toNat, by omega⟩
  refine (Tryd.strconv_Itoa_small i (by omega) w).mono ?_
  rintro e w' ⟨rfl, rfl⟩
  refine ⟨?_, rfl⟩
  rw [Lib.decDigits, dif_pos (by omega)]
  rfl
theorem boxed_own {β : Type} (B : Nat) (t : TypeId) (v : Value) : Own (fun (_ : β) W => Boxed W B t v) := fun _ X _ row hv hg hrow => hv.kept hg (fun e' => by
  obtain ⟨o, ho, hc⟩ := hrow B e'.symm
  rw [show X.heap[B]? = _ from hv] at ho
  cases ho
  cases hc)
/-- What the append and the store to the box leave of another variable's box. -/
theorem boxed_beside {W w1 : World} {B B' : Nat} {t t' : TypeId} {u v : Value} {n₀ k size : Nat} {xs : List Value} {tmp : Obj} (h : Boxed W B' t' u) (hte : t' ≠ t) (hrow : W.ownsRow n₀ t size v k xs) (hgrow : (W.alloc tmp).grownBy w1 v.ownBlock) (hne : B' ≠ B) (v' : Value) : Boxed (w1.setCell ⟨B, 0, none⟩ v') B' t' u :=
  ((h.alloc tmp).kept hgrow (h.not_row hte hrow)).kept (grownBy_setCell' w1 B v') (by simpa using hne)
theorem news1 (W : World) (t : TypeId) (v : Value) : ∀ j u, [v][j]? = some u → (W.alloc (.cells #[v] t)).cell? ((⟨W.heap.size, 0, none⟩ : Addr).add j) = some u := by
  intro j u h
  cases j with
  | zero =>
    simp at h
    subst h
    exact (Bk.new W t #[v]).cell 0
  | succ j => simp at h
theorem infoS : (Tryd.prog.info? 9).map (fun i => (i.zero, i.size, i.bytes)) = some (some (.string ⟨#[]⟩), 1, 16) := by kernel_rfl
theorem joins (m : Int) (v : Value) (w W1 : World) (hrow : W1.ownsRow w.heap.size 9 1 v (runsI m (membI m 4)).length ((runsI m (membI m 4)).map .string)) :
    Calls Tryd.prog 23 #[v, .string ⟨#[44]⟩] W1 fun e w' => e = .returned (.string (maskText m)) ∧ Below W1.heap.size W1 w' := by
  have htx := runs_all m
  have hl : (runsI m (membI m 4)).length ≤ 4 := Nat.le_trans (runsI_len m _) (membI_len m 4)
  have hsz := sB_size m 4
  generalize runsI m (membI m 4) = xs at hrow htx hl
  have hlen : (Lib.join (xs.map (·.data.toList)) [44]).length = (maskText m).size := by
    rw [← htx]
    simp [joinB, ByteArray.size]
  have hsz2 : (maskText m).size ≤ 16 := hsz
  rcases hrow.2 with ⟨rfl, h0⟩ | ⟨g, cap, cur, rfl, hg, hgb, h1, h2, h3, h4⟩
  · refine (Tryd.strings_Join_none none 0 ⟨#[44]⟩ W1).mono ?_
    rintro e w' ⟨rfl, rfl⟩
    rw [List.length_eq_zero_iff.1 h0] at htx
    exact ⟨by rw [← htx]; rfl, Below.refl _ _⟩
  · refine (Tryd.strings_Join g 0 cap xs ⟨#[44]⟩ W1 (fun j x hx => ?_) (Array.getElem?_eq_some_iff.1 hgb).1 (by omega) h1 (by show (Lib.join (xs.map (·.data.toList)) [44]).length ≤ _; omega)).mono ?_
    · have hj : j < xs.length := (List.getElem?_eq_some_iff.1 hx).1
      have hcell : W1.cell? ⟨g, 0 + j, none⟩ = cur[0 + j]? := cell_of_row W1 g (0 + j) cur _ _ hgb
      rw [hcell, Nat.zero_add]
      have e2 : (xs.map Value.string)[j]? = some (.string x) := by rw [List.getElem?_map, hx]; rfl
      rw [← h4, Nat.mul_one, List.getElem?_take_of_lt hj] at e2
      simpa using e2
    · rintro e w' ⟨rfl, hb⟩
      exact ⟨by rw [← htx]; rfl, hb⟩
set_option maxRecDepth 100000 in
set_option maxHeartbeats 4000000 in
theorem iMaskText_any (m : Int) (w W : World) (hb : Below W.heap.size W w) :
    Calls Tryd.prog 7 #[.int .i64 m] w fun e w' => e = .returned (.string (maskText m)) ∧ Below W.heap.size W w' := by
  obtain ⟨i0, hi, hz0, hz1, hz2⟩ := info_parts infoS
  refine (callsIn_wide (n := 3)).1 ?_
  refine callsIn_of_wp_marks Tryd.func7 rfl trivial ?_ rfl
  simp only [Tryd.ntmps7, List.size_toArray, List.length_cons, List.length_nil, Nat.reduceAdd, Nat.reduceSub, Array.replicate_succ, Array.replicate_zero, List.push_toArray, List.append_toArray, List.nil_append, List.cons_append]
  gi_wp2_with (refine ⟨trivial, ?_⟩; gi_at_call 20; refine (members_in _ _ _).mono ?_; rintro e w' ⟨rfl, rfl⟩)
  have HB0 : Below w.heap.size w (((w.alloc (.cells #[.int .i64 m] 35)).alloc (.cells #[.slice none 0 0] 36)).alloc (.cells #[.int .i64 m] 35)) := (((Below.refl _ w).alloc (Nat.le_refl _) _).alloc (by simp) _).alloc (by simp; omega) _
  have b0 : Boxed _ w.heap.size 35 (.int .i64 m) := ((Bk.new w 35 #[.int .i64 m]).alloc (.cells #[.slice none 0 0] 36)).alloc (.cells #[.int .i64 m] 35)
  have b2 : Boxed _ (w.heap.size + 1 + 1) 35 (.int .i64 m) := Bk.new' ((w.alloc (.cells #[.int .i64 m] 35)).alloc (.cells #[.slice none 0 0] 36)) (w.heap.size + 1 + 1) 35 #[.int .i64 m] (by simp)
  have c0 := (((Bk.new w 35 #[.int .i64 m]).alloc (.cells #[.slice none 0 0] 36)).alloc (.cells #[.int .i64 m] 35)).cell 0
  have c1 : Boxed (((w.alloc (.cells #[.int .i64 m] 35)).alloc (.cells #[.slice none 0 0] 36)).alloc (.cells #[.int .i64 m] 35)) (w.heap.size + 1) 36 (.slice none 0 0) := by
    have := (Boxed.new (w.alloc (.cells #[.int .i64 m] 35)) 36 (.slice none 0 0)).alloc (.cells #[.int .i64 m] 35)
    simpa using this
  have c2 := (Bk.new' ((w.alloc (.cells #[.int .i64 m] 35)).alloc (.cells #[.slice none 0 0] 36)) (w.heap.size + 1 + 1) 35 #[.int .i64 m] (by simp)).cell 0
  refine wpIn_rangeFunc_ownF rfl (by omega) (gf := 28) (lb := #[.pointer (some ⟨w.heap.size + 1 + 1, 0, none⟩)]) rfl trivial (enters_of Tryd.func28 (by kernel_rfl) rfl)
    (members_stops4 _ (by omega) (w.heap.size + 1 + 1) m _ (by simp) c2) keepCell_t keepCell_b (Below.refl _ _) (fun _ => rfl)
    (fun pre W => (∃ v, Boxed W (w.heap.size + 1) 36 v ∧ W.ownsRow w.heap.size 9 1 v (runsI m (pre.map (·.1))).length ((runsI m (pre.map (·.1))).map .string) ∧ True) ∧ (Boxed W w.heap.size 35 (.int .i64 m) ∧ Boxed W (w.heap.size + 1 + 1) 35 (.int .i64 m)) ∧ Below w.heap.size w W)
    (fun _ _ _ => False)
    (OwnFrom.and (Own.from (holdsRow_own w.heap.size (w.heap.size + 1) 36 9 1 (fun pre : List (Mem m) => (runsI m (pre.map (·.1))).length) (fun pre => (runsI m (pre.map (·.1))).map .string) (fun _ _ => True)) _) (OwnFrom.and (Own.from (fun s A B row hs hg hr => ⟨boxed_own _ _ _ s A B row hs.1 hg hr, boxed_own _ _ _ s A B row hs.2 hg hr⟩) _) (ownFrom_below (Nat.le_refl _) (by simp; omega))))
    (fun _ _ _ _ _ hs _ _ => hs)
    ⟨⟨_, c1, World.ownsRow_nil _ _ _ _, trivial⟩, ⟨b0, b2⟩, HB0⟩
    (fun x => { tmps := #[.int .i64 m, undef, .string ⟨#[]⟩, .pointer (some ⟨w.heap.size, 0, none⟩), .pointer (some ⟨w.heap.size + 1, 0, none⟩), .int .i64 x.1, undef, undef, .int .i64 m, .int .i64 m, .func (.func 28) #[] #[.pointer (some ⟨w.heap.size + 1 + 1, 0, none⟩)], .int .i64 x.1, undef, undef, undef, undef, undef, undef, undef, undef, undef, undef, undef, undef, undef, undef, undef, undef, undef, undef, undef, undef, undef, undef, undef, undef, undef, undef, undef], defers := [] }) ?assign ?body ?done ?stop
  case assign =>
    intro l x W K hK
    gi_wp2
    simpa using hK
  case body =>
    rintro l pre x W ⟨⟨v, hbx, hrow, _⟩, ⟨hc0, hc2⟩, hB⟩ hlen
    obtain ⟨x, hx⟩ := x
    have hxb := has_le hx
    have hrl := runsI_len m (pre.map (·.1))
    rw [List.length_map] at hrl
    generalize hq : pre.map (fun z : Mem m => z.1) = q at hrow hrl
    have hbc := hbx.cell
    have hbf := hbx.frozen
    have hm0 := hc0.cell
    cases h1 : maskHas m (x - 1)
    · have hst : startB m x = true := by simp [startB, hx, h1]
      have he1 : runsI m ((pre ++ [(⟨x, hx⟩ : Mem m)]).map (fun z => z.1)) = runsI m q ++ [pieceB m x] := by
        rw [List.map_append, hq]
        exact runsI_yes hst
      gi_wp2_with (refine ⟨trivial, ?_⟩; gi_at_call 21; refine (CallsIn.inRound l (callsIn_wide.2 (cpuSetHas_any _ _ _))).mono ?_; rintro e w' ⟨rfl, rfl⟩)
      gi_loopw [6] (fun e wr => ∃ y : Int, x ≤ y ∧ y ≤ 3 ∧ e = .int .i64 y ∧ lastE m y = lastE m x ∧ W = wr) (fun e _ => (4 - intOf e).toNat)
      case atStart => exact ⟨x, Int.le_refl _, hxb.2, rfl, rfl, rfl⟩
      case round =>
        obtain ⟨y, y0, y1, rfl, hl, rfl⟩ := hrel
        cases h3 : maskHas m (y + 1)
        · have hy : lastE m x = y := by rw [← hl, lastE_no h3]
          have d1 : (digM x).size = 1 := rfl
          have d2 : (digM y).size = 1 := rfl
          have d4 : (⟨#[45]⟩ : ByteArray).size = 1 := rfl
          clear hl
          by_cases he : x < y
          · have hpc : pieceB m x = digM x ++ (⟨#[45]⟩ ++ digM y) := by rw [pieceB, hy, if_pos he]
            have d5 : ((⟨#[45]⟩ : ByteArray) ++ digM y).size = 2 := by rw [ByteArray.size_append, d4, d2]
            have a2 := fun w => run_string_add_sum (P := Tryd.prog) w ⟨#[45]⟩ (digM y) (by omega)
            have a3 := fun w => run_string_add_sum (P := Tryd.prog) w (digM x) (⟨#[45]⟩ ++ digM y) (by omega)
            rw [hpc] at he1
            gi_wp2_with (first | (refine ⟨trivial, ?_⟩; gi_at_call 21; refine (CallsIn.inRound l (callsIn_wide.2 (cpuSetHas_any _ _ _))).mono ?_; rintro e w' ⟨rfl, rfl⟩) | (refine ⟨trivial, ?_⟩; gi_at_call 22; refine (CallsIn.inRound l (callsIn_wide.2 (itoaM _ (by omega) (by omega) _))).mono ?_; rintro e w' ⟨rfl, rfl⟩) | (gi_at_builtin; refine wpListIn_append_own _ rfl _ _ 36 rfl w.heap.size 9 i0 (.string ⟨#[]⟩) 1 16 Tryd.underlying36 hi hz0 hz1 hz2 rfl (by decide) _ _ _ rfl (hrow.alloc _) ⟨W.heap.size, 0, none⟩ 1 1 [.string (digM x ++ (⟨#[45]⟩ ++ digM y))] rfl rfl (news1 W 9 (.string (digM x ++ (⟨#[45]⟩ ++ digM y)))) (by simp [Value.oneCell']) (by unfold maxLen; omega) (by omega) (by have := hB.size; simp; omega) ?_; intro v' w1 hown' hgrow _; obtain ⟨g9, c9, rfl⟩ := ownsRow_succ hown'; obtain ⟨q1, q2, q3, q4, q5⟩ := hbx.appended (by decide) hrow hB.size (by omega) hown' hgrow; have b0' := boxed_beside hc0 (by decide) hrow hgrow (B := w.heap.size + 1) (by omega) (.slice (some ⟨g9, 0, none⟩) ((runsI m q).length + 1) c9); have b2' := boxed_beside hc2 (by decide) hrow hgrow (B := w.heap.size + 1) (by omega) (.slice (some ⟨g9, 0, none⟩) ((runsI m q).length + 1) c9); have qc := q1.cell; have qf := q1.frozen))
            exact ⟨q4, fun u hu => by rw [hc2.cell] at hu; rw [b2'.cell]; exact hu, ⟨_, q2, by rw [he1]; simpa using q3, trivial⟩, ⟨b0', b2'⟩, hB.trans q5⟩
          · have hpc : pieceB m x = digM x := by rw [pieceB, hy, if_neg he]
            rw [hpc] at he1
            gi_wp2_with (first | (refine ⟨trivial, ?_⟩; gi_at_call 21; refine (CallsIn.inRound l (callsIn_wide.2 (cpuSetHas_any _ _ _))).mono ?_; rintro e w' ⟨rfl, rfl⟩) | (refine ⟨trivial, ?_⟩; gi_at_call 22; refine (CallsIn.inRound l (callsIn_wide.2 (itoaM _ (by omega) (by omega) _))).mono ?_; rintro e w' ⟨rfl, rfl⟩) | (gi_at_builtin; refine wpListIn_append_own _ rfl _ _ 36 rfl w.heap.size 9 i0 (.string ⟨#[]⟩) 1 16 Tryd.underlying36 hi hz0 hz1 hz2 rfl (by decide) _ _ _ rfl (hrow.alloc _) ⟨W.heap.size, 0, none⟩ 1 1 [.string (digM x)] rfl rfl (news1 W 9 (.string (digM x))) (by simp [Value.oneCell']) (by unfold maxLen; omega) (by omega) (by have := hB.size; simp; omega) ?_; intro v' w1 hown' hgrow _; obtain ⟨g9, c9, rfl⟩ := ownsRow_succ hown'; obtain ⟨q1, q2, q3, q4, q5⟩ := hbx.appended (by decide) hrow hB.size (by omega) hown' hgrow; have b0' := boxed_beside hc0 (by decide) hrow hgrow (B := w.heap.size + 1) (by omega) (.slice (some ⟨g9, 0, none⟩) ((runsI m q).length + 1) c9); have b2' := boxed_beside hc2 (by decide) hrow hgrow (B := w.heap.size + 1) (by omega) (.slice (some ⟨g9, 0, none⟩) ((runsI m q).length + 1) c9); have qc := q1.cell; have qf := q1.frozen))
            exact ⟨q4, fun u hu => by rw [hc2.cell] at hu; rw [b2'.cell]; exact hu, ⟨_, q2, by rw [he1]; simpa using q3, trivial⟩, ⟨b0', b2'⟩, hB.trans q5⟩
        · have hy1 := (has_le h3).2
          have hl2 := (lastE_go (by omega) h3).trans hl
          gi_wp2_with (refine ⟨trivial, ?_⟩; gi_at_call 21; refine (CallsIn.inRound l (callsIn_wide.2 (cpuSetHas_any _ _ _))).mono ?_; rintro e w' ⟨rfl, rfl⟩)
          go_roundw
          case rel => exact ⟨y + 1, by omega, by omega, by go_num, hl2, trivial⟩
          case measure => simp [intOf]; omega
    · have hst : startB m x = false := by simp [startB, h1]
      have he1 : runsI m ((pre ++ [(⟨x, hx⟩ : Mem m)]).map (fun z => z.1)) = runsI m q := by
        rw [List.map_append, hq]
        exact runsI_no hst
      gi_wp2_with (refine ⟨trivial, ?_⟩; gi_at_call 21; refine (CallsIn.inRound l (callsIn_wide.2 (cpuSetHas_any _ _ _))).mono ?_; rintro e w' ⟨rfl, rfl⟩)
      exact ⟨KeepsOthers.refl _, fun u hu => hu, ⟨_, hbx, by rw [he1]; exact hrow, trivial⟩, ⟨hc0, hc2⟩, hB⟩
  case done =>
    rintro D ys W1 hD hys ⟨⟨v, hbx, hrow, _⟩, ⟨hc0, hc2⟩, hB⟩ hK
    rw [hys] at hrow
    have HJ := joins m v w W1 hrow
    have hbc := hbx.cell
    have hDlt : D < W1.heap.size := (Array.getElem?_eq_some_iff.1 hK).1
    clear hrow
    gi_wp2_with (refine ⟨trivial, ?_⟩; gi_at_call 23; refine (callsIn_wide.2 HJ).mono ?_; rintro e w2 ⟨rfl, hbj⟩)
    have hK' : w2.heap[D]? = some (.deferred (some [])) := (hbj.block D hDlt).trans hK
    refine ⟨by simp, .inl ⟨_, _, rfl, run_takeDeferred hK', ?_⟩⟩
    exact ⟨_, results_tmp rfl _ _ _, rfl, hb.trans (((hB.trans (hbj.mono hB.size)).trans (belowK_b (w := w) (Nat.le_refl _) w2 D _ _ (by simp at hD; omega) hK' rfl rfl)).mono hb.size)⟩
  case stop =>
    rintro D c pre W _ _ h _
    exact h.elim
end Go.Proofs.YtclepnpdkmcaeaaDoor

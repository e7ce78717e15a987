/- Queues: the pile's push. -/
import Derived.Test.YtjdlfldeoinbiaaQP2Base
import Derived.Laws.AppendOwn
import Derived.WalkKit
namespace Go.Proofs.Ytjdlfldeoinbiaa
open Go.RowKit
def fvOf (gq : Nat) : Value := .func (.func 49) #[] #[.pointer (some ⟨gq, 0, none⟩)]
theorem infoInt : (Try.prog.info? 3).map (fun i => (i.zero, i.size, i.bytes)) = some (some (.int .i64 0), 1, 8) := by kernel_rfl
theorem below_grown {w w' : World} {row : Option Nat} {B : Nat} (h : w.grownBy w' row) (hB : B ≤ w.heap.size) (hr : ∀ k, row = some k → B ≤ k) : Below B w w' :=
  ⟨h.os, h.tape, h.output, h.size, fun k hk => h.block k (Nat.lt_of_lt_of_le hk hB) (fun e => absurd (hr k e.symm) (by omega))⟩
theorem ints_snoc (m : Nat) (xs : Nat → Int) (x : Int) : ints m xs ++ [.int .i64 x] = ints (m + 1) (upd xs m x) := by
  unfold ints
  rw [List.range_succ, List.map_append]
  congr 1
  · apply List.map_congr_left
    intro i hi
    have : i < m := by simpa using hi
    simp [upd, show i ≠ m by omega]
  · simp [upd]
/-- What the sifting loop keeps: x stands at at_, everything else is no less than the old root. -/
def SiftI (v xs : Nat → Int) (x : Int) (m n at_ : Nat) (ys : Nat → Int) : Prop :=
  ys at_ = x ∧ (∀ i, i < m + 1 → 0 ≤ ys i ∧ ys i < n) ∧ (∀ i, i < m + 1 → i ≠ at_ → lt2 v (ys i) (xs 0) = false) ∧ (0 < at_ → ys 0 = xs 0) ∧ (at_ = 0 → m = 0 ∨ lt2 v x (xs 0) = true)
def rootOf (v xs : Nat → Int) (x : Int) (m : Nat) : Int := if m = 0 then x else if lt2 v x (xs 0) = true then x else xs 0
/-- What a push leaves. -/
def PushR (v xs : Nat → Int) (x : Int) (m n : Nat) (ys : Nat → Int) : Prop :=
  (∀ i, i < m + 1 → 0 ≤ ys i ∧ ys i < n) ∧ (∀ i, i < m + 1 → lt2 v (ys i) (ys 0) = false) ∧ ys 0 = rootOf v xs x m
theorem SiftI.start {v xs : Nat → Int} {x : Int} {m n : Nat} (h0 : 0 ≤ x) (h1 : x < n) (hx : ∀ i, i < m → 0 ≤ xs i ∧ xs i < n) (hr : ∀ i, i < m → lt2 v (xs i) (xs 0) = false) : SiftI v xs x m n m (upd xs m x) := by
  refine ⟨by simp [upd], fun i hi => ?_, fun i hi hne => ?_, fun h => ?_, fun h => .inl h⟩
  · unfold upd
    split
    · exact ⟨h0, h1⟩
    · exact hx i (by omega)
  · unfold upd
    rw [if_neg hne]
    exact hr i (by omega)
  · unfold upd
    rw [if_neg (by omega)]
theorem SiftI.top {v xs : Nat → Int} {x : Int} {m n : Nat} {ys : Nat → Int} (h : SiftI v xs x m n 0 ys) : PushR v xs x m n ys := by
  obtain ⟨h1, h2, h3, h4, h5⟩ := h
  have h5 := h5 rfl
  refine ⟨h2, fun i hi => ?_, ?_⟩
  · by_cases e : i = 0
    · subst e; exact lt2_self v _
    · rcases h5 with h5 | h5
      · omega
      · rw [h1]; exact lt2_lt_le v h5 (h3 i hi e)
  · rw [h1]
    unfold rootOf
    rcases h5 with h5 | h5
    · rw [if_pos h5]
    · split
      · rfl
      · rfl
theorem SiftI.stop {v xs : Nat → Int} {x : Int} {m n at_ : Nat} {ys : Nat → Int} (h : SiftI v xs x m n at_ ys) (ha : 0 < at_) (ham : at_ ≤ m) (up : Nat) (hu : up < at_) (hl : lt2 v x (ys up) = false) : PushR v xs x m n ys := by
  obtain ⟨h1, h2, h3, h4, h5⟩ := h
  have hx : lt2 v x (xs 0) = false := lt2_le_trans v (h3 up (by omega) (by omega)) hl
  refine ⟨h2, fun i hi => ?_, ?_⟩
  · rw [h4 ha]
    by_cases e : i = at_
    · subst e; rw [h1]; exact hx
    · exact h3 i hi e
  · rw [h4 ha]
    unfold rootOf
    rw [if_neg (by omega), hx]
    rfl
theorem SiftI.swap {v xs : Nat → Int} {x : Int} {m n at_ : Nat} {ys : Nat → Int} (h : SiftI v xs x m n at_ ys) (ha : 0 < at_) (ham : at_ ≤ m) (up : Nat) (hu : up < at_) (hl : lt2 v x (ys up) = true) : SiftI v xs x m n up (upd (upd ys at_ (ys up)) up (ys at_)) := by
  obtain ⟨h1, h2, h3, h4, h5⟩ := h
  refine ⟨by simp [upd, h1], fun i hi => ?_, fun i hi hne => ?_, fun h => ?_, fun h => ?_⟩
  · unfold upd
    split
    · exact h2 _ (by omega)
    · split
      · exact h2 _ (by omega)
      · exact h2 i hi
  · unfold upd
    rw [if_neg hne]
    split
    · exact h3 up (by omega) (by omega)
    · next e => exact h3 i hi e
  · unfold upd
    rw [if_neg (by omega), if_neg (by omega)]
    exact h4 ha
  · subst h
    rw [h4 ha] at hl
    exact .inr hl
theorem quiet_two {w : World} {a b : Nat} : ∃ m, (w.drewN a).drewN b = w.drewN m := ⟨a + b, by simp⟩
set_option maxHeartbeats 1000000 in
theorem push_any (B g m n ga oa c gq : Nat) (x : Int) (xs v : Nat → Int) (w : World) (hgB : g < B) (hBw : B ≤ w.heap.size) (hgq : gq < g) (hga : ga < g) (hm : m < 20) (hx0 : 0 ≤ x) (hx : x < n)
    (hxs : ∀ i, i < m → 0 ≤ xs i ∧ xs i < n) (hroot : ∀ i, i < m → lt2 v (xs i) (xs 0) = false) (hp : PileAt w B g (fvOf gq) m xs)
    (hq : w.cell? ⟨gq, 3, none⟩ = some (.slice (some ⟨ga, oa, none⟩) n c)) (hv : ∀ i, i < n → w.cell? ⟨ga, oa + i * 4 + 1, none⟩ = some (.int .i64 (v i))) :
    Calls Try.prog 50 #[.pointer (some ⟨g, 0, none⟩), .int .i64 x] w fun e w' => e = .returned (.tuple #[]) ∧ ∃ ys, PileAt w' B g (fvOf gq) (m + 1) ys ∧
      PushR v xs x m n ys ∧ Below g w w' := by
  obtain ⟨lv, hk, ho⟩ := hp
  obtain ⟨c0, c1⟩ := hk.two
  have cf := hk.frees
  have HK := Lib.hid hk
  have HO := Lib.hid ho
  have HQ := Lib.hid hq
  have HV := Lib.hid hv
  have HX := Lib.hid hxs
  have HR := Lib.hid hroot
  have hltg := hk.lt
  obtain ⟨i0, hi, hz0, hz1, hz2⟩ := info_parts infoInt
  clear hk ho hq hv hxs hroot
  go_enter Try.func50, Try.ntmps50
  go_wp2_with (at_builtin; refine wpList_append_own _ rfl _ _ 35 rfl B 3 i0 (.int .i64 0) 1 8 Try.underlying35 hi hz0 hz1 hz2 rfl (by decide) lv m (ints m xs) rfl (HO.out.alloc _) ⟨w.heap.size, 0, none⟩ 1 1 [.int .i64 x] rfl rfl ?c1 ?c2 ?c3 ?c4 ?c5 ?_)
  case c1 =>
    intro j u hj
    match j, hj with
    | 0, hj => simp at hj; subst hj; simp [Addr.add]
  case c2 => intro u hu; simp at hu; subst hu; rfl
  case c3 => unfold maxLen; omega
  case c4 => omega
  case c5 => simp; omega
  intro lv' w1 hown hgrow hnn
  rw [ints_snoc] at hown
  have hrow : ∀ k, lv.ownBlock = some k → B ≤ k := fun k hk => (HO.out.lt k hk).1
  have hb1 : Below g w w1 := ((Below.refl _ w).alloc (by omega) _).trans (below_grown hgrow (by simp; omega) (fun k hk => by have := hrow k hk; omega))
  have hk1 := (HK.out.alloc _).grown hgrow (fun e => by have := hrow g e.symm; omega)
  rcases slice_of hown with ⟨rfl, _⟩ | ⟨b, cap, rfl⟩
  · exact absurd rfl hnn
  obtain ⟨hs, hBb, hmc, hcap, _⟩ := Sw.of hown
  obtain ⟨j0, j1⟩ := hk1.two
  have jf := hk1.frees
  have HS := Lib.hid (hs.off (p := ⟨g, 0, none⟩) (by simp; omega) (.slice (some ⟨b, 0, none⟩) (m + 1) cap))
  have HK1 : Hid (Bk (w1.setCell ⟨g, 0, none⟩ (.slice (some ⟨b, 0, none⟩) (m + 1) cap)) g 66 #[.slice (some ⟨b, 0, none⟩) (m + 1) cap, fvOf gq]) := hk1.put 0 _
  have HB1 := Lib.hid (hb1.setCell (p := ⟨g, 0, none⟩) (Nat.le_refl _) (.slice (some ⟨b, 0, none⟩) (m + 1) cap))
  have HI := Lib.hid (SiftI.start hx0 hx HX.out HR.out)
  clear hown hgrow hnn hrow hb1 hk1 hs c0 c1 cf
  go_wp2
  go_loopw [4] (fun t wr => ∃ (at_ : Nat) (ys : Nat → Int), at_ ≤ m ∧ t = .int .i64 at_ ∧ Hid (Bk wr g 66 #[.slice (some ⟨b, 0, none⟩) (m + 1) cap, fvOf gq]) ∧ Hid (Sw wr b cap (m + 1) ys) ∧ Hid (Below g w wr) ∧ Hid (SiftI v xs x m n at_ ys)) (fun t _ => (intOf t).toNat)
  case atStart => exact ⟨m, _, Nat.le_refl _, by go_num, HK1, HS, HB1, HI⟩
  case round =>
    obtain ⟨at_, ys, ham, rfl, HKr, HSr, HBr, HIr⟩ := hrel
    obtain ⟨q0, q1⟩ := HKr.out.two
    unfold fvOf at q1
    by_cases ha : 0 < at_
    · obtain ⟨up, hup⟩ : ∃ up : Nat, up = (at_ - 1) / 2 := ⟨_, rfl⟩
      have hue : ((at_ : Int) - 1).tdiv 2 = (up : Int) := by
        rw [Int.tdiv_eq_ediv_of_nonneg (by omega)]
        omega
      have hu : up < at_ := by omega
      have hyx := HIr.out.1
      have da := HSr.out.cell at_ (by omega)
      have du := HSr.out.cell up (by omega)
      have fa := HSr.out.free at_
      have fu := HSr.out.free up
      rw [hyx] at da
      obtain ⟨y1, y2⟩ := HIr.out.2.1 up (by omega)
      have HBEF : Hid (∀ d, Calls Try.prog 49 #[.int .i64 x, .int .i64 (ys up), .pointer (some ⟨gq, 0, none⟩)] (wr.drewN d) fun e w'' => e = .returned (.bool (lt2 v x (ys up))) ∧ ∃ m, w'' = wr.drewN m) := fun d =>
        (before_any x (ys up) ga oa n c gq v hx0 hx y1 y2 (wr.drewN d) ((HBr.out.cell (p := ⟨gq, 3, none⟩) hgq).trans HQ.out) (fun i hi => (HBr.out.cell (p := ⟨ga, _, none⟩) hga).trans (HV.out i hi))).mono fun _ _ ⟨h1, m1, h2⟩ => ⟨h1, d + m1, by rw [h2]; simp⟩
      clear hup y1 y2
      cases hl : lt2 v x (ys up)
      · have HP := Lib.hid (HIr.out.stop ha ham up hu hl)
        clear hyx
        go_wp2
        go_quiet ((go_at_call 49; exact HBEF.out _))
        go_wp2
        refine bodyPost_ret (results_none rfl _ _ _) rfl ?_
        exact ⟨rfl, ys, ⟨_, HKr.out.drewN _, (HSr.out.drewN _).owns hBb hmc hcap⟩, HP.out, below_drewN HBr.out _⟩
      · have HP0 := HIr.out.swap ha ham up hu hl
        rw [hyx] at HP0
        have HP := Lib.hid HP0
        clear hyx HP0
        go_wp2
        go_quiet ((go_at_call 49; exact HBEF.out _))
        go_wp2
        have kd := HKr.out.drewN nq
        have sd := HSr.out.drewN nq
        have bd := below_drewN HBr.out nq
        obtain ⟨q0', q1'⟩ := kd.two
        have da' := sd.cell at_ (by omega)
        have du' := sd.cell up (by omega)
        have fa' := sd.free at_
        have fu' := sd.free up
        have KD := Lib.hid kd
        have SD := Lib.hid sd
        have BD := Lib.hid bd
        rw [HIr.out.1] at da'
        have hne : at_ ≠ up := by omega
        clear kd sd bd q0 q1 da du fa fu HBEF
        generalize hwd : wr.drewN nq = wd at *
        clear hwd
        go_region
        all_goals
          go_wp2
          go_roundw
          case rel => exact ⟨up, _, by omega, rfl, (KD.out.drew.off (by simp; omega) _).off (by simp; omega) _, (SD.out.drew.put at_ (by omega) (ys up)).put up (by omega) x, (BD.out.drew.setCell (by simp; omega) _).setCell (by simp; omega) _, HP⟩
          case measure => simp [intOf]; omega
    · obtain rfl : at_ = 0 := by omega
      go_wp2
      refine bodyPost_end (results_none rfl _ _ _) rfl ?_
      exact ⟨rfl, ys, ⟨_, HKr.out, HSr.out.owns hBb hmc hcap⟩, HIr.out.top, HBr.out⟩
end Go.Proofs.Ytjdlfldeoinbiaa

/-
  Whatever the band and the operation, the law FnExactBandDo returns true: the program's BandDo returns what the reference's returns, leaves its argument as it was, and returns memory of its own; no condition.
-/
import Derived.Test.YtbgmjcfnehnicaaB24Base
import Derived.Test.YtbgmjcfnehnicaaB4Base
import Derived.Test.YtbgmjcfnehnicaaO4Base
import Derived.ProofKit
import Derived.OpenShut
import Derived.ShutString
import Derived.ChangeOld
import Derived.Below
import Derived.Deep.Slices
import Derived.Lib.SmallJoins
import Derived.Deep.RegionWith
import Derived.Deep.DeepCutAuto
namespace Go.Proofs.Ytbgmjcfnehnicaa.fnExactBandDo
open Go.ChangeShapes Go.WideShapes Go.ChangeAt Go.RowKit
open Go.ChangeMaps (open_string shut_string)

theorem xAlloc {a b : World} (h : Below a.heap.size a b) (o : Obj) : Below a.heap.size a (b.alloc o) := h.alloc h.size o
theorem xDrew {a b : World} (h : Below a.heap.size a b) : Below a.heap.size a b.drew := h.drew
theorem xDrew' {a b : World} (h : Below a.heap.size a b) : Below a.drew.heap.size a.drew b := ⟨h.os, h.tape, h.output, h.size, h.block⟩
/-- What BandDo returns, its numbers named. -/
def DP (C Q P S : Int) (N : Nat) (F D : Nat → Value) (w : World) (e : Ending) (w' : World) : Prop :=
  ∃ Al cl Ad cd, e = .returned (.tuple #[.agg #[.int .i64 Q, .int .i64 P, .int .i64 S, .slice Al N cl, .slice Ad N cd], .int .i64 C]) ∧ Rows2 w' w.heap.size Al Ad N F D ∧ Below w.heap.size w w'
/-- A variable that holds such a result, in a world that came out of w. -/
def VarAt (C Q P S : Int) (N : Nat) (F D : Nat → Value) (w : World) (a b : Value) (w' : World) : Prop :=
  ∃ h Al cl Ad cd, a = .pointer (some ⟨h, 0, none⟩) ∧ b = .int .i64 C ∧ Bk w' h 25 #[.int .i64 Q, .int .i64 P, .int .i64 S, .slice Al N cl, .slice Ad N cd] ∧ Rows2 w' w.heap.size Al Ad N F D ∧ (0 < N → ∀ k, hd Al k ∨ hd Ad k → k ≠ h) ∧ w.heap.size ≤ h ∧ Below w.heap.size w w'
theorem three {w : World} {g : Nat} {t : TypeId} {a b c : Value} (h : Bk w g t #[a, b, c]) :
    w.cell? ⟨g, 0, none⟩ = some a ∧ w.cell? ⟨g, 1, none⟩ = some b ∧ w.cell? ⟨g, 2, none⟩ = some c := ⟨h.cell 0, h.cell 1, h.cell 2⟩
theorem bkB {a b : World} {g : Nat} {t : TypeId} {cs : Array Value} (hb : Below a.heap.size a b) (h : Bk a g t cs) : Bk b g t cs := h.below hb h.lt
theorem useP {P G : Prop} (h : P) (k : P → G) : G := k h
theorem more2 {w : World} {B B' n : Nat} {A A' : Option Addr} {f f' : Nat → Value} (h : Rows2 w B A A' n f f') (hB : B' ≤ B) : Rows2 w B' A A' n f f' := ⟨h.1.more hB, h.2.1.more hB, h.2.2⟩
theorem VarAt.after {C Q P S : Int} {N : Nat} {F D : Nat → Value} {w x wD : World} {Al Ad : Option Addr} {cl cd : Nat} (hx : Below w.heap.size w x) (hr : Rows2 wD x.heap.size Al Ad N F D) (hb : Below x.heap.size x wD) :
    VarAt C Q P S N F D w (.pointer (some ⟨wD.heap.size, 0, none⟩)) (.int .i64 C) (wD.alloc (.cells #[.int .i64 Q, .int .i64 P, .int .i64 S, .slice Al N cl, .slice Ad N cd] 25)) := by
  have h1 := hx.size
  have h2 := hb.size
  refine ⟨_, Al, cl, Ad, cd, rfl, rfl, Bk.new _ _ _, more2 (hr.below ((Below.refl _ _).alloc (Nat.le_refl _) _)) h1, fun hn k hk => ?_, by omega, (bel hx hb).alloc (by omega) _⟩
  have := hr.ub hn k hk
  omega
theorem VarAt.before {C Q P S : Int} {N h : Nat} {F D : Nat → Value} {w x wD : World} {Al Ad : Option Addr} {cl cd : Nat} (kv : Bk wD h 25 #[.int .i64 0, .int .i64 0, .int .i64 0, .slice none 0 0, .slice none 0 0]) (hx : Below w.heap.size w x) (h1 : w.heap.size ≤ h) (hr : Rows2 wD x.heap.size Al Ad N F D) (hb : Below x.heap.size x wD) (h2 : h < x.heap.size) :
    VarAt C Q P S N F D w (.pointer (some ⟨h, 0, none⟩)) (.int .i64 C) (((((wD.setCell ⟨h, 0, none⟩ (.int .i64 Q)).setCell ⟨h, 1, none⟩ (.int .i64 P)).setCell ⟨h, 2, none⟩ (.int .i64 S)).setCell ⟨h, 3, none⟩ (.slice Al N cl)).setCell ⟨h, 4, none⟩ (.slice Ad N cd)) := by
  have h3 := hx.size
  have k := ((((kv.put 0 (.int .i64 Q)).put 1 (.int .i64 P)).put 2 (.int .i64 S)).put 3 (.slice Al N cl)).put 4 (.slice Ad N cd)
  have ee : ∀ o, (fun b => b = h) (⟨h, o, none⟩ : Addr).block := fun _ => rfl
  have hr2 := hr.kept (p := fun b => b = h) (((((((Kept.refl (fun b => b = h) wD).setCell (q := ⟨h, 0, none⟩) (ee 0) (.int .i64 Q)).setCell (q := ⟨h, 1, none⟩) (ee 1) (.int .i64 P)).setCell (q := ⟨h, 2, none⟩) (ee 2) (.int .i64 S)).setCell (q := ⟨h, 3, none⟩) (ee 3) (.slice Al N cl)).setCell (q := ⟨h, 4, none⟩) (ee 4) (.slice Ad N cd))) (fun _ j hj _ e => by omega)
  refine ⟨_, Al, cl, Ad, cd, rfl, rfl, k, more2 hr2 h3, fun hn j hj => ?_, h1, (((((bel hx hb).setCell h1 _).setCell h1 _).setCell h1 _).setCell h1 _).setCell h1 _⟩
  rcases hj with hj | hj
  · obtain ⟨o, e⟩ := hj
    obtain ⟨g, ha, hB, _⟩ := hr.1 hn
    rw [ha] at e
    simp at e
    omega
  · obtain ⟨o, e⟩ := hj
    obtain ⟨g, ha, hB, _⟩ := hr.2.1 hn
    rw [ha] at e
    simp at e
    omega
set_option maxRecDepth 100000 in
set_option maxHeartbeats 60000000 in
theorem walk (q p s : Int) (A A' : Option Addr) (n m c c' : Nat) (f : Nat → Int) (f' : Nat → Bool) (kind cpu k : Int) (w : World) (hn : (n : Int) ≤ 9223372036854775807) (hm : (m : Int) ≤ 9223372036854775807)
    (hA : Rw w w.heap.size A n fun i => .int .i64 (f i)) (hA' : Rw w w.heap.size A' m fun i => .bool (f' i)) (_to : True) :
    Calls Try.prog 8 #[.agg #[.int .i64 q, .int .i64 p, .int .i64 s, .slice A n c, .slice A' m c'], .agg #[.int .i64 kind, .int .i64 cpu, .int .i64 k]] w fun e w' => e = .returned (.bool true) ∧ Below w.heap.size w w' := by
  by_cases h1 : (1048576 : Int) - n - m < 0
  · have hs := szB_neg2 _ n m h1
    go_enter Try.func8, Try.ntmps8
    go_wp2_with fail
    refine (szBand_any q p s 1048576 A A' n m c c' (by omega) (by omega) hn hm _ w (by go_grown)).mono ?_
    rintro e w1 ⟨rfl, hb1⟩
    go_wp2_with fail
    go_ret
    exact ⟨rfl, hb1⟩
  have hs := szB_pos _ n m h1
  have hA0 := Lib.hid hA
  have hA0' := Lib.hid hA'
  clear hA hA'
  have h2n : n ≤ 1048576 := by omega
  have h2m : m ≤ 1048576 := by omega
  have h5 : doN (bandOk q p s n m f f') n ≤ 1048576 := by unfold doN; split <;> omega
  obtain ⟨C, Q, P, S, N, F, D, h3, HI, HS⟩ : ∃ (C Q P S : Int) (N : Nat) (F : Nat → Int) (D : Nat → Bool), N ≤ 1048576 ∧
      Hid (∀ (x : World) (B B' : Option Addr) (d d' : Nat), Rw x x.heap.size B n (fun i => .int .i64 (f i)) → Rw x x.heap.size B' m (fun i => .bool (f' i)) → Calls Try.prog 21 #[.agg #[.int .i64 q, .int .i64 p, .int .i64 s, .slice B n d, .slice B' m d'], .agg #[.int .i64 kind, .int .i64 cpu, .int .i64 k]] x (DP C Q P S N (fun i => .int .i64 (F i)) (fun i => .bool (D i)) x)) ∧
      Hid (∀ (x : World) (B B' : Option Addr) (d d' : Nat), Rw x x.heap.size B n (fun i => .int .i64 (f i)) → Rw x x.heap.size B' m (fun i => .bool (f' i)) → Calls Try.prog 22 #[.agg #[.int .i64 q, .int .i64 p, .int .i64 s, .slice B n d, .slice B' m d'], .agg #[.int .i64 kind, .int .i64 cpu, .int .i64 k]] x (DP C Q P S N (fun i => .int .i64 (F i)) (fun i => .bool (D i)) x)) := by
    refine ⟨doC (bandOk q p s n m f f') (bandStep q n kind cpu k ⟨p, s, f, f'⟩), doQ (bandOk q p s n m f f') q, (doB (bandOk q p s n m f f') (bandStep q n kind cpu k ⟨p, s, f, f'⟩)).p, (doB (bandOk q p s n m f f') (bandStep q n kind cpu k ⟨p, s, f, f'⟩)).s, doN (bandOk q p s n m f f') n, (doB (bandOk q p s n m f f') (bandStep q n kind cpu k ⟨p, s, f, f'⟩)).f, (doB (bandOk q p s n m f f') (bandStep q n kind cpu k ⟨p, s, f, f'⟩)).d, h5, fun x B B' d d' g1 g2 => (iBandDo_any q p s B B' n m d d' h2n h2m f f' kind cpu k x x (Below.refl _ _) g1 g2).mono ?_, fun x B B' d d' g1 g2 => (sBandDo_any q p s B B' n m d d' h2n h2m f f' kind cpu k x x (Below.refl _ _) g1 g2).mono ?_⟩
    all_goals
      rintro e w' ⟨Al, cl, Ad, cd, he, hl, hd, hap, hb⟩
      exact ⟨Al, cl, Ad, cd, he, ⟨hl, hd, hap⟩, hb⟩
  clear h5
  go_enter Try.func8, Try.ntmps8
  go_wp2_with fail
  have kb := (Bk.new w 31 #[.int .i64 q, .int .i64 p, .int .i64 s, .slice A n c, .slice A' m c']).alloc (.cells #[.int .i64 kind, .int .i64 cpu, .int .i64 k] 47)
  have ko := Bk.new' (w.alloc (.cells #[.int .i64 q, .int .i64 p, .int .i64 s, .slice A n c, .slice A' m c'] 31)) (w.heap.size + 1) 47 #[.int .i64 kind, .int .i64 cpu, .int .i64 k] (by simp)
  refine (szBand_any q p s 1048576 A A' n m c c' (by omega) (by omega) hn hm _ _ (Below.refl _ _)).mono ?_
  rintro e w1 ⟨rfl, hb1⟩
  have kb1 := kb.below hb1 (by simp; omega)
  have ko1 := ko.below hb1 (by simp)
  have hz1 := hb1.size
  simp only [World.size_alloc] at hz1
  have hB1 : Below w.heap.size w w1 := (((Below.refl _ w).alloc (Nat.le_refl _) _).alloc (by simp) _).trans (hb1.mono (by simp; omega))
  have KB1 := Lib.hid kb1
  have KO1 := Lib.hid ko1
  have HB1 := Lib.hid hB1
  clear hb1 kb ko kb1 ko1 hB1
  go_upto_region 5 with fail
  go_cut [6, 7] (fun a b wx => VarAt C Q P S N (fun i => .int .i64 (F i)) (fun i => .bool (D i)) w1 a b wx)
  case first =>
    refine region_fr (by kernel_rfl) [22, 23, 24, 25, 26, 21, 27, 28, 6, 7] (fun a0 => a0.tmps.size = 104 ∧ a0.tmps[2]? = some (.pointer (some ⟨w.heap.size, 0, none⟩)) ∧ a0.tmps[3]? = some (.pointer (some ⟨w.heap.size + 1, 0, none⟩))) (fun l xs w' => ∃ B B' Al Ad d d' cl cd h, RegI C Q P S q p s N n m (fun i => .int .i64 (F i)) (fun i => .bool (D i)) (fun i => .int .i64 (f i)) (fun i => .bool (f' i)) (.agg #[.int .i64 q, .int .i64 p, .int .i64 s, .slice A n c, .slice A' m c']) (.agg #[.int .i64 kind, .int .i64 cpu, .int .i64 k]) w1 l w' (xs 22) (xs 23) (xs 24) (xs 25) (xs 26) (xs 21) (xs 27) (xs 28) (xs 6) (xs 7) B B' Al Ad d d' cl cd h) ⟨by rfl, by rfl, by rfl⟩ ?_ ?_ (by kernel_rfl) ?_
    · exact fun xs => ⟨none, none, none, none, 0, 0, 0, 0, 0, RegI.start _⟩
    · rintro a0 b xs l wc ⟨e0, e2, e3⟩ fr ⟨B, B', Al, Ad, d, d', cl, cd, h, r⟩ i hi
      have hlt := ready_lt hi
      have hnl := (mem_ready.1 hi).1
      have h11 : i = 0 ∨ i = 1 ∨ i = 2 ∨ i = 3 ∨ i = 4 ∨ i = 5 ∨ i = 6 ∨ i = 7 ∨ i = 8 ∨ i = 9 ∨ i = 10 := by have : i < 11 := hlt; omega
      clear hlt
      rcases h11 with rfl | rfl | rfl | rfl | rfl | rfl | rfl | rfl | rfl | rfl | rfl
      · refine wpOp_step rfl (fun K hK => ?_)
        obtain ⟨y0, y1, y2, y3, y4⟩ := (KB1.out.below r.bel KB1.out.lt).five
        have t2 := fr.ex (s := 2) (by decide) e2
        go_simp
        refine hK _ _ ⟨_, fr.put (s := 22) (by decide) _, _, _, _, _, _, _, _, _, _, r.i0⟩
      · refine wpOp_step rfl (fun K hK => ?_)
        have h0 := ready_seen (k := 0) hi (by kernel_rfl)
        have t22 : b.tmps[22]? = some (.agg #[.int .i64 q, .int .i64 p, .int .i64 s, .slice A n c, .slice A' m c']) := by rw [fr.in_ (s := 22) (by decide) (by omega)]; exact congrArg some (r.p0 h0)
        go_simp
        refine (toBand_any q p s A A' n m c c' (by omega) (by omega) f f' _ w (bel HB1.out r.bel) hA0.out hA0'.out).mono ?_
        rintro e wT ⟨ga, ga', rfl, hga, hga', hO, hO', hbT⟩
        refine hK _ _ ⟨_, fr.put (s := 23) (by decide) _, _, _, _, _, _, _, _, _, _, (r.go hbT).i1 hO.rw_ hO'.rw_⟩
      · refine wpOp_step rfl (fun K hK => ?_)
        obtain ⟨z0, z1, z2⟩ := three (KO1.out.below r.bel KO1.out.lt)
        have t3 := fr.ex (s := 3) (by decide) e3
        go_simp
        refine hK _ _ ⟨_, fr.put (s := 24) (by decide) _, _, _, _, _, _, _, _, _, _, r.i2⟩
      · refine wpOp_step rfl (fun K hK => ?_)
        have h2 := ready_seen (k := 2) hi (by kernel_rfl)
        have t24 : b.tmps[24]? = some (.agg #[.int .i64 kind, .int .i64 cpu, .int .i64 k]) := by rw [fr.in_ (s := 24) (by decide) (by omega)]; exact congrArg some (r.p2 h2)
        go_simp
        refine (toBandOp_any kind cpu k _ _ (Below.refl _ _)).mono ?_
        rintro e wO ⟨rfl, hbO⟩
        refine hK _ _ ⟨_, fr.put (s := 25) (by decide) _, _, _, _, _, _, _, _, _, _, (r.go hbO).i3⟩
      · refine wpOp_step rfl (fun K hK => ?_)
        have h1 := ready_seen (k := 1) hi (by kernel_rfl)
        have h3x := ready_seen (k := 3) hi (by kernel_rfl)
        obtain ⟨hv, hB⟩ := r.p1 h1
        obtain ⟨hB1, hB2⟩ := hB (not_seen hnl)
        have t23 : b.tmps[23]? = some (.agg #[.int .i64 q, .int .i64 p, .int .i64 s, .slice B n d, .slice B' m d']) := by rw [fr.in_ (s := 23) (by decide) (by omega)]; exact congrArg some hv
        have t25 : b.tmps[25]? = some (.agg #[.int .i64 kind, .int .i64 cpu, .int .i64 k]) := by rw [fr.in_ (s := 25) (by decide) (by omega)]; exact congrArg some (r.p3 h3x)
        go_simp
        refine (HS.out _ _ _ _ _ hB1 hB2).mono ?_
        rintro e wD ⟨El, e1, Ed, e2, rfl, hr, hbD⟩
        refine hK _ _ ⟨_, fr.put (s := 26) (by decide) _, _, _, _, _, _, _, _, _, _, (r.go hbD).i4 hnl (more2 hr r.bel.size) (fun h8 hN k hk => by have := (r.p8 h8).2.2.1; have := Rows2.ge hr hN k hk; omega)⟩
      · refine wpOp_step rfl (fun K hK => ?_)
        have h4 := ready_seen (k := 4) hi (by kernel_rfl)
        have t26 : b.tmps[26]? = some (xs 26) := fr.in_ (s := 26) (by decide) (by omega)
        go_simp
        refine hK _ _ ⟨_, fr.put (s := 21) (by decide) _, _, _, _, _, _, _, _, _, _, r.i5 h4⟩
      · refine wpOp_step rfl (fun K hK => ?_)
        have h5 := ready_seen (k := 5) hi (by kernel_rfl)
        obtain ⟨h4, hv⟩ := r.p5 h5
        have t21 : b.tmps[21]? = some (.tuple #[.agg #[.int .i64 Q, .int .i64 P, .int .i64 S, .slice Al N cl, .slice Ad N cd], .int .i64 C]) := by rw [fr.in_ (s := 21) (by decide) (by omega)]; exact congrArg some (hv.trans (r.p4 h4).1)
        go_simp
        refine hK _ _ ⟨_, fr.put (s := 27) (by decide) _, _, _, _, _, _, _, _, _, _, r.i6 h4⟩
      · refine wpOp_step rfl (fun K hK => ?_)
        have h5 := ready_seen (k := 5) hi (by kernel_rfl)
        obtain ⟨h4, hv⟩ := r.p5 h5
        have t21 : b.tmps[21]? = some (.tuple #[.agg #[.int .i64 Q, .int .i64 P, .int .i64 S, .slice Al N cl, .slice Ad N cd], .int .i64 C]) := by rw [fr.in_ (s := 21) (by decide) (by omega)]; exact congrArg some (hv.trans (r.p4 h4).1)
        go_simp
        refine hK _ _ ⟨_, fr.put (s := 28) (by decide) _, _, _, _, _, _, _, _, _, _, r.i7⟩
      · refine wpOp_step rfl (fun K hK => ?_)
        go_simp
        refine hK _ _ ⟨_, fr.put (s := 6) (by decide) _, _, _, _, _, _, _, _, _, _, r.i8 hnl⟩
      · refine wpOp_step rfl (fun K hK => ?_)
        have h8 := ready_seen (k := 8) hi (by kernel_rfl)
        have h6 := ready_seen (k := 6) hi (by kernel_rfl)
        obtain ⟨h4, hv⟩ := r.p6 h6
        obtain ⟨hp, _, _, hk0⟩ := r.p8 h8
        obtain ⟨v0, v1, v2, v3, v4⟩ := (hk0 (not_seen hnl)).five
        have vf := (hk0 (not_seen hnl)).frees
        have t6 : b.tmps[6]? = some (.pointer (some ⟨h, 0, none⟩)) := by rw [fr.in_ (s := 6) (by decide) (by omega)]; exact congrArg some hp
        have t27 : b.tmps[27]? = some (.agg #[.int .i64 Q, .int .i64 P, .int .i64 S, .slice Al N cl, .slice Ad N cd]) := by rw [fr.in_ (s := 27) (by decide) (by omega)]; exact congrArg some hv
        go_simp
        refine hK _ _ ⟨xs, fr, _, _, _, _, _, _, _, _, _, r.i9 hnl h4 h8⟩
      · refine wpOp_step rfl (fun K hK => ?_)
        have h7 := ready_seen (k := 7) hi (by kernel_rfl)
        have t28 : b.tmps[28]? = some (.int .i64 C) := by rw [fr.in_ (s := 28) (by decide) (by omega)]; exact congrArg some (r.p7 h7)
        go_simp
        refine hK _ _ ⟨_, fr.put (s := 7) (by decide) _, _, _, _, _, _, _, _, _, _, r.i10⟩
    · rintro xs l wc ⟨B, B', Al, Ad, d, d', cl, cd, h, r⟩ hall
      obtain ⟨_, hR⟩ := r.p4 (hall 4 (by decide))
      obtain ⟨hx6, hge, _, _⟩ := r.p8 (hall 8 (by decide))
      obtain ⟨_, _, hK⟩ := r.p9 (hall 9 (by decide))
      have hx7 := r.p10 (hall 10 (by decide))
      have hsep := r.p48 (hall 4 (by decide)) (hall 8 (by decide))
      have HV : Hid (VarAt C Q P S N (fun i => .int .i64 (F i)) (fun i => .bool (D i)) w1 (.pointer (some ⟨h, 0, none⟩)) (.int .i64 C) wc) := Lib.hid ⟨h, Al, cl, Ad, cd, rfl, rfl, hK, hR, hsep, hge, r.bel⟩
      clear hR hK hsep r hall hge
      simp only [List.foldl_cons, List.foldl_nil, List.setIfInBounds_toArray, List.set_cons_succ, List.set_cons_zero, hx6, hx7]
      go_wp2_with fail
      go_meet
      exact HV.out
  case rest =>
    rename World => w2
    obtain ⟨hW, Al, cl, Ad, cd, rfl, rfl, kw, hrw, hnw, hgw, hb2⟩ := hcut
    have KW2 := Lib.hid kw
    have RW2 := Lib.hid hrw
    have UW := Lib.hid hrw.ub
    have hWlt := kw.lt
    clear kw hrw hnw
    have HB2 := Lib.hid (bel HB1.out hb2)
    have KB2 := Lib.hid (KB1.out.below hb2 KB1.out.lt)
    have KO2 := Lib.hid (KO1.out.below hb2 KO1.out.lt)
    have HZ2 := hb2.size
    clear hb2 HB1 KB1 KO1
    go_wp2_with (first | refine wpList_load_row rfl 31 _ rfl (w.heap.size) rfl 31 _ (0, 0) _ KB2.out Try.underlying31 rfl (by kernel_rfl) ?_)
    refine (toBand_any q p s A A' n m c c' (by omega) (by omega) f f' _ w HB2.out hA0.out hA0'.out).mono ?_
    rintro e w3 ⟨g, g', rfl, hg, hg', hO, hO', hb3⟩
    have hrx : Rows3 w3 w2.heap.size (some ⟨g, 0, none⟩) (some ⟨g', 0, none⟩) n m (fun i => .int .i64 (f i)) (fun i => .bool (f' i)) := ⟨fun _ => ⟨g, rfl, hg, hO.ownV⟩, fun _ => ⟨g', rfl, by omega, hO'.ownV⟩, by rintro x ⟨o1, e1⟩ ⟨o2, e2⟩; simp at e1 e2; omega⟩
    have hglt := hO.lt
    have hglt' := hO'.lt
    have RX3 := Lib.hid hrx
    clear hrx hO hO'
    have HB3 := Lib.hid (bel HB2.out hb3)
    have KB3 := Lib.hid (KB2.out.below hb3 KB2.out.lt)
    have KO3 := Lib.hid (KO2.out.below hb3 KO2.out.lt)
    have KW3 := Lib.hid (KW2.out.below hb3 KW2.out.lt)
    have RW3 := Lib.hid (RW2.out.below hb3)
    have HZ3 := hb3.size
    clear hb3 HB2 KB2 KO2 KW2 RW2
    have K0 := Bk.new w3 25 #[.int .i64 q, .int .i64 p, .int .i64 s, .slice (some ⟨g, 0, none⟩) n n, .slice (some ⟨g', 0, none⟩) m m]
    have hb4 := (Below.refl w3.heap.size w3).alloc (Nat.le_refl _) (.cells #[.int .i64 q, .int .i64 p, .int .i64 s, .slice (some ⟨g, 0, none⟩) n n, .slice (some ⟨g', 0, none⟩) m m] 25)
    have KX4 := Lib.hid K0
    have HH := Lib.hid hb4
    clear K0 hb4
    go_upto_region 7 with fail
    have hb4 := HH.out
    clear HH
    generalize hw4 : w3.alloc _ = w4 at *
    have hlt4 : w3.heap.size < w4.heap.size := KX4.out.lt
    clear hw4
    have HB4 := Lib.hid (bel HB3.out hb4)
    have KB4 := Lib.hid (KB3.out.below hb4 KB3.out.lt)
    have KO4 := Lib.hid (KO3.out.below hb4 KO3.out.lt)
    have KW4 := Lib.hid (KW3.out.below hb4 KW3.out.lt)
    have RW4 := Lib.hid (RW3.out.below hb4)
    have RX4 := Lib.hid (RX3.out.below hb4)
    have HZ4 := hb4.size
    clear hb4 HB3 KB3 KO3 KW3 RW3 RX3
    go_cut [9, 10] (fun a b wx => VarAt C Q P S N (fun i => .int .i64 (F i)) (fun i => .bool (D i)) w4 a b wx)
    case first =>
      refine region_fr (by kernel_rfl) [32, 33, 34, 35, 31, 36, 37, 9, 10] (fun a0 => a0.tmps.size = 104 ∧ a0.tmps[8]? = some (.pointer (some ⟨w3.heap.size, 0, none⟩)) ∧ a0.tmps[3]? = some (.pointer (some ⟨w.heap.size + 1, 0, none⟩))) (fun l xs w' => ∃ B B' Al Ad d d' cl cd h, RegI C Q P S q p s N n m (fun i => .int .i64 (F i)) (fun i => .bool (D i)) (fun i => .int .i64 (f i)) (fun i => .bool (f' i)) (.agg #[.int .i64 q, .int .i64 p, .int .i64 s, .slice A n c, .slice A' m c']) (.agg #[.int .i64 kind, .int .i64 cpu, .int .i64 k]) w4 (pad l) w' undef (xs 32) (xs 33) (xs 34) (xs 35) (xs 31) (xs 36) (xs 37) (xs 9) (xs 10) B B' Al Ad d d' cl cd h) ⟨by rfl, by rfl, by rfl⟩ ?_ ?_ (by kernel_rfl) ?_
      · exact fun xs => ⟨none, none, none, none, 0, 0, 0, 0, 0, by rw [show pad (Array.replicate _ false) = _ from pad_new _]; exact RegI.start _⟩
      · rintro a0 b xs l wc ⟨e0, e8, e3⟩ fr ⟨B, B', Al, Ad, d, d', cl, cd, h, r⟩ i hi
        have hlt := ready_lt hi
        have hnl := (mem_ready.1 hi).1
        rw [← pad_getD] at hnl
        have h11 : i = 0 ∨ i = 1 ∨ i = 2 ∨ i = 3 ∨ i = 4 ∨ i = 5 ∨ i = 6 ∨ i = 7 ∨ i = 8 ∨ i = 9 := by have : i < 10 := hlt; omega
        clear hlt
        simp only [pad_set]
        rcases h11 with rfl | rfl | rfl | rfl | rfl | rfl | rfl | rfl | rfl | rfl
        · refine wpOp_step rfl (fun K hK => ?_)
          obtain ⟨y0, y1, y2, y3, y4⟩ := (KX4.out.below r.bel KX4.out.lt).five
          have t8 := fr.ex (s := 8) (by decide) e8
          have hB := RX4.out.1.rw_.at_ r.bel
          have hB' := RX4.out.2.1.rw_.at_ r.bel
          go_simp
          refine hK _ _ ⟨_, fr.put (s := 32) (by decide) _, _, _, _, _, _, _, _, _, _, r.i1 hB hB'⟩
        · refine wpOp_step rfl (fun K hK => ?_)
          obtain ⟨z0, z1, z2⟩ := three (KO4.out.below r.bel KO4.out.lt)
          have t3 := fr.ex (s := 3) (by decide) e3
          go_simp
          refine hK _ _ ⟨_, fr.put (s := 33) (by decide) _, _, _, _, _, _, _, _, _, _, r.i2⟩
        · refine wpOp_step rfl (fun K hK => ?_)
          have h2 := pad_seen (ready_seen (k := 1) hi (by kernel_rfl))
          have t33 : b.tmps[33]? = some (.agg #[.int .i64 kind, .int .i64 cpu, .int .i64 k]) := by rw [fr.in_ (s := 33) (by decide) (by omega)]; exact congrArg some (r.p2 h2)
          go_simp
          refine (toBandOp_any kind cpu k _ _ (Below.refl _ _)).mono ?_
          rintro e wO ⟨rfl, hbO⟩
          refine hK _ _ ⟨_, fr.put (s := 34) (by decide) _, _, _, _, _, _, _, _, _, _, (r.go hbO).i3⟩
        · refine wpOp_step rfl (fun K hK => ?_)
          have h1 := pad_seen (ready_seen (k := 0) hi (by kernel_rfl))
          have h3x := pad_seen (ready_seen (k := 2) hi (by kernel_rfl))
          obtain ⟨hv, hB⟩ := r.p1 h1
          obtain ⟨hB1, hB2⟩ := hB (not_seen hnl)
          have t32 : b.tmps[32]? = some (.agg #[.int .i64 q, .int .i64 p, .int .i64 s, .slice B n d, .slice B' m d']) := by rw [fr.in_ (s := 32) (by decide) (by omega)]; exact congrArg some hv
          have t34 : b.tmps[34]? = some (.agg #[.int .i64 kind, .int .i64 cpu, .int .i64 k]) := by rw [fr.in_ (s := 34) (by decide) (by omega)]; exact congrArg some (r.p3 h3x)
          go_simp
          refine (HI.out _ _ _ _ _ hB1 hB2).mono ?_
          rintro e wD ⟨El, e1, Ed, e2, rfl, hr, hbD⟩
          refine hK _ _ ⟨_, fr.put (s := 35) (by decide) _, _, _, _, _, _, _, _, _, _, (r.go hbD).i4 hnl (more2 hr r.bel.size) (fun h8 hN k hk => by have := (r.p8 h8).2.2.1; have := Rows2.ge hr hN k hk; omega)⟩
        · refine wpOp_step rfl (fun K hK => ?_)
          have h4 := pad_seen (ready_seen (k := 3) hi (by kernel_rfl))
          have t35 : b.tmps[35]? = some (xs 35) := fr.in_ (s := 35) (by decide) (by omega)
          go_simp
          refine hK _ _ ⟨_, fr.put (s := 31) (by decide) _, _, _, _, _, _, _, _, _, _, r.i5 h4⟩
        · refine wpOp_step rfl (fun K hK => ?_)
          have h5 := pad_seen (ready_seen (k := 4) hi (by kernel_rfl))
          obtain ⟨h4, hv⟩ := r.p5 h5
          have t31 : b.tmps[31]? = some (.tuple #[.agg #[.int .i64 Q, .int .i64 P, .int .i64 S, .slice Al N cl, .slice Ad N cd], .int .i64 C]) := by rw [fr.in_ (s := 31) (by decide) (by omega)]; exact congrArg some (hv.trans (r.p4 h4).1)
          go_simp
          refine hK _ _ ⟨_, fr.put (s := 36) (by decide) _, _, _, _, _, _, _, _, _, _, r.i6 h4⟩
        · refine wpOp_step rfl (fun K hK => ?_)
          have h5 := pad_seen (ready_seen (k := 4) hi (by kernel_rfl))
          obtain ⟨h4, hv⟩ := r.p5 h5
          have t31 : b.tmps[31]? = some (.tuple #[.agg #[.int .i64 Q, .int .i64 P, .int .i64 S, .slice Al N cl, .slice Ad N cd], .int .i64 C]) := by rw [fr.in_ (s := 31) (by decide) (by omega)]; exact congrArg some (hv.trans (r.p4 h4).1)
          go_simp
          refine hK _ _ ⟨_, fr.put (s := 37) (by decide) _, _, _, _, _, _, _, _, _, _, r.i7⟩
        · refine wpOp_step rfl (fun K hK => ?_)
          go_simp
          refine hK _ _ ⟨_, fr.put (s := 9) (by decide) _, _, _, _, _, _, _, _, _, _, r.i8 hnl⟩
        · refine wpOp_step rfl (fun K hK => ?_)
          have h8 := pad_seen (ready_seen (k := 7) hi (by kernel_rfl))
          have h6 := pad_seen (ready_seen (k := 5) hi (by kernel_rfl))
          obtain ⟨h4, hv⟩ := r.p6 h6
          obtain ⟨hp, _, _, hk0⟩ := r.p8 h8
          obtain ⟨v0, v1, v2, v3, v4⟩ := (hk0 (not_seen hnl)).five
          have vf := (hk0 (not_seen hnl)).frees
          have t9 : b.tmps[9]? = some (.pointer (some ⟨h, 0, none⟩)) := by rw [fr.in_ (s := 9) (by decide) (by omega)]; exact congrArg some hp
          have t36 : b.tmps[36]? = some (.agg #[.int .i64 Q, .int .i64 P, .int .i64 S, .slice Al N cl, .slice Ad N cd]) := by rw [fr.in_ (s := 36) (by decide) (by omega)]; exact congrArg some hv
          go_simp
          refine hK _ _ ⟨xs, fr, _, _, _, _, _, _, _, _, _, r.i9 hnl h4 h8⟩
        · refine wpOp_step rfl (fun K hK => ?_)
          have h7 := pad_seen (ready_seen (k := 6) hi (by kernel_rfl))
          have t37 : b.tmps[37]? = some (.int .i64 C) := by rw [fr.in_ (s := 37) (by decide) (by omega)]; exact congrArg some (r.p7 h7)
          go_simp
          refine hK _ _ ⟨_, fr.put (s := 10) (by decide) _, _, _, _, _, _, _, _, _, _, r.i10⟩
      · rintro xs l wc ⟨B, B', Al, Ad, d, d', cl, cd, h, r⟩ hall
        obtain ⟨_, hR⟩ := r.p4 (pad_seen (hall 3 (by decide)))
        obtain ⟨hx6, hge, _, _⟩ := r.p8 (pad_seen (hall 7 (by decide)))
        obtain ⟨_, _, hK⟩ := r.p9 (pad_seen (hall 8 (by decide)))
        have hx7 := r.p10 (pad_seen (hall 9 (by decide)))
        have hsep := r.p48 (pad_seen (hall 3 (by decide))) (pad_seen (hall 7 (by decide)))
        have HV : Hid (VarAt C Q P S N (fun i => .int .i64 (F i)) (fun i => .bool (D i)) w4 (.pointer (some ⟨h, 0, none⟩)) (.int .i64 C) wc) := Lib.hid ⟨h, Al, cl, Ad, cd, rfl, rfl, hK, hR, hsep, hge, r.bel⟩
        clear hR hK hsep r hall hge
        simp only [List.foldl_cons, List.foldl_nil, List.setIfInBounds_toArray, List.set_cons_succ, List.set_cons_zero, hx6, hx7]
        go_wp2_with fail
        go_meet
        exact HV.out
    case rest =>
      rename World => w5
      obtain ⟨hG, Gl, gl, Gd, gd, rfl, rfl, kw, hrw, hng, hgg, hb5⟩ := hcut
      have KG5 := Lib.hid kw
      have RG5 := Lib.hid hrw
      have NG := Lib.hid hng
      clear kw hrw hng
      have HB5 := Lib.hid (bel HB4.out hb5)
      have KB5 := Lib.hid (KB4.out.below hb5 KB4.out.lt)
      have KO5 := Lib.hid (KO4.out.below hb5 KO4.out.lt)
      have KW5 := Lib.hid (KW4.out.below hb5 KW4.out.lt)
      have RW5 := Lib.hid (RW4.out.below hb5)
      have RX5 := Lib.hid (RX4.out.below hb5)
      have KX5 := Lib.hid (KX4.out.below hb5 KX4.out.lt)
      have HZ5 := hb5.size
      clear hb5 HB4 KB4 KO4 KW4 RW4 RX4 KX4
      obtain ⟨a0, a1, a2, a3, a4⟩ := KG5.out.five
      obtain ⟨b0, b1, b2, b3, b4⟩ := KW5.out.five
      go_wp2_with fail
      refine (eqBand_t Q P S _ _ _ _ N N _ _ _ _ h3 h3 F D _ w5 (Below.refl _ _) RG5.out.1.rw_ RG5.out.2.1.rw_ RW5.out.1.rw_ RW5.out.2.1.rw_).mono ?_
      rintro e w6 ⟨rfl, hb6⟩
      clear a0 a1 a2 a3 a4 b0 b1 b2 b3 b4
      have HB6 := Lib.hid (bel HB5.out hb6)
      have KB6 := Lib.hid (KB5.out.below hb6 KB5.out.lt)
      have KO6 := Lib.hid (KO5.out.below hb6 KO5.out.lt)
      have KW6 := Lib.hid (KW5.out.below hb6 KW5.out.lt)
      have RW6 := Lib.hid (RW5.out.below hb6)
      have RX6 := Lib.hid (RX5.out.below hb6)
      have KX6 := Lib.hid (KX5.out.below hb6 KX5.out.lt)
      have KG6 := Lib.hid (KG5.out.below hb6 KG5.out.lt)
      have RG6 := Lib.hid (RG5.out.below hb6)
      have HZ6 := hb6.size
      clear hb6 HB5 KB5 KO5 KW5 RW5 RX5 KX5 KG5 RG5
      go_upto_region 10 with fail
      go_cut [51] (fun a wx => a = .bool false ∧ Below w6.heap.size w6 wx)
      case first =>
        obtain ⟨y0, y1, y2, y3, y4⟩ := KB6.out.five
        obtain ⟨z0, z1, z2, z3, z4⟩ := KX6.out.five
        go_region_with (first
          | (go_at_call 16; refine (toBand_any q p s A A' n m c c' (by omega) (by omega) f f' _ w ?_ hA0.out hA0'.out).mono ?_; (refine bel HB6.out ?_; repeat (first | with_reducible exact Below.refl _ _ | refine xAlloc ?_ _ | with_reducible refine xDrew ?_ | with_reducible refine bel ?_ hbE | with_reducible refine bel ?_ hbT)); rintro e wT ⟨ga, ga', rfl, hga, hga', hO, hO', hbT⟩; have HT : Below w6.heap.size w6 wT := (by repeat (first | with_reducible exact Below.refl _ _ | refine xAlloc ?_ _ | with_reducible refine xDrew ?_ | with_reducible refine bel ?_ hbE | with_reducible refine bel ?_ hbT)); have HO1 := Lib.hid hO.rw_; have HO1' := Lib.hid hO'.rw_; have kT := KX6.out.below HT KX6.out.lt; obtain ⟨_, _, _, _, _⟩ := kT.five; clear kT hO hO')
          | (go_at_call 11; refine (eqBand_t q p s _ _ _ _ n m _ _ _ _ (by omega) (by omega) f f' _ wT (Below.refl _ _) (RX6.out.1.rw_.at_ HT) (RX6.out.2.1.rw_.at_ HT) HO1.out HO1'.out).mono ?_; rintro e wE ⟨rfl, hbE⟩))
        all_goals
          go_wp2_with fail
          go_meet
          exact ⟨rfl, bel HT hbE⟩
      case rest =>
        rename World => w7
        obtain ⟨rfl, hb7⟩ := hcut
        have HB7 := Lib.hid (bel HB6.out hb7)
        have KB7 := Lib.hid (KB6.out.below hb7 KB6.out.lt)
        have KO7 := Lib.hid (KO6.out.below hb7 KO6.out.lt)
        have KW7 := Lib.hid (KW6.out.below hb7 KW6.out.lt)
        have RW7 := Lib.hid (RW6.out.below hb7)
        have RX7 := Lib.hid (RX6.out.below hb7)
        have KX7 := Lib.hid (KX6.out.below hb7 KX6.out.lt)
        have KG7 := Lib.hid (KG6.out.below hb7 KG6.out.lt)
        have RG7 := Lib.hid (RG6.out.below hb7)
        have HZ7 := hb7.size
        clear hb7 HB6 KB6 KO6 KW6 RW6 RX6 KX6 KG6 RG6
        go_wp2_with (first | refine wpList_load_row rfl 25 _ rfl (w3.heap.size) rfl 25 _ (0, 0) _ KX7.out Try.underlying25 rfl (by kernel_rfl) ?_)
        refine (markBand3_any q p s _ _ n m n m w2.heap.size 1 (by omega) (by omega) h2n h2m _ _ w7 RX7.out).mono ?_
        rintro e w8 ⟨rfl, hk8⟩
        clear RX7
        have HB8 := Lib.hid (HB7.out.trans (hk8.below HB7.out.size (fun b hb => by have := hb.ge; omega)))
        have KB8 := Lib.hid (KB7.out.kept hk8 (by intro h; have := h.ge; omega))
        have KO8 := Lib.hid (KO7.out.kept hk8 (by intro h; have := h.ge; omega))
        have KW8 := Lib.hid (KW7.out.kept hk8 (by intro h; have := h.ge; omega))
        have RW8 := Lib.hid (RW7.out.kept hk8 (by intro hn k hB hh h; have := h.ge; have := UW.out hn k hh; omega))
        have KX8 := Lib.hid (KX7.out.kept hk8 (by intro h; rcases h.hd with ⟨o, e⟩ | ⟨o, e⟩ <;> (simp at e <;> omega)))
        have KG8 := Lib.hid (KG7.out.kept hk8 (by intro h; rcases h.hd with ⟨o, e⟩ | ⟨o, e⟩ <;> (simp at e <;> omega)))
        have RG8 := Lib.hid (RG7.out.kept hk8 (by intro hn k hB hh h; rcases h.hd with ⟨o, e⟩ | ⟨o, e⟩ <;> (simp at e <;> omega)))
        have HZ8 := hk8.size
        clear hk8 HB7 KB7 KO7 KW7 RW7 KX7 KG7 RG7
        have hm1 : ¬ (1 : Int) + n + m < 0 := by omega
        obtain ⟨a0, a1, a2, a3, a4⟩ := KG8.out.five
        obtain ⟨b0, b1, b2, b3, b4⟩ := KW8.out.five
        go_wp2_with fail
        refine (eqBand_t Q P S _ _ _ _ N N _ _ _ _ h3 h3 F D _ w8 (Below.refl _ _) RG8.out.1.rw_ RG8.out.2.1.rw_ RW8.out.1.rw_ RW8.out.2.1.rw_).mono ?_
        rintro e w9 ⟨rfl, hb9⟩
        clear a0 a1 a2 a3 a4 b0 b1 b2 b3 b4
        have HB9 := Lib.hid (bel HB8.out hb9)
        have KB9 := Lib.hid (KB8.out.below hb9 KB8.out.lt)
        have KO9 := Lib.hid (KO8.out.below hb9 KO8.out.lt)
        have KW9 := Lib.hid (KW8.out.below hb9 KW8.out.lt)
        have RW9 := Lib.hid (RW8.out.below hb9)
        have KX9 := Lib.hid (KX8.out.below hb9 KX8.out.lt)
        have KG9 := Lib.hid (KG8.out.below hb9 KG8.out.lt)
        have RG9 := Lib.hid (RG8.out.below hb9)
        have HZ9 := hb9.size
        clear hb9 HB8 KB8 KO8 KW8 RW8 KX8 KG8 RG8
        go_wp2_with (first | refine wpList_load_row rfl 25 _ rfl (hG) rfl 25 _ (0, 0) _ KG9.out Try.underlying25 rfl (by kernel_rfl) ?_)
        refine (markBand_any Q P S Gl Gd N gl gd w4.heap.size 1 (by omega) (by omega) h3 _ _ w9 RG9.out).mono ?_
        rintro e w10 ⟨rfl, hk10, ho10⟩
        have RG10 := Lib.hid ho10
        clear RG9 ho10
        have HB10 := Lib.hid (HB9.out.trans (hk10.below HB9.out.size (fun b hb => by have := hb.2.1; omega)))
        have KB10 := Lib.hid (KB9.out.kept hk10 (by intro h; have := h.2.1; omega))
        have KO10 := Lib.hid (KO9.out.kept hk10 (by intro h; have := h.2.1; omega))
        have KW10 := Lib.hid (KW9.out.kept hk10 (by intro h; have := h.2.1; omega))
        have RW10 := Lib.hid (RW9.out.kept hk10 (by intro hn k hB hh h; have := h.2.1; have := UW.out hn k hh; omega))
        have KX10 := Lib.hid (KX9.out.kept hk10 (by intro h; have := h.2.1; omega))
        have KG10 := Lib.hid (KG9.out.kept hk10 (by intro h; exact NG.out h.1 _ h.2.2 rfl))
        have HZ10 := hk10.size
        clear hk10 HB9 KB9 KO9 KW9 RW9 KX9 KG9
        have hm2 : ¬ (1 : Int) + N + N < 0 := by omega
        go_wp2_with (first | refine wpList_load_row rfl 25 _ rfl (hG) rfl 25 _ (0, 0) _ KG10.out Try.underlying25 rfl (by kernel_rfl) ?_)
        refine (heldBand_any Q P S Gl Gd N gl gd 1 (by omega) (by omega) h3 _ w10 (Below.refl _ _) RG10.out.1.rw_ RG10.out.2.1.rw_).mono ?_
        rintro e w11 ⟨rfl, hb11⟩
        have HB11 := Lib.hid (bel HB10.out hb11)
        have KB11 := Lib.hid (KB10.out.below hb11 KB10.out.lt)
        have KO11 := Lib.hid (KO10.out.below hb11 KO10.out.lt)
        have KW11 := Lib.hid (KW10.out.below hb11 KW10.out.lt)
        have RW11 := Lib.hid (RW10.out.below hb11)
        have KX11 := Lib.hid (KX10.out.below hb11 KX10.out.lt)
        have KG11 := Lib.hid (KG10.out.below hb11 KG10.out.lt)
        have RG11 := Lib.hid (RG10.out.below hb11)
        have HZ11 := hb11.size
        clear hb11 HB10 KB10 KO10 KW10 RW10 KX10 KG10 RG10
        go_upto_region 24 with fail
        go_cut [14, 15] (fun a b wx => VarAt C Q P S N (fun i => .int .i64 (F i)) (fun i => .bool (D i)) w11 a b wx)
        case first =>
          refine region_fr (by kernel_rfl) [80, 81, 82, 83, 84, 79, 85, 86, 14, 15] (fun a0 => a0.tmps.size = 104 ∧ a0.tmps[2]? = some (.pointer (some ⟨w.heap.size, 0, none⟩)) ∧ a0.tmps[3]? = some (.pointer (some ⟨w.heap.size + 1, 0, none⟩))) (fun l xs w' => ∃ B B' Al Ad d d' cl cd h, RegI C Q P S q p s N n m (fun i => .int .i64 (F i)) (fun i => .bool (D i)) (fun i => .int .i64 (f i)) (fun i => .bool (f' i)) (.agg #[.int .i64 q, .int .i64 p, .int .i64 s, .slice A n c, .slice A' m c']) (.agg #[.int .i64 kind, .int .i64 cpu, .int .i64 k]) w11 l w' (xs 80) (xs 81) (xs 82) (xs 83) (xs 84) (xs 79) (xs 85) (xs 86) (xs 14) (xs 15) B B' Al Ad d d' cl cd h) ⟨by rfl, by rfl, by rfl⟩ ?_ ?_ (by kernel_rfl) ?_
          · exact fun xs => ⟨none, none, none, none, 0, 0, 0, 0, 0, RegI.start _⟩
          · rintro a0 b xs l wc ⟨e0, e2, e3⟩ fr ⟨B, B', Al, Ad, d, d', cl, cd, h, r⟩ i hi
            have hlt := ready_lt hi
            have hnl := (mem_ready.1 hi).1
            have h11 : i = 0 ∨ i = 1 ∨ i = 2 ∨ i = 3 ∨ i = 4 ∨ i = 5 ∨ i = 6 ∨ i = 7 ∨ i = 8 ∨ i = 9 ∨ i = 10 := by have : i < 11 := hlt; omega
            clear hlt
            rcases h11 with rfl | rfl | rfl | rfl | rfl | rfl | rfl | rfl | rfl | rfl | rfl
            · refine wpOp_step rfl (fun K hK => ?_)
              obtain ⟨y0, y1, y2, y3, y4⟩ := (KB11.out.below r.bel KB11.out.lt).five
              have t2 := fr.ex (s := 2) (by decide) e2
              go_simp
              refine hK _ _ ⟨_, fr.put (s := 80) (by decide) _, _, _, _, _, _, _, _, _, _, r.i0⟩
            · refine wpOp_step rfl (fun K hK => ?_)
              have h0 := ready_seen (k := 0) hi (by kernel_rfl)
              have t80 : b.tmps[80]? = some (.agg #[.int .i64 q, .int .i64 p, .int .i64 s, .slice A n c, .slice A' m c']) := by rw [fr.in_ (s := 80) (by decide) (by omega)]; exact congrArg some (r.p0 h0)
              go_simp
              refine (toBand_any q p s A A' n m c c' (by omega) (by omega) f f' _ w (bel HB11.out r.bel) hA0.out hA0'.out).mono ?_
              rintro e wT ⟨ga, ga', rfl, hga, hga', hO, hO', hbT⟩
              refine hK _ _ ⟨_, fr.put (s := 81) (by decide) _, _, _, _, _, _, _, _, _, _, (r.go hbT).i1 hO.rw_ hO'.rw_⟩
            · refine wpOp_step rfl (fun K hK => ?_)
              obtain ⟨z0, z1, z2⟩ := three (KO11.out.below r.bel KO11.out.lt)
              have t3 := fr.ex (s := 3) (by decide) e3
              go_simp
              refine hK _ _ ⟨_, fr.put (s := 82) (by decide) _, _, _, _, _, _, _, _, _, _, r.i2⟩
            · refine wpOp_step rfl (fun K hK => ?_)
              have h2 := ready_seen (k := 2) hi (by kernel_rfl)
              have t82 : b.tmps[82]? = some (.agg #[.int .i64 kind, .int .i64 cpu, .int .i64 k]) := by rw [fr.in_ (s := 82) (by decide) (by omega)]; exact congrArg some (r.p2 h2)
              go_simp
              refine (toBandOp_any kind cpu k _ _ (Below.refl _ _)).mono ?_
              rintro e wO ⟨rfl, hbO⟩
              refine hK _ _ ⟨_, fr.put (s := 83) (by decide) _, _, _, _, _, _, _, _, _, _, (r.go hbO).i3⟩
            · refine wpOp_step rfl (fun K hK => ?_)
              have h1 := ready_seen (k := 1) hi (by kernel_rfl)
              have h3x := ready_seen (k := 3) hi (by kernel_rfl)
              obtain ⟨hv, hB⟩ := r.p1 h1
              obtain ⟨hB1, hB2⟩ := hB (not_seen hnl)
              have t81 : b.tmps[81]? = some (.agg #[.int .i64 q, .int .i64 p, .int .i64 s, .slice B n d, .slice B' m d']) := by rw [fr.in_ (s := 81) (by decide) (by omega)]; exact congrArg some hv
              have t83 : b.tmps[83]? = some (.agg #[.int .i64 kind, .int .i64 cpu, .int .i64 k]) := by rw [fr.in_ (s := 83) (by decide) (by omega)]; exact congrArg some (r.p3 h3x)
              go_simp
              refine (HI.out _ _ _ _ _ hB1 hB2).mono ?_
              rintro e wD ⟨El, e1, Ed, e2, rfl, hr, hbD⟩
              refine hK _ _ ⟨_, fr.put (s := 84) (by decide) _, _, _, _, _, _, _, _, _, _, (r.go hbD).i4 hnl (more2 hr r.bel.size) (fun h8 hN k hk => by have := (r.p8 h8).2.2.1; have := Rows2.ge hr hN k hk; omega)⟩
            · refine wpOp_step rfl (fun K hK => ?_)
              have h4 := ready_seen (k := 4) hi (by kernel_rfl)
              have t84 : b.tmps[84]? = some (xs 84) := fr.in_ (s := 84) (by decide) (by omega)
              go_simp
              refine hK _ _ ⟨_, fr.put (s := 79) (by decide) _, _, _, _, _, _, _, _, _, _, r.i5 h4⟩
            · refine wpOp_step rfl (fun K hK => ?_)
              have h5 := ready_seen (k := 5) hi (by kernel_rfl)
              obtain ⟨h4, hv⟩ := r.p5 h5
              have t79 : b.tmps[79]? = some (.tuple #[.agg #[.int .i64 Q, .int .i64 P, .int .i64 S, .slice Al N cl, .slice Ad N cd], .int .i64 C]) := by rw [fr.in_ (s := 79) (by decide) (by omega)]; exact congrArg some (hv.trans (r.p4 h4).1)
              go_simp
              refine hK _ _ ⟨_, fr.put (s := 85) (by decide) _, _, _, _, _, _, _, _, _, _, r.i6 h4⟩
            · refine wpOp_step rfl (fun K hK => ?_)
              have h5 := ready_seen (k := 5) hi (by kernel_rfl)
              obtain ⟨h4, hv⟩ := r.p5 h5
              have t79 : b.tmps[79]? = some (.tuple #[.agg #[.int .i64 Q, .int .i64 P, .int .i64 S, .slice Al N cl, .slice Ad N cd], .int .i64 C]) := by rw [fr.in_ (s := 79) (by decide) (by omega)]; exact congrArg some (hv.trans (r.p4 h4).1)
              go_simp
              refine hK _ _ ⟨_, fr.put (s := 86) (by decide) _, _, _, _, _, _, _, _, _, _, r.i7⟩
            · refine wpOp_step rfl (fun K hK => ?_)
              go_simp
              refine hK _ _ ⟨_, fr.put (s := 14) (by decide) _, _, _, _, _, _, _, _, _, _, r.i8 hnl⟩
            · refine wpOp_step rfl (fun K hK => ?_)
              have h8 := ready_seen (k := 8) hi (by kernel_rfl)
              have h6 := ready_seen (k := 6) hi (by kernel_rfl)
              obtain ⟨h4, hv⟩ := r.p6 h6
              obtain ⟨hp, _, _, hk0⟩ := r.p8 h8
              obtain ⟨v0, v1, v2, v3, v4⟩ := (hk0 (not_seen hnl)).five
              have vf := (hk0 (not_seen hnl)).frees
              have t14 : b.tmps[14]? = some (.pointer (some ⟨h, 0, none⟩)) := by rw [fr.in_ (s := 14) (by decide) (by omega)]; exact congrArg some hp
              have t85 : b.tmps[85]? = some (.agg #[.int .i64 Q, .int .i64 P, .int .i64 S, .slice Al N cl, .slice Ad N cd]) := by rw [fr.in_ (s := 85) (by decide) (by omega)]; exact congrArg some hv
              go_simp
              refine hK _ _ ⟨xs, fr, _, _, _, _, _, _, _, _, _, r.i9 hnl h4 h8⟩
            · refine wpOp_step rfl (fun K hK => ?_)
              have h7 := ready_seen (k := 7) hi (by kernel_rfl)
              have t86 : b.tmps[86]? = some (.int .i64 C) := by rw [fr.in_ (s := 86) (by decide) (by omega)]; exact congrArg some (r.p7 h7)
              go_simp
              refine hK _ _ ⟨_, fr.put (s := 15) (by decide) _, _, _, _, _, _, _, _, _, _, r.i10⟩
          · rintro xs l wc ⟨B, B', Al, Ad, d, d', cl, cd, h, r⟩ hall
            obtain ⟨_, hR⟩ := r.p4 (hall 4 (by decide))
            obtain ⟨hx6, hge, _, _⟩ := r.p8 (hall 8 (by decide))
            obtain ⟨_, _, hK⟩ := r.p9 (hall 9 (by decide))
            have hx7 := r.p10 (hall 10 (by decide))
            have hsep := r.p48 (hall 4 (by decide)) (hall 8 (by decide))
            have HV : Hid (VarAt C Q P S N (fun i => .int .i64 (F i)) (fun i => .bool (D i)) w11 (.pointer (some ⟨h, 0, none⟩)) (.int .i64 C) wc) := Lib.hid ⟨h, Al, cl, Ad, cd, rfl, rfl, hK, hR, hsep, hge, r.bel⟩
            clear hR hK hsep r hall hge
            simp only [List.foldl_cons, List.foldl_nil, List.setIfInBounds_toArray, List.set_cons_succ, List.set_cons_zero, hx6, hx7]
            go_wp2_with fail
            go_meet
            exact HV.out
        case rest =>
          rename World => w12
          obtain ⟨hH, Hl, hl, Hd, hd_, rfl, rfl, kw, hrw, hnh, hgh, hb12⟩ := hcut
          have KH12 := Lib.hid kw
          have RH12 := Lib.hid hrw
          clear kw hrw hnh
          have HB12 := Lib.hid (bel HB11.out hb12)
          have KB12 := Lib.hid (KB11.out.below hb12 KB11.out.lt)
          have KO12 := Lib.hid (KO11.out.below hb12 KO11.out.lt)
          have KW12 := Lib.hid (KW11.out.below hb12 KW11.out.lt)
          have RW12 := Lib.hid (RW11.out.below hb12)
          have KX12 := Lib.hid (KX11.out.below hb12 KX11.out.lt)
          have KG12 := Lib.hid (KG11.out.below hb12 KG11.out.lt)
          have RG12 := Lib.hid (RG11.out.below hb12)
          have HZ12 := hb12.size
          clear hb12 HB11 KB11 KO11 KW11 RW11 KX11 KG11 RG11
          obtain ⟨a0, a1, a2, a3, a4⟩ := KH12.out.five
          obtain ⟨b0, b1, b2, b3, b4⟩ := KW12.out.five
          go_wp2_with fail
          refine (eqBand_t Q P S _ _ _ _ N N _ _ _ _ h3 h3 F D _ w12 (Below.refl _ _) RH12.out.1.rw_ RH12.out.2.1.rw_ RW12.out.1.rw_ RW12.out.2.1.rw_).mono ?_
          rintro e w13 ⟨rfl, hb13⟩
          clear a0 a1 a2 a3 a4 b0 b1 b2 b3 b4
          have HB13 := Lib.hid (bel HB12.out hb13)
          have KB13 := Lib.hid (KB12.out.below hb13 KB12.out.lt)
          have KO13 := Lib.hid (KO12.out.below hb13 KO12.out.lt)
          have KW13 := Lib.hid (KW12.out.below hb13 KW12.out.lt)
          have RW13 := Lib.hid (RW12.out.below hb13)
          have KX13 := Lib.hid (KX12.out.below hb13 KX12.out.lt)
          have KG13 := Lib.hid (KG12.out.below hb13 KG12.out.lt)
          have RG13 := Lib.hid (RG12.out.below hb13)
          have KH13 := Lib.hid (KH12.out.below hb13 KH12.out.lt)
          have RH13 := Lib.hid (RH12.out.below hb13)
          have HZ13 := hb13.size
          clear hb13 HB12 KB12 KO12 KW12 RW12 KX12 KG12 RG12 KH12 RH12
          go_wp2_with (first | refine wpList_load_row rfl 25 _ rfl (hG) rfl 25 _ (0, 0) _ KG13.out Try.underlying25 rfl (by kernel_rfl) ?_)
          refine (heldBand_any Q P S Gl Gd N gl gd 1 (by omega) (by omega) h3 _ w13 (Below.refl _ _) RG13.out.1.rw_ RG13.out.2.1.rw_).mono ?_
          rintro e w14 ⟨rfl, hb14⟩
          have HB14 := Lib.hid (bel HB13.out hb14)
          have KB14 := Lib.hid (KB13.out.below hb14 KB13.out.lt)
          have KO14 := Lib.hid (KO13.out.below hb14 KO13.out.lt)
          have KW14 := Lib.hid (KW13.out.below hb14 KW13.out.lt)
          have RW14 := Lib.hid (RW13.out.below hb14)
          have KX14 := Lib.hid (KX13.out.below hb14 KX13.out.lt)
          have KG14 := Lib.hid (KG13.out.below hb14 KG13.out.lt)
          have RG14 := Lib.hid (RG13.out.below hb14)
          have KH14 := Lib.hid (KH13.out.below hb14 KH13.out.lt)
          have RH14 := Lib.hid (RH13.out.below hb14)
          have HZ14 := hb14.size
          clear hb14 HB13 KB13 KO13 KW13 RW13 KX13 KG13 RG13 KH13 RH13
          go_wp2
          go_ret
          exact ⟨rfl, HB14.out⟩
theorem own : ownKnob Try.prog.godebug = none := by kernel_rfl
theorem laidOut : laidOutB Try.prog = true := by kernel_rfl
set_option maxRecDepth 100000 in
theorem lifted (os : Os) (started : os.Started) (H : Type) (enc : TypeId × Value → H) :
    ReturnsInHanded {} Try.checked os 8 .any (Rows.fnExactBandDoSpec.pre6 enc Try.prog Try.f8 Rows.fnExactBandDoRow.domain false) (Rows.fnExactBandDoSpec.post enc Try.prog Try.f8 false true false false) := by
  refine returnsInHanded_of_change (C := Try.checked) own started (by kernel_rfl) Try.func8
    (ChangeSpec.witness6 (enc := enc) (C := Try.checked) false ⟨#[], #[.agg #[.int .i64 0, .int .i64 0, .int .i64 0, .slice none 0 0, .slice none 0 0], .agg #[.int .i64 0, .int .i64 0, .int .i64 0]], []⟩ 8 (by kernel_rfl) (by kernel_rfl) (by kernel_rfl) (by kernel_rfl)) ?_
  intro W base args ds gs before hval0 hW hcnd _
  have hval : ∀ (j : Nat) t v, Try.f8.params[j]? = some t → args[j]? = some v → Value.okWide Try.prog W .any base t v := hval0
  have hW' := hW
  obtain ⟨p, q, hA0, hV, rfl, hfz, hnd⟩ := hW
  have hA : DataW.TrodAll enc Try.prog W 0 (fun _ => true) true Try.f8.params.toList args.toList ds p := hA0
  rw [Try.params8] at hA hval
  obtain ⟨v0, vs0, d0, ds0, p0, q0, hargs, rfl, rfl, h0, r0⟩ := trodAll_cons hA
  obtain ⟨v1, vs1, d1, ds1, p1, q1, rfl, rfl, rfl, h1, r1⟩ := trodAll_cons r0
  obtain ⟨rfl, rfl, rfl⟩ := trodAll_nil r1
  obtain rfl : args = #[v0, v1] := by cases args; simp_all
  obtain ⟨rfl, rfl⟩ := trodVars_none hV
  have k0 := h0
  have lt0 : ∀ x ∈ p0, x.block < W.heap.size := by obtain ⟨m, hm⟩ := k0; exact DataW.trod_lt m _ _ _ hm
  obtain ⟨qx0, px0, sx0, Ax0, A_x0, nx0, mx0, cx0, c_x0, fx0, f_x0, rfl, hnx0, hmx0, hAx0, hA_x0⟩ := open_lawsBand (hval 0 31 v0 rfl rfl) h0
  have k1 := h1
  have lt1 : ∀ x ∈ p1, x.block < W.heap.size := by obtain ⟨m, hm⟩ := k1; exact DataW.trod_lt m _ _ _ hm
  obtain ⟨kax1, kbx1, kcx1, rfl, _tox1⟩ := open_lawsBandOp (hval 1 47 v1 rfl rfl) h1
  clear hA0 hval0
  refine (walk qx0 px0 sx0 Ax0 A_x0 nx0 mx0 cx0 c_x0 fx0 f_x0 kax1 kbx1 kcx1 W hnx0 hmx0 hAx0 hA_x0 _tox1).mono fun e W' ⟨he, bel⟩ => ?_
  subst he
  exact ⟨_, rfl, _, _, _, [], _, [], hW', trodAll_mk1 (shut_bool Try.underlying4 _), (trodAll_cons_mk (Below.trod laidOut (by kernel_rfl) (of_decide_eq_true (by kernel_rfl)) k0 bel lt0) (trodAll_cons_mk (Below.trod laidOut (by kernel_rfl) (of_decide_eq_true (by kernel_rfl)) k1 bel lt1) trodAll_mk0)), rfl, bel.frame _, fun h => by cases h⟩
theorem over : Rows.fnExactBandDoRow.holds Try.pinned (OpenSpec.ofChange Rows.fnExactBandDoSpec) :=
  OpenClaim.holds_of_wide 8 Try.f8 rfl rfl rfl rfl rfl rfl rfl ⟨rfl, rfl, rfl, rfl, rfl⟩ rfl rfl rfl rfl rfl (by kernel_rfl) Try.func8 (by kernel_rfl)
    (of_decide_eq_true (by kernel_rfl)) (by unfold Func.isWrapper; first | (rw [if_pos (by decide +kernel)]; kernel_rfl) | (rw [if_neg (by decide +kernel)]; exact ⟨rfl, rfl⟩))
    (fun os started H enc _ => lifted os started H enc)
theorem proved : Rows.FnExactBandDoSaid := over
end Go.Proofs.Ytbgmjcfnehnicaa.fnExactBandDo

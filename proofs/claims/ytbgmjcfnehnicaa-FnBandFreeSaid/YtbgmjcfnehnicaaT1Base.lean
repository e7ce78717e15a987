/- Draws of bands: a drawn operation. -/
import Derived.Test.YtbgmjcfnehnicaaB22Base
import Derived.Test.YtbgmjcfnehnicaaD1Base
namespace Go.Proofs.Ytbgmjcfnehnicaa
open Go.RowKit
/-- What a drawn operation leaves. -/
def OpP (g : Nat) (p : Int) (w : World) (e : Ending) (w' : World) : Prop :=
  ∃ kind cpu k p' : Int, e = .returned (.agg #[.int .i64 kind, .int .i64 cpu, .int .i64 k]) ∧ -1 ≤ kind ∧ kind ≤ 5 ∧ -1 ≤ cpu ∧ cpu ≤ 3 ∧ -1 ≤ k ∧ k ≤ 21 ∧ p ≤ p' ∧ p' ≤ p + 10 ∧ RdAt w' g p' ∧ Kept (isG g) w w'
theorem RdAt.lt {w : World} {g : Nat} {p : Int} (h : RdAt w g p) : g < w.heap.size := by
  obtain ⟨A, n, c, z, h1, _⟩ := h
  exact h1.lt
def kindL : List Int := [1, 1, 1, 2, 2, 2, 3, 4]
def countL : List Int := [1, 2, 5, 10, 19, 20, 21, 0, -1]
theorem ofL (xs : List Int) (lo hi : Int) (hb : ∀ x ∈ xs, lo ≤ x ∧ x ≤ hi) (v : Int) (h0 : 0 ≤ v) (h1 : v < xs.length) : ∃ x, lo ≤ x ∧ x ≤ hi ∧ (xs.map fun x => Value.int .i64 x).toArray[v.toNat]? = some (.int .i64 x) := by
  have hl : v.toNat < xs.length := by omega
  have hm := List.getElem_mem hl
  refine ⟨xs[v.toNat], (hb _ hm).1, (hb _ hm).2, ?_⟩
  simp [List.getElem?_eq_getElem hl]
abbrev zeroOp : Array Value := #[.int .i64 0, .int .i64 0, .int .i64 0]
abbrev kindA : Array Value := #[.int .i64 1, .int .i64 1, .int .i64 1, .int .i64 2, .int .i64 2, .int .i64 2, .int .i64 3, .int .i64 4]
abbrev countA : Array Value := #[.int .i64 1, .int .i64 2, .int .i64 5, .int .i64 10, .int .i64 19, .int .i64 20, .int .i64 21, .int .i64 0, .int .i64 (-1)]
/-- Where the drawing of an operation stands after at most i picks. -/
structure StO (g : Nat) (p : Int) (w : World) (i : Nat) (w' : World) : Prop where
  rd : ∃ p' : Int, p ≤ p' ∧ p' ≤ p + i ∧ RdAt w' g p'
  kept : Kept (isG g) w w'
  res : Bk w' w.heap.size 44 zeroOp
  ks : Bk w' (w.heap.size + 1) 3 kindA
theorem StO.alloc {g i : Nat} {p : Int} {w w' : World} (h : StO g p w i w') (o : Obj) : StO g p w i (w'.alloc o) := by
  obtain ⟨p', h1, h2, h3⟩ := h.rd
  exact ⟨⟨p', h1, h2, h3.below ((Below.refl _ w').alloc (Nat.le_refl _) o)⟩, h.kept.alloc o, h.res.alloc o, h.ks.alloc o⟩
theorem pick_st {g i : Nat} {p : Int} {w w' : World} (hg : g < w.heap.size) (hp0 : 0 ≤ p) (hp : p ≤ 900000000) (m : Int) (hm0 : 1 ≤ m) (hm : m ≤ 1000000) (hi : i ≤ 1000) (h : StO g p w i w') :
    Calls Try.prog 39 #[.pointer (some ⟨g, 0, none⟩), .int .i64 m] w' fun e w'' => ∃ v : Int, e = .returned (.int .i64 v) ∧ 0 ≤ v ∧ v < m ∧ StO g p w (i + 1) w'' ∧ Kept (isG g) w' w'' := by
  obtain ⟨p', h1, h2, h3⟩ := h.rd
  refine (pick_any g p' m (by omega) (by omega) hm0 hm w' h3).mono ?_
  rintro e w'' ⟨v, he, v0, v1, hr, hk⟩
  exact ⟨v, he, v0, v1, ⟨⟨p' + 1, by omega, by omega, hr⟩, h.kept.trans (hk.mono fun k _ h => h), h.res.kept hk (by unfold isG; omega), h.ks.kept hk (by unfold isG; omega)⟩, hk⟩
theorem StO.fin {g i : Nat} {p : Int} {w w' : World} (h : StO g p w i w') (hg : g < w.heap.size) (hi : i ≤ 10) (a b c : Int) (a0 : -1 ≤ a) (a1 : a ≤ 5) (b0 : -1 ≤ b) (b1 : b ≤ 3) (c0 : -1 ≤ c) (c1 : c ≤ 21) :
    Bk (((w'.setCell ⟨w.heap.size, 0, none⟩ (.int .i64 a)).setCell ⟨w.heap.size, 1, none⟩ (.int .i64 b)).setCell ⟨w.heap.size, 2, none⟩ (.int .i64 c)) w.heap.size 44 #[.int .i64 a, .int .i64 b, .int .i64 c] ∧
    OpP g p w (.returned (.agg #[.int .i64 a, .int .i64 b, .int .i64 c])) (((w'.setCell ⟨w.heap.size, 0, none⟩ (.int .i64 a)).setCell ⟨w.heap.size, 1, none⟩ (.int .i64 b)).setCell ⟨w.heap.size, 2, none⟩ (.int .i64 c)) := by
  obtain ⟨p', h1, h2, h3⟩ := h.rd
  have ee : ∀ o, (fun b => b = w.heap.size) (⟨w.heap.size, o, none⟩ : Addr).block := fun _ => rfl
  have hk : Kept (fun b => b = w.heap.size) w' (((w'.setCell ⟨w.heap.size, 0, none⟩ (.int .i64 a)).setCell ⟨w.heap.size, 1, none⟩ (.int .i64 b)).setCell ⟨w.heap.size, 2, none⟩ (.int .i64 c)) :=
    (((Kept.refl (fun b => b = w.heap.size) w').setCell (q := ⟨w.heap.size, 0, none⟩) (ee 0) _).setCell (q := ⟨w.heap.size, 1, none⟩) (ee 1) _).setCell (q := ⟨w.heap.size, 2, none⟩) (ee 2) _
  refine ⟨((h.res.put 0 (.int .i64 a)).put 1 (.int .i64 b)).put 2 (.int .i64 c), a, b, c, p', rfl, a0, a1, b0, b1, c0, c1, h1, by omega, h3.kept hk (fun k hk e => by omega), ?_⟩
  exact ⟨hk.os.trans h.kept.os, hk.tape.trans h.kept.tape, hk.output.trans h.kept.output, Nat.le_trans h.kept.size hk.size, fun k h4 h5 => (hk.block k (Nat.lt_of_lt_of_le h4 h.kept.size) (fun e => by omega)).trans (h.kept.block k h4 h5)⟩
theorem kindA_at (v : Int) (h0 : 0 ≤ v) (h1 : v < 8) : ∃ x : Int, 1 ≤ x ∧ x ≤ 4 ∧ kindA[v.toNat]? = some (.int .i64 x) :=
  ofL kindL 1 4 (by decide) v h0 h1
theorem countA_at (v : Int) (h0 : 0 ≤ v) (h1 : v < 9) : ∃ x : Int, -1 ≤ x ∧ x ≤ 21 ∧ countA[v.toNat]? = some (.int .i64 x) :=
  ofL countL (-1) 21 (by decide) v h0 h1
set_option maxRecDepth 100000 in
set_option maxHeartbeats 2000000 in
theorem bandOp_any (g : Nat) (p : Int) (hp0 : 0 ≤ p) (hp : p ≤ 900000000) (w : World) (h : RdAt w g p) :
    Calls Try.prog 40 #[.pointer (some ⟨g, 0, none⟩)] w (OpP g p w) := by
  have hlt := h.lt
  have HS : Hid (StO g p w 0 ((w.alloc (.cells zeroOp 44)).alloc (.cells kindA 3))) := by
    refine ⟨⟨p, by omega, by omega, ?_⟩, ((Kept.refl _ w).alloc _).alloc _, (Bk.new w _ _).alloc _, Bk.new' _ _ _ _ (by simp)⟩
    exact (h.below ((Below.refl w.heap.size w).alloc (Nat.le_refl _) _)).below ((Below.refl _ _).alloc (Nat.le_refl _) _)
  clear h
  go_enter Try.func40, Try.ntmps40
  go_wp2_with fail
  refine (pick_st (by omega) hp0 hp 8 (by omega) (by omega) (by omega) HS.out).mono ?_
  rintro e w1 ⟨v, rfl, v0, v1, hs, _⟩
  obtain ⟨x, x0, x1, hx⟩ := kindA_at v v0 v1
  have hcx : w1.cell? ⟨w.heap.size + 1, v.toNat, none⟩ = some (.int .i64 x) := by rw [hs.ks.cell, hx]
  have HS := Lib.hid hs
  clear hs hx
  by_cases h4 : x = 4
  · subst h4
    go_wp2_with fail
    refine (pick_st (by omega) hp0 hp 4 (by omega) (by omega) (by omega) HS.out).mono ?_
    rintro e w_u ⟨u, rfl, u0, u1, hs, _⟩
    have HS := Lib.hid hs
    clear hs
    by_cases hu : 0 < u
    · have _x := hp0
      go_wp2_with fail
      refine (pick_st (by omega) hp0 hp 40 (by omega) (by omega) (by omega) HS.out).mono ?_
      rintro e w_b ⟨b, rfl, b0, b1, hs, _⟩
      have HS := Lib.hid hs
      clear hs
      by_cases hb : b = 0
      · subst hb
        go_wp2_with fail
        refine (pick_st (by omega) hp0 hp 7 (by omega) (by omega) (by omega) HS.out).mono ?_
        rintro e w_a ⟨a, rfl, a0, a1, hs, _⟩
        have HS := Lib.hid hs
        clear hs
        go_wp2_with fail
        refine (pick_st (by omega) hp0 hp 4 (by omega) (by omega) (by omega) HS.out).mono ?_
        rintro e w_c ⟨c, rfl, c0, c1, hs, _⟩
        have HS := Lib.hid hs
        clear hs
        go_wp2_with fail
        refine (pick_st (by omega) hp0 hp 30 (by omega) (by omega) (by omega) HS.out).mono ?_
        rintro e w_d ⟨d, rfl, d0, d1, hs, _⟩
        have HS := Lib.hid hs
        clear hs
        have hd0 : 0 ≤ d / 29 := by omega
        have hd1 : d / 29 ≤ 1 := by omega
        have KC := Lib.hid (Bk.new w_d 3 countA)
        have hz := HS.out.kept.size
        have HS := Lib.hid (HS.out.alloc (.cells countA 3))
        go_wp2_with fail
        refine (pick_st (by omega) hp0 hp 9 (by omega) (by omega) (by omega) HS.out).mono ?_
        rintro e w_n ⟨n, rfl, n0, n1, hs, hk⟩
        have HS := Lib.hid hs
        clear hs
        have kc := KC.out.kept hk (by unfold isG; omega)
        obtain ⟨y, y0, y1, hy⟩ := countA_at n n0 n1
        have hcy : w_n.cell? ⟨w_d.heap.size, n.toNat, none⟩ = some (.int .i64 y) := by rw [kc.cell, hy]
        obtain ⟨r0, r1, r2⟩ := (show Bk w_n w.heap.size 44 #[.int .i64 0, .int .i64 0, .int .i64 0] from HS.out.res).three
        have rf := HS.out.res.frees
        clear KC hk kc hy
        obtain ⟨f1, f2⟩ := HS.out.fin hlt (by omega) (a - 1) (c - d / 29) y (by omega) (by omega) (by omega) (by omega) (by omega) (by omega)
        go_wp2
        exact bodyPost_ret (results_cell_row rfl _ _ w.heap.size 44 _ (0, 0) _ rfl f1 Try.underlying44 rfl (by kernel_rfl)) rfl f2
      · have hb' : (b == 0) = false := by simpa using hb
        go_wp2_with fail
        refine (pick_st (by omega) hp0 hp 4 (by omega) (by omega) (by omega) HS.out).mono ?_
        rintro e w_c ⟨c, rfl, c0, c1, hs, _⟩
        have HS := Lib.hid hs
        clear hs
        go_wp2_with fail
        refine (pick_st (by omega) hp0 hp 30 (by omega) (by omega) (by omega) HS.out).mono ?_
        rintro e w_d ⟨d, rfl, d0, d1, hs, _⟩
        have HS := Lib.hid hs
        clear hs
        have hd0 : 0 ≤ d / 29 := by omega
        have hd1 : d / 29 ≤ 1 := by omega
        have KC := Lib.hid (Bk.new w_d 3 countA)
        have hz := HS.out.kept.size
        have HS := Lib.hid (HS.out.alloc (.cells countA 3))
        go_wp2_with fail
        refine (pick_st (by omega) hp0 hp 9 (by omega) (by omega) (by omega) HS.out).mono ?_
        rintro e w_n ⟨n, rfl, n0, n1, hs, hk⟩
        have HS := Lib.hid hs
        clear hs
        have kc := KC.out.kept hk (by unfold isG; omega)
        obtain ⟨y, y0, y1, hy⟩ := countA_at n n0 n1
        have hcy : w_n.cell? ⟨w_d.heap.size, n.toNat, none⟩ = some (.int .i64 y) := by rw [kc.cell, hy]
        obtain ⟨r0, r1, r2⟩ := (show Bk w_n w.heap.size 44 #[.int .i64 0, .int .i64 0, .int .i64 0] from HS.out.res).three
        have rf := HS.out.res.frees
        clear KC hk kc hy
        obtain ⟨f1, f2⟩ := HS.out.fin hlt (by omega) (1) (c - d / 29) y (by omega) (by omega) (by omega) (by omega) (by omega) (by omega)
        go_wp2
        exact bodyPost_ret (results_cell_row rfl _ _ w.heap.size 44 _ (0, 0) _ rfl f1 Try.underlying44 rfl (by kernel_rfl)) rfl f2
    · have _x := hp0
      go_wp2_with fail
      refine (pick_st (by omega) hp0 hp 40 (by omega) (by omega) (by omega) HS.out).mono ?_
      rintro e w_b ⟨b, rfl, b0, b1, hs, _⟩
      have HS := Lib.hid hs
      clear hs
      by_cases hb : b = 0
      · subst hb
        go_wp2_with fail
        refine (pick_st (by omega) hp0 hp 7 (by omega) (by omega) (by omega) HS.out).mono ?_
        rintro e w_a ⟨a, rfl, a0, a1, hs, _⟩
        have HS := Lib.hid hs
        clear hs
        go_wp2_with fail
        refine (pick_st (by omega) hp0 hp 4 (by omega) (by omega) (by omega) HS.out).mono ?_
        rintro e w_c ⟨c, rfl, c0, c1, hs, _⟩
        have HS := Lib.hid hs
        clear hs
        go_wp2_with fail
        refine (pick_st (by omega) hp0 hp 30 (by omega) (by omega) (by omega) HS.out).mono ?_
        rintro e w_d ⟨d, rfl, d0, d1, hs, _⟩
        have HS := Lib.hid hs
        clear hs
        have hd0 : 0 ≤ d / 29 := by omega
        have hd1 : d / 29 ≤ 1 := by omega
        have KC := Lib.hid (Bk.new w_d 3 countA)
        have hz := HS.out.kept.size
        have HS := Lib.hid (HS.out.alloc (.cells countA 3))
        go_wp2_with fail
        refine (pick_st (by omega) hp0 hp 9 (by omega) (by omega) (by omega) HS.out).mono ?_
        rintro e w_n ⟨n, rfl, n0, n1, hs, hk⟩
        have HS := Lib.hid hs
        clear hs
        have kc := KC.out.kept hk (by unfold isG; omega)
        obtain ⟨y, y0, y1, hy⟩ := countA_at n n0 n1
        have hcy : w_n.cell? ⟨w_d.heap.size, n.toNat, none⟩ = some (.int .i64 y) := by rw [kc.cell, hy]
        obtain ⟨r0, r1, r2⟩ := (show Bk w_n w.heap.size 44 #[.int .i64 0, .int .i64 0, .int .i64 0] from HS.out.res).three
        have rf := HS.out.res.frees
        clear KC hk kc hy
        obtain ⟨f1, f2⟩ := HS.out.fin hlt (by omega) (a - 1) (c - d / 29) y (by omega) (by omega) (by omega) (by omega) (by omega) (by omega)
        go_wp2
        exact bodyPost_ret (results_cell_row rfl _ _ w.heap.size 44 _ (0, 0) _ rfl f1 Try.underlying44 rfl (by kernel_rfl)) rfl f2
      · have hb' : (b == 0) = false := by simpa using hb
        go_wp2_with fail
        refine (pick_st (by omega) hp0 hp 4 (by omega) (by omega) (by omega) HS.out).mono ?_
        rintro e w_c ⟨c, rfl, c0, c1, hs, _⟩
        have HS := Lib.hid hs
        clear hs
        go_wp2_with fail
        refine (pick_st (by omega) hp0 hp 30 (by omega) (by omega) (by omega) HS.out).mono ?_
        rintro e w_d ⟨d, rfl, d0, d1, hs, _⟩
        have HS := Lib.hid hs
        clear hs
        have hd0 : 0 ≤ d / 29 := by omega
        have hd1 : d / 29 ≤ 1 := by omega
        have KC := Lib.hid (Bk.new w_d 3 countA)
        have hz := HS.out.kept.size
        have HS := Lib.hid (HS.out.alloc (.cells countA 3))
        go_wp2_with fail
        refine (pick_st (by omega) hp0 hp 9 (by omega) (by omega) (by omega) HS.out).mono ?_
        rintro e w_n ⟨n, rfl, n0, n1, hs, hk⟩
        have HS := Lib.hid hs
        clear hs
        have kc := KC.out.kept hk (by unfold isG; omega)
        obtain ⟨y, y0, y1, hy⟩ := countA_at n n0 n1
        have hcy : w_n.cell? ⟨w_d.heap.size, n.toNat, none⟩ = some (.int .i64 y) := by rw [kc.cell, hy]
        obtain ⟨r0, r1, r2⟩ := (show Bk w_n w.heap.size 44 #[.int .i64 0, .int .i64 0, .int .i64 0] from HS.out.res).three
        have rf := HS.out.res.frees
        clear KC hk kc hy
        obtain ⟨f1, f2⟩ := HS.out.fin hlt (by omega) (4) (c - d / 29) y (by omega) (by omega) (by omega) (by omega) (by omega) (by omega)
        go_wp2
        exact bodyPost_ret (results_cell_row rfl _ _ w.heap.size 44 _ (0, 0) _ rfl f1 Try.underlying44 rfl (by kernel_rfl)) rfl f2
  · have h4' : (x == 4) = false := by simpa using h4
    go_wp2_with fail
    refine (pick_st (by omega) hp0 hp 40 (by omega) (by omega) (by omega) HS.out).mono ?_
    rintro e w_b ⟨b, rfl, b0, b1, hs, _⟩
    have HS := Lib.hid hs
    clear hs
    by_cases hb : b = 0
    · subst hb
      go_wp2_with fail
      refine (pick_st (by omega) hp0 hp 7 (by omega) (by omega) (by omega) HS.out).mono ?_
      rintro e w_a ⟨a, rfl, a0, a1, hs, _⟩
      have HS := Lib.hid hs
      clear hs
      go_wp2_with fail
      refine (pick_st (by omega) hp0 hp 4 (by omega) (by omega) (by omega) HS.out).mono ?_
      rintro e w_c ⟨c, rfl, c0, c1, hs, _⟩
      have HS := Lib.hid hs
      clear hs
      go_wp2_with fail
      refine (pick_st (by omega) hp0 hp 30 (by omega) (by omega) (by omega) HS.out).mono ?_
      rintro e w_d ⟨d, rfl, d0, d1, hs, _⟩
      have HS := Lib.hid hs
      clear hs
      have hd0 : 0 ≤ d / 29 := by omega
      have hd1 : d / 29 ≤ 1 := by omega
      have KC := Lib.hid (Bk.new w_d 3 countA)
      have hz := HS.out.kept.size
      have HS := Lib.hid (HS.out.alloc (.cells countA 3))
      go_wp2_with fail
      refine (pick_st (by omega) hp0 hp 9 (by omega) (by omega) (by omega) HS.out).mono ?_
      rintro e w_n ⟨n, rfl, n0, n1, hs, hk⟩
      have HS := Lib.hid hs
      clear hs
      have kc := KC.out.kept hk (by unfold isG; omega)
      obtain ⟨y, y0, y1, hy⟩ := countA_at n n0 n1
      have hcy : w_n.cell? ⟨w_d.heap.size, n.toNat, none⟩ = some (.int .i64 y) := by rw [kc.cell, hy]
      obtain ⟨r0, r1, r2⟩ := (show Bk w_n w.heap.size 44 #[.int .i64 0, .int .i64 0, .int .i64 0] from HS.out.res).three
      have rf := HS.out.res.frees
      clear KC hk kc hy
      obtain ⟨f1, f2⟩ := HS.out.fin hlt (by omega) (a - 1) (c - d / 29) y (by omega) (by omega) (by omega) (by omega) (by omega) (by omega)
      go_wp2
      exact bodyPost_ret (results_cell_row rfl _ _ w.heap.size 44 _ (0, 0) _ rfl f1 Try.underlying44 rfl (by kernel_rfl)) rfl f2
    · have hb' : (b == 0) = false := by simpa using hb
      go_wp2_with fail
      refine (pick_st (by omega) hp0 hp 4 (by omega) (by omega) (by omega) HS.out).mono ?_
      rintro e w_c ⟨c, rfl, c0, c1, hs, _⟩
      have HS := Lib.hid hs
      clear hs
      go_wp2_with fail
      refine (pick_st (by omega) hp0 hp 30 (by omega) (by omega) (by omega) HS.out).mono ?_
      rintro e w_d ⟨d, rfl, d0, d1, hs, _⟩
      have HS := Lib.hid hs
      clear hs
      have hd0 : 0 ≤ d / 29 := by omega
      have hd1 : d / 29 ≤ 1 := by omega
      have KC := Lib.hid (Bk.new w_d 3 countA)
      have hz := HS.out.kept.size
      have HS := Lib.hid (HS.out.alloc (.cells countA 3))
      go_wp2_with fail
      refine (pick_st (by omega) hp0 hp 9 (by omega) (by omega) (by omega) HS.out).mono ?_
      rintro e w_n ⟨n, rfl, n0, n1, hs, hk⟩
      have HS := Lib.hid hs
      clear hs
      have kc := KC.out.kept hk (by unfold isG; omega)
      obtain ⟨y, y0, y1, hy⟩ := countA_at n n0 n1
      have hcy : w_n.cell? ⟨w_d.heap.size, n.toNat, none⟩ = some (.int .i64 y) := by rw [kc.cell, hy]
      obtain ⟨r0, r1, r2⟩ := (show Bk w_n w.heap.size 44 #[.int .i64 0, .int .i64 0, .int .i64 0] from HS.out.res).three
      have rf := HS.out.res.frees
      clear KC hk kc hy
      obtain ⟨f1, f2⟩ := HS.out.fin hlt (by omega) (x) (c - d / 29) y (by omega) (by omega) (by omega) (by omega) (by omega) (by omega)
      go_wp2
      exact bodyPost_ret (results_cell_row rfl _ _ w.heap.size 44 _ (0, 0) _ rfl f1 Try.underlying44 rfl (by kernel_rfl)) rfl f2
end Go.Proofs.Ytbgmjcfnehnicaa

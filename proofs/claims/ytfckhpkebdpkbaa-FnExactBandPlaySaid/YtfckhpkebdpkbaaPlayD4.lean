/-
  The law's run, whole.
-/
import Derived.Test.YtfckhpkebdpkbaaPlayC4
import Derived.Test.YtfckhpkebdpkbaaPlayC6
import Derived.Test.YtfckhpkebdpkbaaPlayC7
import Derived.Test.YtfckhpkebdpkbaaPlayD3
namespace Go.Bp
open Go Go.Conc Go.Proofs Go.RowKit Go.Proofs.Ytfckhpkebdpkbaa

theorem SA.re {W u : World} {q p s : Int} {A : Option Addr} {n c : Nat} {A' : Option Addr} {m c' : Nat} (h : SA W q p s A n c A' m c' u) (T : Nat → Question → Nat) (d : Nat) : SA W q p s A n c A' m c' (re u T d) := h.go ((KeptH.refl (fun _ => False) u).re T d) (fun _ _ z => z)
theorem SA.unre {W u : World} {q p s : Int} {A : Option Addr} {n c : Nat} {A' : Option Addr} {m c' : Nat} {T : Nat → Question → Nat} {d : Nat} (h : SA (Go.Bp.re W T d) q p s A n c A' m c' u) : SA W q p s A n c A' m c' u := ⟨h.kp.re', h.lt, h.kb⟩
theorem SG.re {u : World} {B G : Nat} {Q P S : Int} {N K : Nat} {f d co : Nat → Value} {Gl : Option Addr} {gl : Nat} {Gd : Option Addr} {gd : Nat} {Gc : Option Addr} (h : SG u B G Q P S N K f d co Gl gl Gd gd Gc) (T : Nat → Question → Nat) (e : Nat) : SG (Go.Bp.re u T e) B G Q P S N K f d co Gl gl Gd gd Gc :=
  ⟨h.k, h.r.go ((KeptH.refl (fun _ => False) u).re T e) (fun _ _ _ z => z)⟩
theorem XC.re {u : World} {G X9 : Nat} {q p s : Int} {Xl n Xd m k : Nat} {f : Nat → Int} {f' : Nat → Bool} {o1 o2 o3 : Nat → Int} (h : XC u G X9 q p s Xl n Xd m k f f' o1 o2 o3) (T : Nat → Question → Nat) (e : Nat) : XC (Go.Bp.re u T e) G X9 q p s Xl n Xd m k f f' o1 o2 o3 := h.all ((KeptH.refl (fun _ => False) u).re T e)

theorem wp_ok {P : Program} {c : Code} {a : Act} {w : World} {Q : Act → World → Prop} (h : c.wp P (fun e a w' => match e with | .normal => Q a w' | _ => False) a w) : c.wp P (fun e a w' => e = .normal ∧ Q a w') a w :=
  wp_mono h fun e a w h => by cases e <;> first | exact ⟨rfl, h⟩ | exact h.elim

theorem fq_start {P : Program} (g : Goroutine) (W : World) : Fq P (fun _ => False) W g (solo g W) #[] :=
  ⟨W, ⟨#[g], none, fun _ => 0, rfl, rfl, ⟨fun i x hi hx => by
      have h1 : i < 1 := by simpa using (Array.getElem?_eq_some_iff.1 hx).1
      have h0 : i = 0 := by omega
      subst h0
      simp [act0] at hi, fun _ _ => rfl⟩,
    ⟨fun said => by rintro ⟨i, j, _, ⟨a, b, ha, _⟩, _⟩; simp [Trace.act?] at ha, fun i a ha => by simp [touchAt, Trace.act?] at ha, fun i g hg => by simp [Trace.g?] at hg, rfl⟩⟩, ⟨rfl, fun _ _ => rfl, fun _ h => h.elim, rfl, rfl⟩⟩

section
variable {W : World} {q p s : Int} {A A' O : Option Addr} {n m c c' k co : Nat} {f : Nat → Int} {f' : Nat → Bool} {o1 o2 o3 : Nat → Int}

set_option maxRecDepth 100000 in
set_option maxHeartbeats 8000000 in
/-- from the second call's region on -/
theorem law_last (hmx : Try.prog.follows .mixedOrders = true) {Q P S : Int} {N K : Nat} {F : Nat → Int} {D : Nat → Bool} {CO : Nat → Int} (hn : n ≤ 1048576) (hm : m ≤ 1048576) (hk : k ≤ 1048576) (hN : N ≤ 1048576) (hK : K ≤ 1048576)
    (hPV : ∀ B v u, PlayR (playOk q p s n m k f f') B q n k (stAt q n o1 o2 o3 ⟨p, s, f, f'⟩ k) (codeAt q n o1 o2 o3 ⟨p, s, f, f'⟩) v u → PV Q P S N K F D CO B v u)
    (hA : Rw W W.heap.size A n fun i => .int .i64 (f i)) (hA' : Rw W W.heap.size A' m fun i => .bool (f' i)) (hO : Rs W W.heap.size O k 3 (fun i => [.int .i64 (o1 i), .int .i64 (o2 i), .int .i64 (o3 i)]))
    {X : Nat → Prop} {u : World} {t : Array Value} {Wl Wd Wc Gl Gd Gc : Option Addr} {wl wd wc gl gd gc B6 G6 B10 G10 : Nat} (hX1 : ∀ j, X j → W.heap.size ≤ j) (hX2 : ∀ j, X j → j < u.heap.size) (b1 : B6 ≤ G6) (b2 : B10 ≤ G10) (hsz : t.size = 135)
    (h1 : t[1]? = some (.slice O k co)) (h2 : t[2]? = some (.pointer (some ⟨W.heap.size, 0, none⟩))) (h6 : t[6]? = some (.pointer (some ⟨G6, 0, none⟩))) (h7 : t[7]? = some (.slice Wc K wc)) (h10 : t[10]? = some (.pointer (some ⟨G10, 0, none⟩))) (h11 : t[11]? = some (.slice Gc K gc)) (h13 : t[13]? = some (.int .i64 (1 + N + N + K)))
    (hSA : SA W q p s A n c A' m c' u) (hWG : SG u B6 G6 Q P S N K (fun i => .int .i64 (F i)) (fun i => .bool (D i)) (fun i => .int .i64 (CO i)) Wl wl Wd wd Wc) (hGG : SG u B10 G10 Q P S N K (fun i => markVIntS (1 + i)) (fun i => markVBoolS (1 + N + i)) (fun i => markVIntS (1 + N + N + i)) Gl gl Gd gd Gc) :
    ∀ mm tr, Fq Try.prog X u (G ((bN 3).at ⟨t, []⟩ [.code lawF]) []) mm tr → EndsAt Try.prog (TrueKept W) mm tr := by
  have hb : (bN 3).kind ≠ .early := by simp [bN]
  obtain ⟨g, rfl⟩ := litB hsz h1 h2 h6 h7 h10 h11 h13
  refine ends_to (r35_enter hn hm hk hA hA' hO hSA) ?_
  rintro mm tr ⟨u2, Yl, Yd, Y9, hk2, hl, hd, ho, hq⟩
  have z2 := hk2.size
  have hSA2 := hSA.go hk2 (fun _ _ z => z)
  have hWG2 := hWG.go hk2 b1 (fun _ _ _ z => z)
  have hGG2 := hGG.go hk2 b2 (fun _ _ _ z => z)
  have hops : ∀ i, i < k → u2.cell? ⟨Y9, i * 3, none⟩ = some (.int .i64 (o1 i)) ∧ u2.cell? ⟨Y9, i * 3 + 1, none⟩ = some (.int .i64 (o2 i)) ∧ u2.cell? ⟨Y9, i * 3 + 2, none⟩ = some (.int .i64 (o3 i)) :=
    fun i hi => ⟨ho.2.1 i hi 0 _ rfl, ho.2.1 i hi 1 _ rfl, ho.2.1 i hi 2 _ rfl⟩
  refine ends_to (play_to hmx (fun j hj => Nat.lt_of_lt_of_le (hX2 j hj) z2) hn hm hk (ownV_rw hl) (ownV_rw hd) hops _ _) ?_ mm tr hq
  rintro mm tr ⟨X3, u3, v, hx1, hx2, hk3, hv, hq⟩
  obtain ⟨Hl, hl', Hd, hd', Hc, hc, rfl, p1, p2, p3, p4, p5⟩ := hPV _ _ _ hv
  rw [Frame.finish_at] at hq
  have z3 := hk3.size
  have hX3 : ∀ j, X3 j → W.heap.size ≤ j := fun j hj => by
    rcases hx2 j hj with z | z
    · exact hX1 j z
    · have := hSA2.kp.size; omega
  have hSA3 := hSA2.go hk3 (fun _ _ z => z)
  have hWG3 := hWG2.go hk3 b1 (fun _ _ _ z => z)
  have hGG3 := hGG2.go hk3 b2 (fun _ _ _ z => z)
  have hRV := RV.of p1 p2 p3 p4 p5
  have hk4 := rowWorld_kept u3 (.int .i64 Q) (.int .i64 P) (.int .i64 S) (.slice Hl N hl') (.slice Hd N hd')
  have z4 := rowWorld_size u3 (.int .i64 Q) (.int .i64 P) (.int .i64 S) (.slice Hl N hl') (.slice Hd N hd')
  refine ends_to (r35_leave (W := W)) ?_ mm tr hq
  have hSA4 := hSA3.go hk4 (fun _ _ z => z)
  have hWG4 := hWG3.go hk4 b1 (fun _ _ _ z => z)
  have hGG4 := hGG3.go hk4 b2 (fun _ _ _ z => z)
  have hHH4 : SG (rowWorld u3 (.int .i64 Q) (.int .i64 P) (.int .i64 S) (.slice Hl N hl') (.slice Hd N hd')) u2.heap.size u3.heap.size Q P S N K (fun i => .int .i64 (F i)) (fun i => .bool (D i)) (fun i => .int .i64 (CO i)) Hl hl' Hd hd' Hc := ⟨rowWorld_bk _ _ _ _ _ _, hRV.go hk4 (fun _ _ _ z => z)⟩
  refine ends_to (cut_to (Q := fun a w => a.tmps[4]? = some (.bool true) ∧ SA W q p s A n c A' m c' w) (fun a w T d h => ⟨h.1, h.2.re T d⟩) plain_closed hb (cut_front 7 lawG0 longG) (plain_code (by kernel_rfl)) (fun T d => wp_ok (lawG_wp (re _ T d) hN hK b1 b2 z3 (hSA4.re T d) (hWG4.re T d) (hGG4.re T d) (hHH4.re T d)
    (fun a w' _ _ h4 h5 => ⟨h4, h5⟩))) [] [] []) ?_
  rintro mm tr ⟨t2, u5, hq, h4, h5⟩
  rw [lawG_rest] at hq
  exact finish_true hX3 h5.kp h4 mm tr hq
end
end Go.Bp

/- The law's run from its first copies on, and whole. -/
namespace Go.Bp
open Go Go.Conc Go.Proofs Go.RowKit Go.Proofs.Ytfckhpkebdpkbaa
section
variable {W : World} {q p s : Int} {A A' O : Option Addr} {n m c c' k co : Nat} {f : Nat → Int} {f' : Nat → Bool} {o1 o2 o3 : Nat → Int}

set_option maxRecDepth 100000 in
set_option maxHeartbeats 8000000 in
/-- from the reference's call on -/
theorem law_mid (hmx : Try.prog.follows .mixedOrders = true) {Q P S : Int} {N K : Nat} {F : Nat → Int} {D : Nat → Bool} {CO : Nat → Int} (hn : n ≤ 1048576) (hm : m ≤ 1048576) (hk : k ≤ 1048576) (hnm : n + m + k ≤ 1048576) (hN : N ≤ 1048576) (hK : K ≤ 1048576)
    (hPV : ∀ B v u, PlayR (playOk q p s n m k f f') B q n k (stAt q n o1 o2 o3 ⟨p, s, f, f'⟩ k) (codeAt q n o1 o2 o3 ⟨p, s, f, f'⟩) v u → PV Q P S N K F D CO B v u)
    (hA : Rw W W.heap.size A n fun i => .int .i64 (f i)) (hA' : Rw W W.heap.size A' m fun i => .bool (f' i)) (hO : Rs W W.heap.size O k 3 (fun i => [.int .i64 (o1 i), .int .i64 (o2 i), .int .i64 (o3 i)]))
    {u : World} {t : Array Value} (hsz : t.size = 135) (h1 : t[1]? = some (.slice O k co)) (h2 : t[2]? = some (.pointer (some ⟨W.heap.size, 0, none⟩))) {x5 : Value} (h5 : t[5]? = some x5) (hSA : SA W q p s A n c A' m c' u) :
    ∀ mm tr, Fq Try.prog (fun _ => False) u (G ((bN 3).at ⟨t, []⟩ [.code lawC0]) []) mm tr → EndsAt Try.prog (TrueKept W) mm tr := by
  have hb : (bN 3).kind ≠ .early := by simp [bN]
  obtain ⟨g, rfl⟩ := litA hsz h1 h2 h5
  refine ends_to (cut_to (Q := fun a w => ∃ (Wl Wd Wc : Option Addr) (wl wd wc B6 G6 Xl Xd G8 X9 : Nat), a.tmps.size = 135 ∧ a.tmps[1]? = some (.slice O k co) ∧ a.tmps[2]? = some (.pointer (some ⟨W.heap.size, 0, none⟩)) ∧ a.tmps[6]? = some (.pointer (some ⟨G6, 0, none⟩)) ∧ a.tmps[7]? = some (.slice Wc K wc) ∧ a.tmps[8]? = some (.pointer (some ⟨G8, 0, none⟩)) ∧ a.tmps[9]? = some (.slice (some ⟨X9, 0, none⟩) k k) ∧ W.heap.size < B6 ∧ B6 ≤ G6 ∧ G6 < Xl ∧ Xl < Xd ∧ Xd < G8 ∧ G8 < X9 ∧ X9 < w.heap.size ∧ SA W q p s A n c A' m c' w ∧ SG w B6 G6 Q P S N K (fun i => .int .i64 (F i)) (fun i => .bool (D i)) (fun i => .int .i64 (CO i)) Wl wl Wd wd Wc ∧ XC w G8 X9 q p s Xl n Xd m k f f' o1 o2 o3) (fun a w T d ⟨Wl, Wd, Wc, wl, wd, wc, B6, G6, Xl, Xd, G8, X9, e0, e1, e2, e6, e7, e8, e9, b1, b2, b3, b4, b5, b6, b7, r1, r2, r3⟩ => ⟨Wl, Wd, Wc, wl, wd, wc, B6, G6, Xl, Xd, G8, X9, e0, e1, e2, e6, e7, e8, e9, b1, b2, b3, b4, b5, b6, b7, r1.re T d, r2.re T d, r3.re T d⟩) plain_closed hb (cut_front 2 lawC0 longC) (plain_code (by kernel_rfl)) (fun T d => wp_ok (lawC_wp (re u T d) hn hm hk hA hA' hO
    (fun x B B' R d d' e' hB hB' hR => (sBandPlay_any q p s B B' R n m d d' k e' hn hm hk f f' o1 o2 o3 x x (Below.refl _ _) hB hB' hR).mono fun e w' ⟨v, h1, h2, h3⟩ => ⟨v, h1, hPV _ _ _ h2, h3⟩) (hSA.re T d)
    (fun a w' Wl Wd Wc wl wd wc B6 G6 Xl Xd G8 X9 _ e0 e1 e2 e6 e7 e8 e9 b1 b2 b3 b4 b5 b6 b7 r1 r2 r3 => ⟨Wl, Wd, Wc, wl, wd, wc, B6, G6, Xl, Xd, G8, X9, e0, e1, e2, e6, e7, e8, e9, b1, b2, b3, b4, b5, b6, b7, r1, r2, r3⟩))) [] [] []) ?_
  rintro mm tr ⟨t1, u1, hq, Wl, Wd, Wc, wl, wd, wc, B6, G6, Xl, Xd, G8, X9, e0, e1, e2, e6, e7, e8, e9, b1, b2, b3, b4, b5, b6, b7, hSA1, hWG1, hXC1⟩
  obtain ⟨g1, rfl⟩ := litC e0 e1 e2 e6 e7 e8 e9
  refine ends_to (r11_enter hXC1.kb) ?_ mm tr hq
  have hops : ∀ i, i < k → u1.cell? ⟨X9, i * 3, none⟩ = some (.int .i64 (o1 i)) ∧ u1.cell? ⟨X9, i * 3 + 1, none⟩ = some (.int .i64 (o2 i)) ∧ u1.cell? ⟨X9, i * 3 + 2, none⟩ = some (.int .i64 (o3 i)) :=
    fun i hi => ⟨hXC1.o.2.1 i hi 0 _ rfl, hXC1.o.2.1 i hi 1 _ rfl, hXC1.o.2.1 i hi 2 _ rfl⟩
  refine ends_to (play_to hmx (fun j hj => hj.elim) hn hm hk (ownV_rw hXC1.l) (ownV_rw hXC1.d) hops _ _) ?_
  rintro mm tr ⟨X2, u2, v, hx1, hx2, hk2, hv, hq⟩
  obtain ⟨Gl, gl, Gd, gd, Gc, gc, rfl, p1, p2, p3, p4, p5⟩ := hPV _ _ _ hv
  rw [Frame.finish_at] at hq
  have z2 := hk2.size
  have z0 := hSA1.lt
  have hX2 : ∀ j, X2 j → W.heap.size ≤ j := fun j hj => by
    rcases hx2 j hj with z | z
    · exact z.elim
    · omega
  have hSA2 := hSA1.go hk2 (fun _ _ z => z)
  have hWG2 := hWG1.go hk2 b2 (fun _ _ _ z => z)
  have hXC2 := hXC1.all hk2
  have hRV := RV.of p1 p2 p3 p4 p5
  have hk3 := rowWorld_kept u2 (.int .i64 Q) (.int .i64 P) (.int .i64 S) (.slice Gl N gl) (.slice Gd N gd)
  have z3 := rowWorld_size u2 (.int .i64 Q) (.int .i64 P) (.int .i64 S) (.slice Gl N gl) (.slice Gd N gd)
  refine ends_to r11_leave ?_ mm tr hq
  have hSA3 := hSA2.go hk3 (fun _ _ z => z)
  have hWG3 := hWG2.go hk3 b2 (fun _ _ _ z => z)
  have hXC3 := hXC2.all hk3
  have hGG3 : SG (rowWorld u2 (.int .i64 Q) (.int .i64 P) (.int .i64 S) (.slice Gl N gl) (.slice Gd N gd)) u1.heap.size u2.heap.size Q P S N K (fun i => .int .i64 (F i)) (fun i => .bool (D i)) (fun i => .int .i64 (CO i)) Gl gl Gd gd Gc := ⟨rowWorld_bk _ _ _ _ _ _, hRV.go hk3 (fun _ _ _ z => z)⟩
  refine ends_to (cut_to (Q := fun a w => (a.tmps.size = 135 ∧ a.tmps[1]? = some (.slice O k co) ∧ a.tmps[2]? = some (.pointer (some ⟨W.heap.size, 0, none⟩)) ∧ a.tmps[6]? = some (.pointer (some ⟨G6, 0, none⟩)) ∧ a.tmps[7]? = some (.slice Wc K wc) ∧ a.tmps[10]? = some (.pointer (some ⟨u2.heap.size, 0, none⟩)) ∧ a.tmps[11]? = some (.slice Gc K gc) ∧ a.tmps[13]? = some (.int .i64 (1 + N + N + K)) ∧ SA W q p s A n c A' m c' w ∧ SG w B6 G6 Q P S N K (fun i => .int .i64 (F i)) (fun i => .bool (D i)) (fun i => .int .i64 (CO i)) Wl wl Wd wd Wc ∧ SG w u1.heap.size u2.heap.size Q P S N K (fun i => markVIntS (1 + i)) (fun i => markVBoolS (1 + N + i)) (fun i => markVIntS (1 + N + N + i)) Gl gl Gd gd Gc) ∧ u2.heap.size < w.heap.size) (fun a w T d ⟨⟨e0, e1, e2, e6, e7, e10, e11, e13, r1, r2, r3⟩, r4⟩ => ⟨⟨e0, e1, e2, e6, e7, e10, e11, e13, r1.re T d, r2.re T d, r3.re T d⟩, r4⟩) plain_closed hb (cut_front 15 lawE0 longB) (plain_code (by kernel_rfl)) (fun T d => wp_ok (lawB_wp (re _ T d) hn hm hk hnm hN hK hA hA' hO b1 b2 b3 b4 b5 b6 b7 z2 (hSA3.re T d) (hWG3.re T d) (hXC3.re T d) (hGG3.re T d)
    (fun a w' _ e0 e1 e2 e6 e7 e10 e11 e13 r1 r2 r3 => ⟨⟨e0, e1, e2, e6, e7, e10, e11, e13, r1, r2, r3⟩, r3.k.lt⟩))) [] [] []) ?_
  rintro mm tr ⟨t4, u4, hq, ⟨⟨f0, f1, f2, f6, f7, f10, f11, f13, hSA4, hWG4, hGG4⟩, hz4⟩⟩
  exact law_last hmx hn hm hk hN hK hPV hA hA' hO hX2 (fun j hj => Nat.lt_trans (hx1 j hj) hz4) b2 z2 f0 f1 f2 f6 f7 f10 f11 f13 hSA4 hWG4 hGG4 mm tr hq
end
end Go.Bp

/- The law's run, whole, out of any memory. -/
namespace Go.Bp
open Go Go.Conc Go.Proofs Go.RowKit Go.Proofs.Ytfckhpkebdpkbaa
section
variable {W : World} {q p s : Int} {A A' O : Option Addr} {n m c c' k co : Nat} {f : Nat → Int} {f' : Nat → Bool} {o1 o2 o3 : Nat → Int}

set_option maxRecDepth 100000 in
set_option maxHeartbeats 8000000 in
theorem law_sized (hmx : Try.prog.follows .mixedOrders = true) (hkI : (k : Int) ≤ 9223372036854775807)
    (hA : Rw W W.heap.size A n fun i => .int .i64 (f i)) (hA' : Rw W W.heap.size A' m fun i => .bool (f' i)) (hO : Rs W W.heap.size O k 3 (fun i => [.int .i64 (o1 i), .int .i64 (o2 i), .int .i64 (o3 i)]))
    {u : World} {t : Array Value} (hsz : t.size = 135) (h1 : t[1]? = some (.slice O k co)) (h2 : t[2]? = some (.pointer (some ⟨W.heap.size, 0, none⟩))) (h5 : t[5]? = some (.int .i64 (szB 1048576 n m))) (hSA : SA W q p s A n c A' m c' u) :
    ∀ mm tr, Fq Try.prog (fun _ => False) u (G ((bN 3).at ⟨t, []⟩ [.code lawA']) []) mm tr → EndsAt Try.prog (TrueKept W) mm tr := by
  have hb : (bN 3).kind ≠ .early := by simp [bN]
  rw [lawA'_eq]
  by_cases hs : (1048576 : Int) - n - m < 0
  · rw [szB_neg2 _ n m hs] at h5
    obtain ⟨g, rfl⟩ := litA hsz h1 h2 h5
    refine ends_to (seq_to.trans (seq_to.trans (code_at (u2 := u) (A := #[g 0, .slice O k co, .pointer (some ⟨W.heap.size, 0, none⟩), g 3, g 4, .int .i64 (-1), g 6, g 7, g 8, g 9, g 10, g 11, g 12, g 13, g 14, g 15, g 16, g 17, g 18, g 19, .int .i64 (-1), .bool (decide ((-1 : Int) < 0)), g 22, g 23, g 24, g 25, g 26, g 27, g 28, g 29, g 30, g 31, g 32, g 33, g 34, g 35, g 36, g 37, g 38, g 39, g 40, g 41, g 42, g 43, g 44, g 45, g 46, g 47, g 48, g 49, g 50, g 51, g 52, g 53, g 54, g 55, g 56, g 57, g 58, g 59, g 60, g 61, g 62, g 63, g 64, g 65, g 66, g 67, g 68, g 69, g 70, g 71, g 72, g 73, g 74, g 75, g 76, g 77, g 78, g 79, g 80, g 81, g 82, g 83, g 84, g 85, g 86, g 87, g 88, g 89, g 90, g 91, g 92, g 93, g 94, g 95, g 96, g 97, g 98, g 99, g 100, g 101, g 102, g 103, g 104, g 105, g 106, g 107, g 108, g 109, g 110, g 111, g 112, g 113, g 114, g 115, g 116, g 117, g 118, g 119, g 120, g 121, g 122, g 123, g 124, g 125, g 126, g 127, g 128, g 129, g 130, g 131, g 132, g 133, g 134]) plain_closed hb (plain_code (by kernel_rfl)) (fun T d => wp_mono (rr3_wp (L := -1) (re u T d)) fun e a w h => h) [] _ []))) ?_
    refine ends_to ((cond_to (t := true) rfl).trans (seq_to.trans (code_at (u2 := u) (A := #[g 0, .slice O k co, .pointer (some ⟨W.heap.size, 0, none⟩), g 3, .bool true, .int .i64 (-1), g 6, g 7, g 8, g 9, g 10, g 11, g 12, g 13, g 14, g 15, g 16, g 17, g 18, g 19, .int .i64 (-1), .bool (decide ((-1 : Int) < 0)), g 22, g 23, g 24, g 25, g 26, g 27, g 28, g 29, g 30, g 31, g 32, g 33, g 34, g 35, g 36, g 37, g 38, g 39, g 40, g 41, g 42, g 43, g 44, g 45, g 46, g 47, g 48, g 49, g 50, g 51, g 52, g 53, g 54, g 55, g 56, g 57, g 58, g 59, g 60, g 61, g 62, g 63, g 64, g 65, g 66, g 67, g 68, g 69, g 70, g 71, g 72, g 73, g 74, g 75, g 76, g 77, g 78, g 79, g 80, g 81, g 82, g 83, g 84, g 85, g 86, g 87, g 88, g 89, g 90, g 91, g 92, g 93, g 94, g 95, g 96, g 97, g 98, g 99, g 100, g 101, g 102, g 103, g 104, g 105, g 106, g 107, g 108, g 109, g 110, g 111, g 112, g 113, g 114, g 115, g 116, g 117, g 118, g 119, g 120, g 121, g 122, g 123, g 124, g 125, g 126, g 127, g 128, g 129, g 130, g 131, g 132, g 133, g 134]) plain_closed hb (plain_code (by kernel_rfl)) (fun T d => wp_mono (rr4_wp (re u T d)) fun e a w h => h) [] _ []))) ?_
    exact finish_true (fun j hj => hj.elim) hSA.kp rfl
  rw [szB_pos _ n m hs] at h5
  obtain ⟨g, rfl⟩ := litA hsz h1 h2 h5
  have hL0 : 0 ≤ (1048576 - (n : Int) - m) := by omega
  have hLm : (1048576 - (n : Int) - m) ≤ 1048576 := by omega
  have hd : decide ((1048576 - (n : Int) - m) < 0) = false := by simp; omega
  refine ends_to (seq_to.trans (seq_to.trans (code_at (u2 := u) (A := #[g 0, .slice O k co, .pointer (some ⟨W.heap.size, 0, none⟩), g 3, g 4, .int .i64 (1048576 - (n : Int) - m), g 6, g 7, g 8, g 9, g 10, g 11, g 12, g 13, g 14, g 15, g 16, g 17, g 18, g 19, .int .i64 (1048576 - (n : Int) - m), .bool (decide ((1048576 - (n : Int) - m) < 0)), g 22, g 23, g 24, g 25, g 26, g 27, g 28, g 29, g 30, g 31, g 32, g 33, g 34, g 35, g 36, g 37, g 38, g 39, g 40, g 41, g 42, g 43, g 44, g 45, g 46, g 47, g 48, g 49, g 50, g 51, g 52, g 53, g 54, g 55, g 56, g 57, g 58, g 59, g 60, g 61, g 62, g 63, g 64, g 65, g 66, g 67, g 68, g 69, g 70, g 71, g 72, g 73, g 74, g 75, g 76, g 77, g 78, g 79, g 80, g 81, g 82, g 83, g 84, g 85, g 86, g 87, g 88, g 89, g 90, g 91, g 92, g 93, g 94, g 95, g 96, g 97, g 98, g 99, g 100, g 101, g 102, g 103, g 104, g 105, g 106, g 107, g 108, g 109, g 110, g 111, g 112, g 113, g 114, g 115, g 116, g 117, g 118, g 119, g 120, g 121, g 122, g 123, g 124, g 125, g 126, g 127, g 128, g 129, g 130, g 131, g 132, g 133, g 134]) plain_closed hb (plain_code (by kernel_rfl)) (fun T d => wp_mono (rr3_wp (L := (1048576 - (n : Int) - m)) (re u T d)) fun e a w h => h) [] _ []))) ?_
  rw [hd]
  refine ends_to ((cond_to (t := false) rfl).trans ((stay_to rfl fun _ => stepG_skip).trans (seq_to.trans (code_at (u2 := u) (A := #[g 0, .slice O k co, .pointer (some ⟨W.heap.size, 0, none⟩), g 3, g 4, .int .i64 (szN (1048576 - (n : Int) - m) k), g 6, g 7, g 8, g 9, g 10, g 11, g 12, g 13, g 14, g 15, g 16, g 17, g 18, g 19, .int .i64 (1048576 - (n : Int) - m), .bool false, .slice O k co, .int .i64 (1048576 - (n : Int) - m), .int .i64 (szN (1048576 - (n : Int) - m) k), g 25, g 26, g 27, g 28, g 29, g 30, g 31, g 32, g 33, g 34, g 35, g 36, g 37, g 38, g 39, g 40, g 41, g 42, g 43, g 44, g 45, g 46, g 47, g 48, g 49, g 50, g 51, g 52, g 53, g 54, g 55, g 56, g 57, g 58, g 59, g 60, g 61, g 62, g 63, g 64, g 65, g 66, g 67, g 68, g 69, g 70, g 71, g 72, g 73, g 74, g 75, g 76, g 77, g 78, g 79, g 80, g 81, g 82, g 83, g 84, g 85, g 86, g 87, g 88, g 89, g 90, g 91, g 92, g 93, g 94, g 95, g 96, g 97, g 98, g 99, g 100, g 101, g 102, g 103, g 104, g 105, g 106, g 107, g 108, g 109, g 110, g 111, g 112, g 113, g 114, g 115, g 116, g 117, g 118, g 119, g 120, g 121, g 122, g 123, g 124, g 125, g 126, g 127, g 128, g 129, g 130, g 131, g 132, g 133, g 134]) plain_closed hb (plain_code (by kernel_rfl)) (fun T d => wp_mono (rr5_wp (L := (1048576 - (n : Int) - m)) (re u T d) hL0 hLm hkI) fun e a w h => h) [] _ [])))) ?_
  refine ends_to (seq_to.trans (seq_to.trans (code_at (u2 := u) (A := #[g 0, .slice O k co, .pointer (some ⟨W.heap.size, 0, none⟩), g 3, g 4, .int .i64 (szN (1048576 - (n : Int) - m) k), g 6, g 7, g 8, g 9, g 10, g 11, g 12, g 13, g 14, g 15, g 16, g 17, g 18, g 19, .int .i64 (1048576 - (n : Int) - m), .bool false, .slice O k co, .int .i64 (1048576 - (n : Int) - m), .int .i64 (szN (1048576 - (n : Int) - m) k), .int .i64 (szN (1048576 - (n : Int) - m) k), .bool (decide (szN (1048576 - (n : Int) - m) k < 0)), g 27, g 28, g 29, g 30, g 31, g 32, g 33, g 34, g 35, g 36, g 37, g 38, g 39, g 40, g 41, g 42, g 43, g 44, g 45, g 46, g 47, g 48, g 49, g 50, g 51, g 52, g 53, g 54, g 55, g 56, g 57, g 58, g 59, g 60, g 61, g 62, g 63, g 64, g 65, g 66, g 67, g 68, g 69, g 70, g 71, g 72, g 73, g 74, g 75, g 76, g 77, g 78, g 79, g 80, g 81, g 82, g 83, g 84, g 85, g 86, g 87, g 88, g 89, g 90, g 91, g 92, g 93, g 94, g 95, g 96, g 97, g 98, g 99, g 100, g 101, g 102, g 103, g 104, g 105, g 106, g 107, g 108, g 109, g 110, g 111, g 112, g 113, g 114, g 115, g 116, g 117, g 118, g 119, g 120, g 121, g 122, g 123, g 124, g 125, g 126, g 127, g 128, g 129, g 130, g 131, g 132, g 133, g 134]) plain_closed hb (plain_code (by kernel_rfl)) (fun T d => wp_mono (rr6_wp (L := szN (1048576 - (n : Int) - m) k) (re u T d)) fun e a w h => h) [] _ []))) ?_
  by_cases hs2 : (1048576 - (n : Int) - m) - k < 0
  · rw [szN_neg _ k hs2]
    refine ends_to ((cond_to (t := true) rfl).trans (seq_to.trans (code_at (u2 := u) (A := #[g 0, .slice O k co, .pointer (some ⟨W.heap.size, 0, none⟩), g 3, .bool true, .int .i64 (-1), g 6, g 7, g 8, g 9, g 10, g 11, g 12, g 13, g 14, g 15, g 16, g 17, g 18, g 19, .int .i64 (1048576 - (n : Int) - m), .bool false, .slice O k co, .int .i64 (1048576 - (n : Int) - m), .int .i64 (-1), .int .i64 (-1), .bool (decide ((-1 : Int) < 0)), g 27, g 28, g 29, g 30, g 31, g 32, g 33, g 34, g 35, g 36, g 37, g 38, g 39, g 40, g 41, g 42, g 43, g 44, g 45, g 46, g 47, g 48, g 49, g 50, g 51, g 52, g 53, g 54, g 55, g 56, g 57, g 58, g 59, g 60, g 61, g 62, g 63, g 64, g 65, g 66, g 67, g 68, g 69, g 70, g 71, g 72, g 73, g 74, g 75, g 76, g 77, g 78, g 79, g 80, g 81, g 82, g 83, g 84, g 85, g 86, g 87, g 88, g 89, g 90, g 91, g 92, g 93, g 94, g 95, g 96, g 97, g 98, g 99, g 100, g 101, g 102, g 103, g 104, g 105, g 106, g 107, g 108, g 109, g 110, g 111, g 112, g 113, g 114, g 115, g 116, g 117, g 118, g 119, g 120, g 121, g 122, g 123, g 124, g 125, g 126, g 127, g 128, g 129, g 130, g 131, g 132, g 133, g 134]) plain_closed hb (plain_code (by kernel_rfl)) (fun T d => wp_mono (rr7_wp (re u T d)) fun e a w h => h) [] _ []))) ?_
    exact finish_true (fun j hj => hj.elim) hSA.kp rfl
  have hd2 : decide (szN (1048576 - (n : Int) - m) k < 0) = false := by rw [szN_pos _ k hs2]; simp; omega
  rw [hd2]
  refine ends_to ((cond_to (t := false) rfl).trans (stay_to rfl fun _ => stepG_skip)) ?_
  have hN : doN (playOk q p s n m k f f') n ≤ 1048576 := by unfold doN; split <;> omega
  have hK : doN (playOk q p s n m k f f') k ≤ 1048576 := by unfold doN; split <;> omega
  exact law_mid hmx (by omega) (by omega) (by omega) (by omega) hN hK (fun B v u h => h) hA hA' hO rfl rfl rfl rfl hSA

set_option maxRecDepth 100000 in
set_option maxHeartbeats 8000000 in
theorem law_ends (hmx : Try.prog.follows .mixedOrders = true) (hnI : (n : Int) ≤ 9223372036854775807) (hmI : (m : Int) ≤ 9223372036854775807) (hkI : (k : Int) ≤ 9223372036854775807)
    (hA : Rw W W.heap.size A n fun i => .int .i64 (f i)) (hA' : Rw W W.heap.size A' m fun i => .bool (f' i)) (hO : Rs W W.heap.size O k 3 (fun i => [.int .i64 (o1 i), .int .i64 (o2 i), .int .i64 (o3 i)])) :
    EndsAt Try.prog (TrueKept W) (solo (G (Frame.enter Try.prog 3 #[.agg #[.int .i64 q, .int .i64 p, .int .i64 s, .slice A n c, .slice A' m c'], .slice O k co] .normal) []) W) #[] := by
  have hb : (bN 3).kind ≠ .early := by simp [bN]
  have e3 : Frame.enter Try.prog 3 #[.agg #[.int .i64 q, .int .i64 p, .int .i64 s, .slice A n c, .slice A' m c'], .slice O k co] .normal = (bN 3).at ⟨#[.agg #[.int .i64 q, .int .i64 p, .int .i64 s, .slice A n c, .slice A' m c'], .slice O k co, undef, undef, undef, undef, undef, undef, undef, undef, undef, undef, undef, undef, undef, undef, undef, undef, undef, undef, undef, undef, undef, undef, undef, undef, undef, undef, undef, undef, undef, undef, undef, undef, undef, undef, undef, undef, undef, undef, undef, undef, undef, undef, undef, undef, undef, undef, undef, undef, undef, undef, undef, undef, undef, undef, undef, undef, undef, undef, undef, undef, undef, undef, undef, undef, undef, undef, undef, undef, undef, undef, undef, undef, undef, undef, undef, undef, undef, undef, undef, undef, undef, undef, undef, undef, undef, undef, undef, undef, undef, undef, undef, undef, undef, undef, undef, undef, undef, undef, undef, undef, undef, undef, undef, undef, undef, undef, undef, undef, undef, undef, undef, undef, undef, undef, undef, undef, undef, undef, undef, undef, undef, undef, undef, undef, undef, undef, undef, undef, undef, undef, undef, undef, undef], []⟩ [.code body3] := by
    simp [Frame.enter, Frame.at, Try.func3, bN, body3, Try.f3]
  rw [e3]
  refine ends_to (cut_to (Q := fun a w => a.tmps.size = 135 ∧ a.tmps[1]? = some (.slice O k co) ∧ a.tmps[2]? = some (.pointer (some ⟨W.heap.size, 0, none⟩)) ∧ a.tmps[5]? = some (.int .i64 (szB 1048576 n m)) ∧ SA W q p s A n c A' m c' w) (fun a w T d ⟨e0, e1, e2, e5, h⟩ => ⟨e0, e1, e2, e5, h.re T d⟩) plain_closed hb (cut_front 2 body3 longA) (plain_code (by kernel_rfl)) (fun T d => wp_ok (lawA_wp (re W T d) hnI hmI
    (fun a w' _ e0 e1 e2 e5 h => ⟨e0, e1, e2, e5, h.unre⟩))) [] [] []) ?_ _ _ (fq_start _ W)
  rintro mm tr ⟨t, u, hq, e0, e1, e2, e5, h⟩
  exact law_sized hmx hkI hA hA' hO e0 e1 e2 e5 h mm tr hq
end
end Go.Bp

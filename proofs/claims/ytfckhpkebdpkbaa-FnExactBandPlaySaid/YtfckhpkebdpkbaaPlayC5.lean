/-
  What the law holds in memory between its calls.
-/
import Derived.Test.YtfckhpkebdpkbaaPlayC3
import Derived.Test.YtfckhpkebdpkbaaPlayL10
import Derived.Test.YtfckhpkebdpkbaaPlayL12
namespace Go.Bp
open Go Go.Conc Go.Proofs Go.RowKit Go.Proofs.Ytfckhpkebdpkbaa

theorem ownrH {p : Nat → Prop} {a b : World} {B n : Nat} {A : Option Addr} {f : Nat → Value} (h : OwnR a B A n f) (hk : KeptH p a b) (hp : 0 < n → ∀ x, B ≤ x → hd A x → ¬ p x) : OwnR b B A n f := fun hn => by
  obtain ⟨g, ha, hB, ho⟩ := h hn
  exact ⟨g, ha, hB, ownvH ho hk (hp hn g hB ⟨0, ha⟩)⟩
theorem ownsH {p : Nat → Prop} {a b : World} {g n sz : Nat} {el : Nat → List Value} (h : OwnS a g n sz el) (hk : KeptH p a b) (hp : ¬ p g) : OwnS b g n sz el := by
  have hh := hk.block g h.1 hp
  exact ⟨Nat.lt_of_lt_of_le h.1 hk.size, fun i hi j v hv => (World.cell?_of_block (a := ⟨g, _, none⟩) hh).trans (h.2.1 i hi j v hv), fun j hj => by
    rw [World.cell?_of_block (a := ⟨g, _, none⟩) hh, World.frozen?_of_block (a := ⟨g, _, none⟩) hh]; exact h.2.2 j hj⟩
theorem rsH {a b : World} {n sz : Nat} {A : Option Addr} {el : Nat → List Value} (h : Rs a a.heap.size A n sz el) (hk : KeptH (fun _ => False) a b) : Rs b b.heap.size A n sz el := fun hn => by
  obtain ⟨g, o, ha, hg, hc⟩ := h hn
  have := hk.size
  exact ⟨g, o, ha, by omega, fun i hi j v hv => hk.cell (fun x => x) (hc i hi j v hv)⟩

/-- The two results of BandPlay, in blocks from B on and below E. -/
structure RV (B E : Nat) (u : World) (Al Ad Ac : Option Addr) (N K : Nat) (f d co : Nat → Value) : Prop where
  l : OwnR u B Al N f
  d : OwnR u B Ad N d
  c : OwnR u B Ac K co
  bl : 0 < N → ∀ x, hd Al x → x < E
  bd : 0 < N → ∀ x, hd Ad x → x < E
  bc : 0 < K → ∀ x, hd Ac x → x < E
  s1 : 0 < N → ∀ x, hd Al x → ¬ hd Ad x
  s2 : 0 < N → 0 < K → ∀ x, hd Ac x → ¬ hd Al x ∧ ¬ hd Ad x
theorem RV.go {B E : Nat} {u u' : World} {Al Ad Ac : Option Addr} {N K : Nat} {f d co : Nat → Value} {p : Nat → Prop} (h : RV B E u Al Ad Ac N K f d co) (hk : KeptH p u u') (hp : ∀ x, B ≤ x → x < E → ¬ p x) : RV B E u' Al Ad Ac N K f d co :=
  ⟨ownrH h.l hk fun hn x hx hh => hp x hx (h.bl hn x hh), ownrH h.d hk fun hn x hx hh => hp x hx (h.bd hn x hh), ownrH h.c hk fun hn x hx hh => hp x hx (h.bc hn x hh), h.bl, h.bd, h.bc, h.s1, h.s2⟩

theorem OwnR_ub {w : World} {B n : Nat} {A : Option Addr} {f : Nat → Value} (h : OwnR w B A n f) : 0 < n → ∀ k, hd A k → k < w.heap.size := fun hn k ⟨o, hk⟩ => by
  obtain ⟨g, ha, _, ho⟩ := h hn
  rw [ha] at hk
  simp at hk
  have := ho.1
  omega
theorem RV.of {B : Nat} {u : World} {Al Ad Ac : Option Addr} {N K : Nat} {f d co : Nat → Value} (h1 : OwnR u B Al N f) (h2 : OwnR u B Ad N d) (h3 : OwnR u B Ac K co) (h4 : 0 < N → ∀ x, hd Al x → ¬ hd Ad x) (h5 : 0 < N → 0 < K → ∀ x, hd Ac x → ¬ hd Al x ∧ ¬ hd Ad x) : RV B u.heap.size u Al Ad Ac N K f d co :=
  ⟨h1, h2, h3, OwnR_ub h1, OwnR_ub h2, OwnR_ub h3, h4, h5⟩

section
variable (W : World) (q p s : Int) (A : Option Addr) (n c : Nat) (A' : Option Addr) (m c' : Nat)
/-- The law's first argument in its box, and all that is older. -/
structure SA (u : World) : Prop where
  kp : KeptH (fun _ => False) W u
  lt : W.heap.size < u.heap.size
  kb : Bk u W.heap.size 25 #[.int .i64 q, .int .i64 p, .int .i64 s, .slice A n c, .slice A' m c']
end
section
variable {W u u' : World} {q p s : Int} {A : Option Addr} {n c : Nat} {A' : Option Addr} {m c' : Nat} {pp : Nat → Prop}
theorem SA.go (h : SA W q p s A n c A' m c' u) (hk : KeptH pp u u') (hp : ∀ x, x ≤ W.heap.size → ¬ pp x) : SA W q p s A n c A' m c' u' := by
  have := h.kp.size
  have := hk.size
  have := h.lt
  exact ⟨⟨hk.os.trans h.kp.os, hk.output.trans h.kp.output, by omega, fun x hx _ => (hk.block x (by omega) (hp x (by omega))).trans (h.kp.block x hx (fun z => z))⟩, by omega, bkH h.kb hk (hp _ (Nat.le_refl _))⟩
end

/-- A result of BandPlay with its variable. -/
structure SG (u : World) (B G : Nat) (Q P S : Int) (N K : Nat) (f d co : Nat → Value) (Gl : Option Addr) (gl : Nat) (Gd : Option Addr) (gd : Nat) (Gc : Option Addr) : Prop where
  k : Bk u G 29 #[.int .i64 Q, .int .i64 P, .int .i64 S, .slice Gl N gl, .slice Gd N gd]
  r : RV B G u Gl Gd Gc N K f d co
theorem SG.go {u u' : World} {B G : Nat} {Q P S : Int} {N K : Nat} {f d co : Nat → Value} {Gl : Option Addr} {gl : Nat} {Gd : Option Addr} {gd : Nat} {Gc : Option Addr} {pp : Nat → Prop} (h : SG u B G Q P S N K f d co Gl gl Gd gd Gc) (hk : KeptH pp u u') (hB : B ≤ G) (hp : ∀ x, B ≤ x → x ≤ G → ¬ pp x) : SG u' B G Q P S N K f d co Gl gl Gd gd Gc :=
  ⟨bkH h.k hk (hp G hB (Nat.le_refl _)), h.r.go hk fun x h1 h2 => hp x h1 (by omega)⟩

/-- The copies of the arguments. -/
structure XC (u : World) (G X9 : Nat) (q p s : Int) (Xl n Xd m k : Nat) (f : Nat → Int) (f' : Nat → Bool) (o1 o2 o3 : Nat → Int) : Prop where
  kb : Bk u G 29 #[.int .i64 q, .int .i64 p, .int .i64 s, .slice (some ⟨Xl, 0, none⟩) n n, .slice (some ⟨Xd, 0, none⟩) m m]
  l : OwnV u Xl n (fun i => .int .i64 (f i))
  d : OwnV u Xd m (fun i => .bool (f' i))
  o : OwnS u X9 k 3 (fun i => [.int .i64 (o1 i), .int .i64 (o2 i), .int .i64 (o3 i)])
theorem XC.go {u u' : World} {G X9 : Nat} {q p s : Int} {Xl n Xd m k : Nat} {f : Nat → Int} {f' : Nat → Bool} {o1 o2 o3 : Nat → Int} {pp : Nat → Prop} (h : XC u G X9 q p s Xl n Xd m k f f' o1 o2 o3) (hk : KeptH pp u u') (h1 : ¬ pp G) (h2 : ¬ pp Xl) (h3 : ¬ pp Xd) (h4 : ¬ pp X9) : XC u' G X9 q p s Xl n Xd m k f f' o1 o2 o3 :=
  ⟨bkH h.kb hk h1, ownvH h.l hk h2, ownvH h.d hk h3, ownsH h.o hk h4⟩
theorem XC.all {u u' : World} {G X9 : Nat} {q p s : Int} {Xl n Xd m k : Nat} {f : Nat → Int} {f' : Nat → Bool} {o1 o2 o3 : Nat → Int} (h : XC u G X9 q p s Xl n Xd m k f f' o1 o2 o3) (hk : KeptH (fun _ => False) u u') : XC u' G X9 q p s Xl n Xd m k f f' o1 o2 o3 :=
  h.go hk (fun z => z) (fun z => z) (fun z => z) (fun z => z)
/-- What BandPlay hands back, its numbers named. -/
def PV (Q P S : Int) (N K : Nat) (F : Nat → Int) (D : Nat → Bool) (CO : Nat → Int) (B0 : Nat) (v : Value) (u : World) : Prop :=
  ∃ Al cl Ad cd Ac cc, v = .tuple #[.agg #[.int .i64 Q, .int .i64 P, .int .i64 S, .slice Al N cl, .slice Ad N cd], .slice Ac K cc] ∧
    OwnR u B0 Al N (fun i => .int .i64 (F i)) ∧ OwnR u B0 Ad N (fun i => .bool (D i)) ∧ OwnR u B0 Ac K (fun i => .int .i64 (CO i)) ∧
    (0 < N → ∀ x, hd Al x → ¬ hd Ad x) ∧ (0 < N → 0 < K → ∀ x, hd Ac x → ¬ hd Al x ∧ ¬ hd Ad x)
theorem KeptH.bel {a b : World} (h : Below a.heap.size a b) : KeptH (fun _ => False) a b := KeptH.of h (Nat.le_refl _)
end Go.Bp

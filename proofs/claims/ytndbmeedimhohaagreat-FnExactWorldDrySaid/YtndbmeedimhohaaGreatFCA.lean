/- Plain functions for the scalar chapters of stint: no program in sight. -/
import Derived.IntWalk
import Derived.RowKit
import Derived.Test.YtndbmeedimhohaaGreatRows
import Derived.WalkKit
import Derived.WalkSpells
import Derived.WalkLawsBesides
import Derived.Lib.Hide
import Derived.Handy
import Derived.Below
import Derived.Laws.OwnMore
import Derived.Laws.Rows
import Derived.Deep.Draws
import Derived.Deep.Slices
import Derived.Laws.MakeOwn
import Derived.Laws.CopyOwn
import Derived.RegionTactic
import Derived.ChangeAlike
import Derived.BigRegion
import Derived.Deep.QuietTactic
import Derived.BigQuiet
import Derived.Deep.MidRow
namespace Go.Proofs.YtndbmeedimhohaaGreat

def inR (a b c : Int) : Bool := decide (b ≤ a ∧ a ≤ c)
theorem inR_t {a b c : Int} (h1 : b ≤ a) (h2 : a ≤ c) : inR a b c = true := by simp [inR, h1, h2]
theorem inR_f {a b c : Int} (h : ¬ (b ≤ a ∧ a ≤ c)) : inR a b c = false := by simp [inR]; omega
theorem inR_iff {a b c : Int} : inR a b c = true ↔ (b ≤ a ∧ a ≤ c) := by simp [inR]

def decayBeat (load used : Int) : Int := if inR load 0 8000000 && inR used 0 1000000 then load - load / 8 + used else 0
def decayTop (used : Int) : Int := if inR used 0 1000000 then 8 * used else 0
def weightOf (nice : Int) : Int := if inR nice (-10) 9 then 10 - nice else 0
def niceOf (w : Int) : Int := if inR w 1 20 then 10 - w else 0
def queueApart (a b : Int) : Int := if inR a 1 20 && inR b 1 20 then 149 * (a + b) else 0
def stepOf (w : Int) : Int := 232792560 / w
def virtualStep (u w : Int) : Int := if inR w 1 20 && inR u 0 100000000 then u * stepOf w else 0
def virtualUnits (v w : Int) : Int := if inR w 1 20 && inR v 1 300000000000000000 then (v + stepOf w - 1) / stepOf w else 0
def lagMost (w : Int) : Int := virtualStep 149 w
def lagCut (l w : Int) : Int := if inR w 1 20 then min (max l 0) (lagMost w) else 0
def maskHas (m c : Int) : Bool := inR m 0 15 && inR c 0 3 && (m / 2 ^ c.toNat % 2 == 1)
def bitIf (b : Bool) (v : Int) : Int := if b then v else 0
def andUp (a b : Int) : Nat → Int
  | 0 => 0
  | k + 1 => andUp a b k + bitIf (maskHas a k && maskHas b k) (2 ^ k)
def maskAnd (a b : Int) : Int := if inR a 0 15 && inR b 0 15 then andUp a b 4 else 0
def cntUp (m : Int) : Nat → Int
  | 0 => 0
  | k + 1 => cntUp m k + bitIf (maskHas m k) 1
def maskCount (m : Int) : Int := cntUp m 4
def maskFirst (m : Int) : Int := if maskHas m 0 then 0 else if maskHas m 1 then 1 else if maskHas m 2 then 2 else if maskHas m 3 then 3 else -1
theorem upto15 {x : Int} (h1 : 0 ≤ x) (h2 : x ≤ 15) : x = 0 ∨ x = 1 ∨ x = 2 ∨ x = 3 ∨ x = 4 ∨ x = 5 ∨ x = 6 ∨ x = 7 ∨ x = 8 ∨ x = 9 ∨ x = 10 ∨ x = 11 ∨ x = 12 ∨ x = 13 ∨ x = 14 ∨ x = 15 := by omega
theorem upto3 {x : Int} (h1 : 0 ≤ x) (h2 : x ≤ 3) : x = 0 ∨ x = 1 ∨ x = 2 ∨ x = 3 := by omega
theorem inR_false {a b c : Int} (h : inR a b c = false) : ¬ (b ≤ a ∧ a ≤ c) := by simp [inR] at h; omega
theorem maskHas_no (m c : Int) (h : inR m 0 15 = false) : maskHas m c = false := by simp [maskHas, h]
theorem maskHas_no2 (m c : Int) (h : inR c 0 3 = false) : maskHas m c = false := by simp [maskHas, h]
theorem maskHas_eq (m c : Int) (h1 : inR m 0 15 = true) (h2 : inR c 0 3 = true) : maskHas m c = (m / 2 ^ c.toNat % 2 == 1) := by simp [maskHas, h1, h2]
theorem maskHas_tmod (m c : Int) (h1 : inR m 0 15 = true) (h2 : inR c 0 3 = true) : ((m / 2 ^ c.toNat).tmod 2 == 1) = maskHas m c := by
  rw [maskHas_eq m c h1 h2]
  obtain ⟨g1, g2⟩ := inR_iff.1 h1
  obtain ⟨g3, g4⟩ := inR_iff.1 h2
  rcases upto15 g1 g2 with h | h | h | h | h | h | h | h | h | h | h | h | h | h | h | h <;> subst h <;> rcases upto3 g3 g4 with h | h | h | h <;> subst h <;> rfl
theorem bitIf_cases (b : Bool) (v : Int) (hv : 0 ≤ v) : 0 ≤ bitIf b v ∧ bitIf b v ≤ v := by cases b <;> simp [bitIf, hv]
theorem andUp_b (a b : Int) (k : Nat) (hk : k ≤ 4) : 0 ≤ andUp a b k ∧ andUp a b k ≤ 15 := by
  have h0 := bitIf_cases (maskHas a 0 && maskHas b 0) 1 (by omega)
  have h1 := bitIf_cases (maskHas a 1 && maskHas b 1) 2 (by omega)
  have h2 := bitIf_cases (maskHas a 2 && maskHas b 2) 4 (by omega)
  have h3 := bitIf_cases (maskHas a 3 && maskHas b 3) 8 (by omega)
  have : k = 0 ∨ k = 1 ∨ k = 2 ∨ k = 3 ∨ k = 4 := by omega
  rcases this with h | h | h | h | h <;> subst h <;> simp [andUp] <;> omega
def andI (a b c : Int) : Int := andUp a b c.toNat
theorem andI_succ (a b c : Int) (h : 0 ≤ c) : andI a b (c + 1) = andI a b c + bitIf (maskHas a c && maskHas b c) (2 ^ c.toNat) := by
  unfold andI
  rw [show (c + 1).toNat = c.toNat + 1 by omega]
  simp only [andUp]
  rw [show ((c.toNat : Nat) : Int) = c by omega]
theorem andI_b (a b c : Int) (h : 0 ≤ c) (h4 : c ≤ 4) : 0 ≤ andI a b c ∧ andI a b c ≤ 15 := andUp_b a b c.toNat (by omega)
theorem cntUp_b (m : Int) (k : Nat) : 0 ≤ cntUp m k ∧ cntUp m k ≤ k := by
  induction k with
  | zero => simp [cntUp]
  | succ k ih =>
    have := bitIf_cases (maskHas m k) 1 (by omega)
    simp only [cntUp]; omega
theorem maskFirst_b (m : Int) : -1 ≤ maskFirst m ∧ maskFirst m ≤ 3 := by
  unfold maskFirst; repeat' split
  all_goals omega
theorem maskAnd_b (a b : Int) : 0 ≤ maskAnd a b ∧ maskAnd a b ≤ 15 := by
  unfold maskAnd; split
  · exact andUp_b a b 4 (by omega)
  · omega
def levels (n : Int) : Int := if n = 2 then 1 else if n = 3 then 2 else if n = 4 then 2 else 0
theorem levels_no (n : Int) (h : inR n 1 4 = false) : levels n = 0 := by
  have := inR_false h
  unfold levels
  rw [if_neg (by omega), if_neg (by omega), if_neg (by omega)]
def beats (u : Int) : Nat → Int → Int
  | 0, l => l
  | k + 1, l => decayBeat (beats u k l) u
def beatsI (u n l : Int) : Int := beats u n.toNat l
theorem beatsI_succ (u l n : Int) (h : 0 ≤ n) : beatsI u (n + 1) l = decayBeat (beatsI u n l) u := by
  unfold beatsI
  rw [show (n + 1).toNat = n.toNat + 1 by omega]
  rfl
def decayBeats (l u n : Int) : Int := if inR n 0 20 && inR l 0 8000000 then beats u n.toNat l else 0
end Go.Proofs.YtndbmeedimhohaaGreat
namespace Go.Proofs.YtndbmeedimhohaaGreat
open Go.RowKit

theorem inRange_any (a b c : Int) (w : World) :
    Calls Tryz.prog 61 #[.int .i64 a, .int .i64 b, .int .i64 c] w fun e w' => e = .returned (.bool (inR a b c)) ∧ w = w' := by
  by_cases h1 : b ≤ a
  · by_cases h2 : a ≤ c
    · rw [inR_t h1 h2]
      go_enter Tryz.func61, Tryz.ntmps61
      go_wp2
      go_ret
      exact ⟨rfl, rfl⟩
    · rw [inR_f (by omega)]
      go_enter Tryz.func61, Tryz.ntmps61
      go_wp2
      go_ret
      exact ⟨rfl, rfl⟩
  · rw [inR_f (by omega)]
    go_enter Tryz.func61, Tryz.ntmps61
    go_wp2
    go_ret
    exact ⟨rfl, rfl⟩
theorem l1In_any (a b c : Int) (w : World) :
    Calls Tryz.prog 39 #[.int .i64 a, .int .i64 b, .int .i64 c] w fun e w' => e = .returned (.bool (inR a b c)) ∧ w = w' := by
  by_cases h1 : b ≤ a
  · by_cases h2 : a ≤ c
    · rw [inR_t h1 h2]
      go_enter Tryz.func39, Tryz.ntmps39
      go_wp2
      go_ret
      exact ⟨rfl, rfl⟩
    · rw [inR_f (by omega)]
      go_enter Tryz.func39, Tryz.ntmps39
      go_wp2
      go_ret
      exact ⟨rfl, rfl⟩
  · rw [inR_f (by omega)]
    go_enter Tryz.func39, Tryz.ntmps39
    go_wp2
    go_ret
    exact ⟨rfl, rfl⟩
theorem weightOk_any (a : Int) (w : World) :
    Calls Tryz.prog 86 #[.int .i64 a] w fun e w' => e = .returned (.bool (inR a 1 20)) ∧ w = w' := by
  go_enter Tryz.func86, Tryz.ntmps86
  go_wp2_with (go_at_call 61; refine (inRange_any _ _ _ _).mono ?_; rintro e w' ⟨rfl, rfl⟩)
  go_ret
  exact ⟨rfl, rfl⟩
theorem l1Weight_any (a : Int) (w : World) :
    Calls Tryz.prog 73 #[.int .i64 a] w fun e w' => e = .returned (.bool (inR a 1 20)) ∧ w = w' := by
  go_enter Tryz.func73, Tryz.ntmps73
  go_wp2_with (go_at_call 39; refine (l1In_any _ _ _ _).mono ?_; rintro e w' ⟨rfl, rfl⟩)
  go_ret
  exact ⟨rfl, rfl⟩
theorem niceOk_any (a : Int) (w : World) :
    Calls Tryz.prog 89 #[.int .i64 a] w fun e w' => e = .returned (.bool (inR a (-10) 9)) ∧ w = w' := by
  go_enter Tryz.func89, Tryz.ntmps89
  go_wp2_with (go_at_call 61; refine (inRange_any _ _ _ _).mono ?_; rintro e w' ⟨rfl, rfl⟩)
  go_ret
  exact ⟨rfl, rfl⟩
theorem loadOk_any (a : Int) (w : World) :
    Calls Tryz.prog 90 #[.int .i64 a] w fun e w' => e = .returned (.bool (inR a 0 8000000)) ∧ w = w' := by
  go_enter Tryz.func90, Tryz.ntmps90
  go_wp2_with (go_at_call 61; refine (inRange_any _ _ _ _).mono ?_; rintro e w' ⟨rfl, rfl⟩)
  go_ret
  exact ⟨rfl, rfl⟩
theorem iWeightOf_any (a : Int) (w : World) :
    Calls Tryz.prog 93 #[.int .i64 a] w fun e w' => e = .returned (.int .i64 (weightOf a)) ∧ w = w' := by
  unfold weightOf
  cases h1 : inR a (-10) 9
  case true =>
    obtain ⟨g1, g2⟩ := inR_iff.1 h1
    go_enter Tryz.func93, Tryz.ntmps93
    go_wp2_with (go_at_call 89; refine (niceOk_any _ _).mono ?_; rintro e w' ⟨rfl, rfl⟩)
    go_ret
    exact ⟨rfl, rfl⟩
  all_goals
    go_enter Tryz.func93, Tryz.ntmps93
    go_wp2_with (go_at_call 89; refine (niceOk_any _ _).mono ?_; rintro e w' ⟨rfl, rfl⟩)
    go_ret
    exact ⟨rfl, rfl⟩
theorem sWeightOf_any (a : Int) (w : World) :
    Calls Tryz.prog 77 #[.int .i64 a] w fun e w' => e = .returned (.int .i64 (weightOf a)) ∧ w = w' := by
  unfold weightOf
  cases h1 : inR a (-10) 9
  case true =>
    obtain ⟨g1, g2⟩ := inR_iff.1 h1
    go_enter Tryz.func77, Tryz.ntmps77
    go_wp2_with (go_at_call 39; refine (l1In_any _ _ _ _).mono ?_; rintro e w' ⟨rfl, rfl⟩)
    go_ret
    exact ⟨rfl, rfl⟩
  all_goals
    go_enter Tryz.func77, Tryz.ntmps77
    go_wp2_with (go_at_call 39; refine (l1In_any _ _ _ _).mono ?_; rintro e w' ⟨rfl, rfl⟩)
    go_ret
    exact ⟨rfl, rfl⟩
theorem cpuSetOk_any (a : Int) (w : World) :
    Calls Tryz.prog 126 #[.int .i64 a] w fun e w' => e = .returned (.bool (inR a 0 15)) ∧ w = w' := by
  by_cases h1 : 0 ≤ a
  · by_cases h2 : a ≤ 15
    · rw [inR_t h1 h2]
      go_enter Tryz.func126, Tryz.ntmps126
      go_wp2
      go_ret
      exact ⟨rfl, rfl⟩
    · rw [inR_f (by omega)]
      go_enter Tryz.func126, Tryz.ntmps126
      go_wp2
      go_ret
      exact ⟨rfl, rfl⟩
  · rw [inR_f (by omega)]
    go_enter Tryz.func126, Tryz.ntmps126
    go_wp2
    go_ret
    exact ⟨rfl, rfl⟩
theorem iMaskOk_any (a : Int) (w : World) :
    Calls Tryz.prog 109 #[.int .i64 a] w fun e w' => e = .returned (.bool (inR a 0 15)) ∧ w = w' := by
  go_enter Tryz.func109, Tryz.ntmps109
  go_wp2_with (go_at_call 126; refine (cpuSetOk_any _ _).mono ?_; rintro e w' ⟨rfl, rfl⟩)
  go_ret
  exact ⟨rfl, rfl⟩
theorem sMaskOk_any (a : Int) (w : World) :
    Calls Tryz.prog 74 #[.int .i64 a] w fun e w' => e = .returned (.bool (inR a 0 15)) ∧ w = w' := by
  go_enter Tryz.func74, Tryz.ntmps74
  go_wp2_with (go_at_call 39; refine (l1In_any _ _ _ _).mono ?_; rintro e w' ⟨rfl, rfl⟩)
  go_ret
  exact ⟨rfl, rfl⟩
end Go.Proofs.YtndbmeedimhohaaGreat
namespace Go.Proofs.YtndbmeedimhohaaGreat
/-- What is left of a size. -/
def szN (l : Int) (n : Nat) : Int := if l - n < 0 then -1 else l - n
theorem szN_neg (l : Int) (n : Nat) (h : l - n < 0) : szN l n = -1 := if_pos h
theorem szN_pos (l : Int) (n : Nat) (h : ¬ l - n < 0) : szN l n = l - n := if_neg h
end Go.Proofs.YtndbmeedimhohaaGreat
namespace Go.Proofs.YtndbmeedimhohaaGreat
open Go.RowKit

/-- Block g of the world holds just the cells cs (of element type t), none of them frozen. -/
def Bk (w : World) (g : Nat) (t : TypeId) (cs : Array Value) : Prop := w.heap[g]? = some (.cells cs t (0, 0))

theorem Bk.lt {w : World} {g : Nat} {t : TypeId} {cs : Array Value} (h : Bk w g t cs) : g < w.heap.size := by
  by_cases hg : g < w.heap.size
  · exact hg
  · unfold Bk at h
    rw [Array.getElem?_eq_none (by omega)] at h
    cases h
theorem Bk.cell {w : World} {g : Nat} {t : TypeId} {cs : Array Value} (h : Bk w g t cs) (i : Nat) : w.cell? ⟨g, i, none⟩ = cs[i]? := cell_of_row w g i cs t (0, 0) h
theorem Bk.free {w : World} {g : Nat} {t : TypeId} {cs : Array Value} (h : Bk w g t cs) (i : Nat) : w.frozen? ⟨g, i, none⟩ = false := by
  unfold Bk at h
  simp [World.frozen?, h]
theorem Bk.new (w : World) (t : TypeId) (cs : Array Value) : Bk (w.alloc (.cells cs t)) w.heap.size t cs := heap_alloc_new w _
theorem Bk.alloc {w : World} {g : Nat} {t : TypeId} {cs : Array Value} (h : Bk w g t cs) (o : Obj) : Bk (w.alloc o) g t cs := (Below.heap_alloc w o g h.lt).trans h
theorem Bk.drew {w : World} {g : Nat} {t : TypeId} {cs : Array Value} (h : Bk w g t cs) : Bk w.drew g t cs := h
theorem Bk.drewN {w : World} {g : Nat} {t : TypeId} {cs : Array Value} (h : Bk w g t cs) (n : Nat) : Bk (w.drewN n) g t cs := h
theorem Bk.put {w : World} {g : Nat} {t : TypeId} {cs : Array Value} (h : Bk w g t cs) (i : Nat) (u : Value) : Bk (w.setCell ⟨g, i, none⟩ u) g t (cs.setIfInBounds i u) := by
  unfold Bk at h ⊢
  simp [World.setCell, Array.getElem?_modify, h]
theorem Bk.off {w : World} {g : Nat} {t : TypeId} {cs : Array Value} (h : Bk w g t cs) {p : Addr} (hp : g ≠ p.block) (u : Value) : Bk (w.setCell p u) g t cs := (Below.heap_setCell w p u g hp).trans h
theorem Bk.below {w w' : World} {g B : Nat} {t : TypeId} {cs : Array Value} (h : Bk w g t cs) (hb : Below B w w') (hg : g < B) : Bk w' g t cs := (hb.block g hg).trans h
theorem Bk.grown {w w' : World} {g : Nat} {t : TypeId} {cs : Array Value} {row : Option Nat} (h : Bk w g t cs) (hb : w.grownBy w' row) (hg : some g ≠ row) : Bk w' g t cs := (hb.block g h.lt hg).trans h

theorem below_drewN {B : Nat} {a w : World} (h : Below B a w) (n : Nat) : Below B a (w.drewN n) := ⟨h.os, h.tape, h.output, h.size, h.block⟩
end Go.Proofs.YtndbmeedimhohaaGreat
namespace Go.Proofs.YtndbmeedimhohaaGreat
open Go.RowKit

/-- The slice with head A and m cells reads, cell by cell, as f; it lies below block B. -/
def Rw (w : World) (B : Nat) (A : Option Addr) (m : Nat) (f : Nat → Value) : Prop :=
  0 < m → ∃ g o, A = some ⟨g, o, none⟩ ∧ g < B ∧ ∀ i, i < m → w.cell? ⟨g, o + i, none⟩ = some (f i)
theorem Rw.below {w w' : World} {B m : Nat} {A : Option Addr} {f : Nat → Value} (h : Rw w B A m f) (hb : Below B w w') : Rw w' B A m f := fun hm => by
  obtain ⟨g, o, ha, hg, hc⟩ := h hm
  exact ⟨g, o, ha, hg, fun i hi => (hb.cell (p := ⟨g, o + i, none⟩) hg).trans (hc i hi)⟩
theorem Rw.more {w : World} {B B' m : Nat} {A : Option Addr} {f : Nat → Value} (h : Rw w B A m f) (hB : B ≤ B') : Rw w B' A m f := fun hm => by
  obtain ⟨g, o, ha, hg, hc⟩ := h hm
  exact ⟨g, o, ha, by omega, hc⟩
theorem Rw.congr {w : World} {B m : Nat} {A : Option Addr} {f f' : Nat → Value} (h : Rw w B A m f) (he : ∀ i, i < m → f i = f' i) : Rw w B A m f' := fun hm => by
  obtain ⟨g, o, ha, hg, hc⟩ := h hm
  exact ⟨g, o, ha, hg, fun i hi => (hc i hi).trans (by rw [he i hi])⟩
/-- Rows known in a world W stay known in whatever world W becomes, below its own size. -/
theorem Rw.at_ {W w : World} {m : Nat} {A : Option Addr} {f : Nat → Value} (h : Rw W W.heap.size A m f) (hb : Below W.heap.size W w) : Rw w w.heap.size A m f :=
  (h.below hb).more hb.size

/-- Block g is a block of m cells, none frozen, that reads as f. -/
def Own1 (w : World) (g : Nat) (t : TypeId) (m : Nat) (f : Nat → Value) : Prop := ∃ cs : Array Value, Bk w g t cs ∧ cs.size = m ∧ ∀ i, i < m → cs[i]? = some (f i)
theorem Own1.rw_ {w : World} {g m : Nat} {t : TypeId} {f : Nat → Value} (h : Own1 w g t m f) : Rw w w.heap.size (some ⟨g, 0, none⟩) m f := fun _ => by
  obtain ⟨cs, hb, hs, hc⟩ := h
  exact ⟨g, 0, rfl, hb.lt, fun i hi => by rw [hb.cell, Nat.zero_add, hc i hi]⟩
theorem Own1.lt {w : World} {g m : Nat} {t : TypeId} {f : Nat → Value} (h : Own1 w g t m f) : g < w.heap.size := by
  obtain ⟨cs, hb, _⟩ := h
  exact hb.lt
theorem Own1.below {w w' : World} {g m B : Nat} {t : TypeId} {f : Nat → Value} (h : Own1 w g t m f) (hb : Below B w w') (hg : g < B) : Own1 w' g t m f := by
  obtain ⟨cs, h1, h2, h3⟩ := h
  exact ⟨cs, h1.below hb hg, h2, h3⟩
theorem bel {A B C : World} (h1 : Below A.heap.size A B) (h2 : Below B.heap.size B C) : Below A.heap.size A C := h1.trans (h2.mono h1.size)

/-- make([]T, n) of a one-cell element: the new block. -/
theorem made1 (v : Value) (n : Nat) : (madeCells #[v] n).size = n ∧ ∀ i, i < n → (madeCells #[v] n)[i]? = some v := by
  refine ⟨size_madeCells _ _, fun i hi => ?_⟩
  have := toList_madeCells_one v n
  rw [← Array.getElem?_toList, this]
  simp [hi]
theorem Bk.new' (w : World) (g : Nat) (t : TypeId) (cs : Array Value) (hg : w.heap.size = g) : Bk (w.alloc (.cells cs t)) g t cs := by
  subst hg
  exact Bk.new w t cs
theorem Bk.frees {w : World} {g : Nat} {t : TypeId} {cs : Array Value} (h : Bk w g t cs) : ∀ i, w.frozen? ⟨g, i, none⟩ = false := fun i => h.free i
theorem Bk.five {w : World} {g : Nat} {t : TypeId} {a b c d e : Value} (h : Bk w g t #[a, b, c, d, e]) :
    w.cell? ⟨g, 0, none⟩ = some a ∧ w.cell? ⟨g, 1, none⟩ = some b ∧ w.cell? ⟨g, 2, none⟩ = some c ∧ w.cell? ⟨g, 3, none⟩ = some d ∧ w.cell? ⟨g, 4, none⟩ = some e :=
  ⟨h.cell 0, h.cell 1, h.cell 2, h.cell 3, h.cell 4⟩
theorem Bk.four {w : World} {g : Nat} {t : TypeId} {a b c d : Value} (h : Bk w g t #[a, b, c, d]) :
    w.cell? ⟨g, 0, none⟩ = some a ∧ w.cell? ⟨g, 1, none⟩ = some b ∧ w.cell? ⟨g, 2, none⟩ = some c ∧ w.cell? ⟨g, 3, none⟩ = some d :=
  ⟨h.cell 0, h.cell 1, h.cell 2, h.cell 3⟩
theorem Bk.rowOff {w : World} {g g' : Nat} {t : TypeId} {cs : Array Value} (h : Bk w g t cs) (hp : g ≠ g') (xs : Array Value) : Bk (w.setRow g' xs) g t cs := (setRow_other w g' g xs hp).trans h
theorem Own1.off {w : World} {g m : Nat} {t : TypeId} {f : Nat → Value} (h : Own1 w g t m f) {p : Addr} (hp : g ≠ p.block) (u : Value) : Own1 (w.setCell p u) g t m f := by
  obtain ⟨cs, h1, h2, h3⟩ := h
  exact ⟨cs, h1.off hp u, h2, h3⟩
theorem Own1.rowOff {w : World} {g g' m : Nat} {t : TypeId} {f : Nat → Value} (h : Own1 w g t m f) (hp : g ≠ g') (xs : Array Value) : Own1 (w.setRow g' xs) g t m f := by
  obtain ⟨cs, h1, h2, h3⟩ := h
  exact ⟨cs, h1.rowOff hp xs, h2, h3⟩
theorem Own1.drew {w : World} {g m : Nat} {t : TypeId} {f : Nat → Value} (h : Own1 w g t m f) : Own1 w.drew g t m f := h
theorem Own1.alloc {w : World} {g m : Nat} {t : TypeId} {f : Nat → Value} (h : Own1 w g t m f) (o : Obj) : Own1 (w.alloc o) g t m f := by
  obtain ⟨cs, h1, h2, h3⟩ := h
  exact ⟨cs, h1.alloc o, h2, h3⟩
end Go.Proofs.YtndbmeedimhohaaGreat
namespace Go.Proofs.YtndbmeedimhohaaGreat
open Go.RowKit

theorem rangeAt_below {w w' : World} {B g o : Nat} {cs : List Value} (h : w.rangeAt g o cs) (hb : Below B w w') (hg : g < B) : w'.rangeAt g o cs := fun j v hv =>
  (hb.cell (p := ⟨g, o + j, none⟩) hg).trans (h j v hv)
theorem there_below {w w' : World} {B g o n : Nat} (h : w.there g o n) (hb : Below B w w') (hg : g < B) : w'.there g o n := fun j hj => by
  obtain ⟨h1, h2⟩ := h j hj
  exact ⟨by rw [hb.cell (p := ⟨g, o + j, none⟩) hg]; exact h1, by rw [hb.frozen (p := ⟨g, o + j, none⟩) hg]; exact h2⟩
/-- The slice with head A and n elements of sz cells reads, element by element, as el; it lies below block B. -/
def Rs (w : World) (B : Nat) (A : Option Addr) (n sz : Nat) (el : Nat → List Value) : Prop :=
  0 < n → ∃ g o, A = some ⟨g, o, none⟩ ∧ g < B ∧ ∀ i, i < n → w.rangeAt g (o + i * sz) (el i)
theorem Rs.below {w w' : World} {B n sz : Nat} {A : Option Addr} {el : Nat → List Value} (h : Rs w B A n sz el) (hb : Below B w w') : Rs w' B A n sz el := fun hm => by
  obtain ⟨g, o, ha, hg, hc⟩ := h hm
  exact ⟨g, o, ha, hg, fun i hi => rangeAt_below (hc i hi) hb hg⟩
theorem Rs.more {w : World} {B B' n sz : Nat} {A : Option Addr} {el : Nat → List Value} (h : Rs w B A n sz el) (hB : B ≤ B') : Rs w B' A n sz el := fun hm => by
  obtain ⟨g, o, ha, hg, hc⟩ := h hm
  exact ⟨g, o, ha, by omega, hc⟩
theorem Rs.at_ {W w : World} {n sz : Nat} {A : Option Addr} {el : Nat → List Value} (h : Rs W W.heap.size A n sz el) (hb : Below W.heap.size W w) : Rs w w.heap.size A n sz el :=
  (h.below hb).more hb.size
/-- Block g holds n elements of sz cells that read as el, none frozen, and is there. -/
def OwnS (w : World) (g n sz : Nat) (el : Nat → List Value) : Prop := g < w.heap.size ∧ (∀ i, i < n → w.rangeAt g (i * sz) (el i)) ∧ w.there g 0 (n * sz)
theorem OwnS.rs {w : World} {g n sz : Nat} {el : Nat → List Value} (h : OwnS w g n sz el) : Rs w w.heap.size (some ⟨g, 0, none⟩) n sz el := fun _ =>
  ⟨g, 0, rfl, h.1, fun i hi => by rw [Nat.zero_add]; exact h.2.1 i hi⟩
theorem OwnS.below {w w' : World} {g n sz B : Nat} {el : Nat → List Value} (h : OwnS w g n sz el) (hb : Below B w w') (hg : g < B) : OwnS w' g n sz el :=
  ⟨Nat.lt_of_lt_of_le h.1 hb.size, fun i hi => rangeAt_below (h.2.1 i hi) hb hg, there_below h.2.2 hb hg⟩
theorem size_setCells (b : Nat) : ∀ (vs : List Value) (o : Nat) (w : World), (w.setCells b o vs).heap.size = w.heap.size
  | [], _, _ => rfl
  | v :: r, o, w => by
    rw [World.setCells, size_setCells b r (o + 1)]
    simp
theorem below_setCells {B : Nat} {a : World} (b : Nat) (hb : B ≤ b) : ∀ (vs : List Value) (o : Nat) (w : World), Below B a w → Below B a (w.setCells b o vs)
  | [], _, _, h => h
  | v :: r, o, w, h => by
    rw [World.setCells]
    exact below_setCells b hb r (o + 1) _ (h.setCell hb v)
/-- What a loop that fills such a block has done when k elements are there. -/
def Fill (w : World) (g n sz k : Nat) (el : Nat → List Value) : Prop := g < w.heap.size ∧ (∀ i, i < k → w.rangeAt g (i * sz) (el i)) ∧ w.there g 0 (n * sz)
theorem Fill.done {w : World} {g n sz : Nat} {el : Nat → List Value} (h : Fill w g n sz n el) : OwnS w g n sz el := h
theorem Fill.below {w w' : World} {g n sz k B : Nat} {el : Nat → List Value} (h : Fill w g n sz k el) (hb : Below B w w') (hg : g < B) : Fill w' g n sz k el :=
  ⟨Nat.lt_of_lt_of_le h.1 hb.size, fun i hi => rangeAt_below (h.2.1 i hi) hb hg, there_below h.2.2 hb hg⟩
theorem mul_succ_le {k n sz : Nat} (h : k < n) : k * sz + sz ≤ n * sz := by
  have := Nat.mul_le_mul_right sz h
  rw [Nat.succ_mul] at this
  exact this
theorem Fill.there_at {w : World} {g n sz k : Nat} {el : Nat → List Value} (h : Fill w g n sz k el) (hk : k < n) : w.there g (k * sz) sz := fun j hj => by
  have := h.2.2 (k * sz + j) (by have := mul_succ_le (sz := sz) hk; omega)
  rw [Nat.zero_add] at this
  exact this
theorem Fill.step {w : World} {g n sz k : Nat} {el : Nat → List Value} (h : Fill w g n sz k el) (hk : k < n) (hl : ∀ i, (el i).length = sz) : Fill (w.setCells g (k * sz) (el k)) g n sz (k + 1) el := by
  refine ⟨by rw [size_setCells]; exact h.1, fun i hi => ?_, World.there_setCells h.2.2 _ _ _⟩
  by_cases e : i = k
  · subst e
    exact World.rangeAt_setCells_same w g (i * sz) (el i) (by rw [hl i]; exact h.there_at hk)
  · have := mul_succ_le (sz := sz) (show i < k by omega)
    exact World.rangeAt_setCells_apart (h.2.1 i (by omega)) g (k * sz) (el k) (.inr (.inl (by rw [hl i]; exact this)))
/-- A new block of n * sz cells. -/
theorem Fill.new {w : World} {t : TypeId} {cs : Array Value} {n sz : Nat} (el : Nat → List Value) (hs : cs.size = n * sz) : Fill (w.alloc (.cells cs t)) w.heap.size n sz 0 el := by
  have hb := Bk.new w t cs
  refine ⟨by simp, fun i hi => by omega, fun j hj => ?_⟩
  rw [Nat.zero_add, hb.cell j, hb.free j, Array.getElem?_eq_getElem (by omega)]
  exact ⟨rfl, rfl⟩
end Go.Proofs.YtndbmeedimhohaaGreat

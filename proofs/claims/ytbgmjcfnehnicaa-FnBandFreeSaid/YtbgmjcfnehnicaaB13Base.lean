/- Bands: spec's BandDo. -/
import Derived.Test.YtbgmjcfnehnicaaB12Base
import Derived.StillTailTactics
namespace Go.Proofs.Ytbgmjcfnehnicaa
open Go.RowKit
theorem Bk.three {w : World} {g : Nat} {t : TypeId} {a b c : Value} (h : Bk w g t #[a, b, c]) : w.cell? ⟨g, 0, none⟩ = some a ∧ w.cell? ⟨g, 1, none⟩ = some b ∧ w.cell? ⟨g, 2, none⟩ = some c := ⟨h.cell 0, h.cell 1, h.cell 2⟩
/-- What is known when spec's BandDo has its own copy in its box. -/
structure OwnX (w x : World) (q p s : Int) (m cl cd gl gd : Nat) (kind cpu k : Int) (f : Nat → Int) (f' : Nat → Bool) : Prop where
  box : Bk x w.heap.size 25 #[.int .i64 q, .int .i64 p, .int .i64 s, .slice (some ⟨gl, 0, none⟩) m cl, .slice (some ⟨gd, 0, none⟩) m cd]
  op : Bk x (w.heap.size + 1) 44 #[.int .i64 kind, .int .i64 cpu, .int .i64 k]
  res : Bk x (w.heap.size + 1 + 1) 25 #[.int .i64 0, .int .i64 0, .int .i64 0, .slice none 0 0, .slice none 0 0]
  fl : OwnV x gl m (fun i => .int .i64 (f i))
  fd : OwnV x gd m (fun i => .bool (f' i))
  bel : Below w.heap.size w x
  rl : RoomV 3 x gl m cl
theorem OwnX.band {w x : World} {q p s : Int} {m cl cd gl gd : Nat} {kind cpu k : Int} {f : Nat → Int} {f' : Nat → Bool} (h : OwnX w x q p s m cl cd gl gd kind cpu k f f') (h1 : w.heap.size < gl) (h2 : w.heap.size < gd) (h3 : gl ≠ gd) : BandC x w.heap.size 0 q m cl cd ⟨p, s, f, f'⟩ gl gd :=
  BandC.new (b := ⟨p, s, f, f'⟩) h.box h.fl h.fd (by omega) (by omega) h3
theorem OwnX.drewN {w x : World} {q p s : Int} {m cl cd gl gd : Nat} {kind cpu k : Int} {f : Nat → Int} {f' : Nat → Bool} (h : OwnX w x q p s m cl cd gl gd kind cpu k f f') (a : Nat) : OwnX w (x.drewN a) q p s m cl cd gl gd kind cpu k f f' :=
  ⟨h.box.drewN a, h.op.drewN a, h.res.drewN a, h.fl.same rfl (Nat.le_refl _), h.fd.same rfl (Nat.le_refl _), below_drewN h.bel a, h.rl.drewN a⟩
theorem OwnV.drewN {w : World} {g n : Nat} {f : Nat → Value} (h : OwnV w g n f) (a : Nat) : OwnV (w.drewN a) g n f := h.same rfl (Nat.le_refl _)
theorem OwnV.drew {w : World} {g n : Nat} {f : Nat → Value} (h : OwnV w g n f) : OwnV w.drew g n f := h.same rfl (Nat.le_refl _)
theorem setAt_self {α : Type} (f : Nat → α) (c : Nat) (v : α) (h : f c = v) (i : Nat) : setAt f c v i = f i := by
  unfold setAt
  split
  · next e => rw [e, h]
  · rfl
theorem OwnX.mk' {w w2 : World} {q p s : Int} {m cl cd gl gd : Nat} {kind cpu k : Int} {f : Nat → Int} {f' : Nat → Bool} {old : Array Value} (k0 : Bk w2 w.heap.size 25 old) (k1 : Bk w2 (w.heap.size + 1) 44 #[.int .i64 kind, .int .i64 cpu, .int .i64 k])
    (k2 : Bk w2 (w.heap.size + 1 + 1) 25 #[.int .i64 0, .int .i64 0, .int .i64 0, .slice none 0 0, .slice none 0 0]) (hl : OwnV w2 gl m (fun i => .int .i64 (f i))) (hd : OwnV w2 gd m (fun i => .bool (f' i))) (hr : RoomV 3 w2 gl m cl) (hb : Below w.heap.size w w2) (h1 : w.heap.size < gl) (h2 : w.heap.size < gd) :
    OwnX w (w2.setRow w.heap.size #[.int .i64 q, .int .i64 p, .int .i64 s, .slice (some ⟨gl, 0, none⟩) m cl, .slice (some ⟨gd, 0, none⟩) m cd]) q p s m cl cd gl gd kind cpu k f f' :=
  ⟨setRow_heap _ _ _ _ _ _ k0, k1.rowOff (by omega) _, k2.rowOff (by omega) _, hl.same (setRow_other _ _ _ _ (by omega)) (by simp [World.setRow]), hd.same (setRow_other _ _ _ _ (by omega)) (by simp [World.setRow]), below_setRow hb (Nat.le_refl _) _, hr.same (setRow_other _ _ _ _ (by omega))⟩
end Go.Proofs.Ytbgmjcfnehnicaa

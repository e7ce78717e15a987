/-
  Bands: spec's l5Wet and BandDo.
-/
import Derived.Test.YtfckhpkebdpkbaaPlayL8
import Derived.StillTailTactics
namespace Go.Proofs.Ytfckhpkebdpkbaa
open Go.RowKit
set_option maxHeartbeats 400000 in
theorem l5Wet_any (q p s : Int) (Al : Option Addr) (n nl cl cd gd : Nat) (d : Nat → Bool) (hn : n ≤ 1048576) (w : World) (hd : OwnV w gd n (fun i => .bool (d i))) :
    Calls Try.prog 38 #[.agg #[.int .i64 q, .int .i64 p, .int .i64 s, .slice Al nl cl, .slice (some ⟨gd, 0, none⟩) n cd]] w fun e w' => e = .returned (.agg #[.int .i64 q, .int .i64 p, .int .i64 s, .slice Al nl cl, .slice (some ⟨gd, 0, none⟩) n cd]) ∧
      OwnV w' gd n (fun _ => .bool false) ∧ Kept (fun x => x = gd) w w' := by
  have hlt := hd.1
  have HD := Lib.hid hd
  clear hd
  go_enter Try.func38, Try.ntmps38
  go_wp2
  go_loopw [3] (fun i wr => ∃ k : Nat, k ≤ n ∧ i = .int .i64 k ∧ Hid (OwnV wr gd n (fun i => if i < k then .bool false else .bool (d i))) ∧ Hid (Bk wr (w.heap.size + 1) 29 #[.int .i64 0, .int .i64 0, .int .i64 0, .slice none 0 0, .slice none 0 0]) ∧ Hid (Bk wr w.heap.size 29 #[.int .i64 q, .int .i64 p, .int .i64 s, .slice Al nl cl, .slice (some ⟨gd, 0, none⟩) n cd]) ∧ Hid (Kept (fun x => x = gd) w wr)) (fun i _ => n - (intOf i).toNat)
  case atStart =>
    refine ⟨0, Nat.zero_le _, rfl, ?_, Bk.new' _ (w.heap.size + 1) _ _ (by simp), (Bk.new w _ _).alloc _, ?_⟩
    · exact ((HD.out.same (Below.heap_alloc w _ _ hlt) (by simp)).same (Below.heap_alloc _ _ _ (by simp; omega)) (by simp)).congr (fun i _ => by simp)
    · exact ((Kept.refl _ w).alloc _).alloc _
  case round =>
    obtain ⟨k, hk, rfl, HV, HR, HX, HK⟩ := hrel
    obtain ⟨x0, x1, x2, x3, x4⟩ := HX.out.five
    by_cases hlt2 : k < n
    · have d0 := HV.out.2.1 k hlt2
      have d1 := HV.out.2.2 k hlt2
      have HV2 : Hid (OwnV (wr.setCell ⟨gd, k, none⟩ (.bool false)) gd n (fun i => if i < k + 1 then .bool false else .bool (d i))) := (HV.out.put hlt2 _).congr (fun i _ => markStep (F := fun _ => Value.bool false) (el := fun i => Value.bool (d i)) rfl)
      have HR2 := Lib.hid (HR.out.off (p := ⟨gd, k, none⟩) (by simp; omega) (.bool false))
      have HX2 := Lib.hid (HX.out.off (p := ⟨gd, k, none⟩) (by simp; omega) (.bool false))
      have HK2 : Hid (Kept (fun x => x = gd) w (wr.setCell ⟨gd, k, none⟩ (.bool false))) := HK.out.setCell (q := ⟨gd, k, none⟩) rfl _
      clear HV HR HX HK
      go_wp2
      go_roundw
      case rel => exact ⟨k + 1, by omega, by go_num, HV2, HR2, HX2, HK2⟩
      case measure => simp [intOf]; omega
    · obtain rfl : k = n := by omega
      go_wp2_with (first
        | refine wpList_load_row rfl 29 _ rfl w.heap.size rfl 29 _ (0, 0) _ HX.out Try.underlying29 rfl (by kernel_rfl) ?_
        | refine wpList_store_row rfl 29 _ _ rfl (w.heap.size + 1) _ rfl rfl 29 _ HR.out (by kernel_rfl) rfl (by kernel_rfl) ?_)
      refine bodyPost_ret (results_cell_row rfl _ _ (w.heap.size + 1) 29 _ (0, 0) _ rfl (setRow_heap _ _ _ _ _ _ HR.out) Try.underlying29 rfl (by kernel_rfl)) rfl ⟨rfl, ?_, ?_⟩
      · exact (HV.out.congr (fun i hi => by simp [hi])).same (setRow_other _ _ _ _ (by omega)) (by simp [World.setRow])
      · exact ⟨HK.out.os, HK.out.tape, HK.out.output, by have := HK.out.size; simpa [World.setRow] using this, fun i hi hp => (setRow_other _ _ _ _ (by omega)).trans (HK.out.block i hi hp)⟩
end Go.Proofs.Ytfckhpkebdpkbaa

/- Bands: spec's BandDo. -/
namespace Go.Proofs.Ytfckhpkebdpkbaa
open Go.RowKit
theorem Bk.three {w : World} {g : Nat} {t : TypeId} {a b c : Value} (h : Bk w g t #[a, b, c]) : w.cell? ⟨g, 0, none⟩ = some a ∧ w.cell? ⟨g, 1, none⟩ = some b ∧ w.cell? ⟨g, 2, none⟩ = some c := ⟨h.cell 0, h.cell 1, h.cell 2⟩
/-- What is known when spec's BandDo has its own copy in its box. -/
structure OwnX (w x : World) (q p s : Int) (m cl cd gl gd : Nat) (kind cpu k : Int) (f : Nat → Int) (f' : Nat → Bool) : Prop where
  box : Bk x w.heap.size 29 #[.int .i64 q, .int .i64 p, .int .i64 s, .slice (some ⟨gl, 0, none⟩) m cl, .slice (some ⟨gd, 0, none⟩) m cd]
  op : Bk x (w.heap.size + 1) 48 #[.int .i64 kind, .int .i64 cpu, .int .i64 k]
  res : Bk x (w.heap.size + 1 + 1) 29 #[.int .i64 0, .int .i64 0, .int .i64 0, .slice none 0 0, .slice none 0 0]
  fl : OwnV x gl m (fun i => .int .i64 (f i))
  fd : OwnV x gd m (fun i => .bool (f' i))
  bel : Below w.heap.size w x
  rl : RoomV 3 x gl m cl
theorem OwnX.band {w x : World} {q p s : Int} {m cl cd gl gd : Nat} {kind cpu k : Int} {f : Nat → Int} {f' : Nat → Bool} (h : OwnX w x q p s m cl cd gl gd kind cpu k f f') (h1 : w.heap.size < gl) (h2 : w.heap.size < gd) (h3 : gl ≠ gd) : BandC x w.heap.size 0 q m cl cd ⟨p, s, f, f'⟩ gl gd :=
  BandC.new (b := ⟨p, s, f, f'⟩) h.box h.fl h.fd (by omega) (by omega) h3
theorem OwnX.drewN {w x : World} {q p s : Int} {m cl cd gl gd : Nat} {kind cpu k : Int} {f : Nat → Int} {f' : Nat → Bool} (h : OwnX w x q p s m cl cd gl gd kind cpu k f f') (a : Nat) : OwnX w (x.drewN a) q p s m cl cd gl gd kind cpu k f f' :=
  ⟨h.box.drewN a, h.op.drewN a, h.res.drewN a, h.fl.same rfl (Nat.le_refl _), h.fd.same rfl (Nat.le_refl _), below_drewN h.bel a, h.rl.drewN a⟩
theorem OwnV.drewN {w : World} {g n : Nat} {f : Nat → Value} (h : OwnV w g n f) (a : Nat) : OwnV (w.drewN a) g n f := h.same rfl (Nat.le_refl _)
theorem OwnV.drew {w : World} {g n : Nat} {f : Nat → Value} (h : OwnV w g n f) : OwnV w.drew g n f := h.same rfl (Nat.le_refl _)
theorem setAt_self {α : Type} (f : Nat → α) (c : Nat) (v : α) (h : f c = v) (i : Nat) : setAt f c v i = f i := by
  unfold setAt
  split
  · next e => rw [e, h]
  · rfl
theorem OwnX.mk' {w w2 : World} {q p s : Int} {m cl cd gl gd : Nat} {kind cpu k : Int} {f : Nat → Int} {f' : Nat → Bool} {old : Array Value} (k0 : Bk w2 w.heap.size 29 old) (k1 : Bk w2 (w.heap.size + 1) 48 #[.int .i64 kind, .int .i64 cpu, .int .i64 k])
    (k2 : Bk w2 (w.heap.size + 1 + 1) 29 #[.int .i64 0, .int .i64 0, .int .i64 0, .slice none 0 0, .slice none 0 0]) (hl : OwnV w2 gl m (fun i => .int .i64 (f i))) (hd : OwnV w2 gd m (fun i => .bool (f' i))) (hr : RoomV 3 w2 gl m cl) (hb : Below w.heap.size w w2) (h1 : w.heap.size < gl) (h2 : w.heap.size < gd) :
    OwnX w (w2.setRow w.heap.size #[.int .i64 q, .int .i64 p, .int .i64 s, .slice (some ⟨gl, 0, none⟩) m cl, .slice (some ⟨gd, 0, none⟩) m cd]) q p s m cl cd gl gd kind cpu k f f' :=
  ⟨setRow_heap _ _ _ _ _ _ k0, k1.rowOff (by omega) _, k2.rowOff (by omega) _, hl.same (setRow_other _ _ _ _ (by omega)) (by simp [World.setRow]), hd.same (setRow_other _ _ _ _ (by omega)) (by simp [World.setRow]), below_setRow hb (Nat.le_refl _) _, hr.same (setRow_other _ _ _ _ (by omega))⟩
end Go.Proofs.Ytfckhpkebdpkbaa

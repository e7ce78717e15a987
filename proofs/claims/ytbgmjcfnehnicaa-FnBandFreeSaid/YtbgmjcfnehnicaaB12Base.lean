/- Bands: spec's l5Wet and BandDo. -/
import Derived.Test.YtbgmjcfnehnicaaB11Base
import Derived.StillTailTactics
namespace Go.Proofs.Ytbgmjcfnehnicaa
open Go.RowKit
set_option maxHeartbeats 400000 in
theorem l5Wet_any (q p s : Int) (Al : Option Addr) (n nl cl cd gd : Nat) (d : Nat → Bool) (hn : n ≤ 1048576) (w : World) (hd : OwnV w gd n (fun i => .bool (d i))) :
    Calls Try.prog 44 #[.agg #[.int .i64 q, .int .i64 p, .int .i64 s, .slice Al nl cl, .slice (some ⟨gd, 0, none⟩) n cd]] w fun e w' => e = .returned (.agg #[.int .i64 q, .int .i64 p, .int .i64 s, .slice Al nl cl, .slice (some ⟨gd, 0, none⟩) n cd]) ∧
      OwnV w' gd n (fun _ => .bool false) ∧ Kept (fun x => x = gd) w w' := by
  have hlt := hd.1
  have HD := Lib.hid hd
  clear hd
  go_enter Try.func44, Try.ntmps44
  go_wp2
  go_loopw [3] (fun i wr => ∃ k : Nat, k ≤ n ∧ i = .int .i64 k ∧ Hid (OwnV wr gd n (fun i => if i < k then .bool false else .bool (d i))) ∧ Hid (Bk wr (w.heap.size + 1) 25 #[.int .i64 0, .int .i64 0, .int .i64 0, .slice none 0 0, .slice none 0 0]) ∧ Hid (Bk wr w.heap.size 25 #[.int .i64 q, .int .i64 p, .int .i64 s, .slice Al nl cl, .slice (some ⟨gd, 0, none⟩) n cd]) ∧ Hid (Kept (fun x => x = gd) w wr)) (fun i _ => n - (intOf i).toNat)
  case atStart =>
    refine ⟨0, Nat.zero_le _, rfl, ?_, Bk.new' _ (w.heap.size + 1) _ _ (by simp), (Bk.new w _ _).alloc _, ?_⟩
    · exact ((HD.out.same (Below.heap_alloc w _ _ hlt) (by simp)).same (Below.heap_alloc _ _ _ (by simp; omega)) (by simp)).congr (fun i _ => by simp)
    · exact ((Kept.refl _ w).alloc _).alloc _
  case round =>
    obtain ⟨k, hk, rfl, HV, HR, HX, HK⟩ := hrel
    obtain ⟨x0, x1, x2, x3, x4⟩ := HX.out.five
    by_cases hlt2 : k < n
    · have d0 := HV.out.2.1 k hlt2
      have d1 := HV.out.2.2 k hlt2
      have HV2 : Hid (OwnV (wr.setCell ⟨gd, k, none⟩ (.bool false)) gd n (fun i => if i < k + 1 then .bool false else .bool (d i))) := (HV.out.put hlt2 _).congr (fun i _ => markStep (F := fun _ => Value.bool false) (el := fun i => Value.bool (d i)) rfl)
      have HR2 := Lib.hid (HR.out.off (p := ⟨gd, k, none⟩) (by simp; omega) (.bool false))
      have HX2 := Lib.hid (HX.out.off (p := ⟨gd, k, none⟩) (by simp; omega) (.bool false))
      have HK2 : Hid (Kept (fun x => x = gd) w (wr.setCell ⟨gd, k, none⟩ (.bool false))) := HK.out.setCell (q := ⟨gd, k, none⟩) rfl _
      clear HV HR HX HK
      go_wp2
      go_roundw
      case rel => exact ⟨k + 1, by omega, by go_num, HV2, HR2, HX2, HK2⟩
      case measure => simp [intOf]; omega
    · obtain rfl : k = n := by omega
      go_wp2_with (first
        | refine wpList_load_row rfl 25 _ rfl w.heap.size rfl 25 _ (0, 0) _ HX.out Try.underlying25 rfl (by kernel_rfl) ?_
        | refine wpList_store_row rfl 25 _ _ rfl (w.heap.size + 1) _ rfl rfl 25 _ HR.out (by kernel_rfl) rfl (by kernel_rfl) ?_)
      refine bodyPost_ret (results_cell_row rfl _ _ (w.heap.size + 1) 25 _ (0, 0) _ rfl (setRow_heap _ _ _ _ _ _ HR.out) Try.underlying25 rfl (by kernel_rfl)) rfl ⟨rfl, ?_, ?_⟩
      · exact (HV.out.congr (fun i hi => by simp [hi])).same (setRow_other _ _ _ _ (by omega)) (by simp [World.setRow])
      · exact ⟨HK.out.os, HK.out.tape, HK.out.output, by have := HK.out.size; simpa [World.setRow] using this, fun i hi hp => (setRow_other _ _ _ _ (by omega)).trans (HK.out.block i hi hp)⟩
end Go.Proofs.Ytbgmjcfnehnicaa

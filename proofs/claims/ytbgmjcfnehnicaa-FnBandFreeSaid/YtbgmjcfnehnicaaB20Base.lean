/- Bands: spec's BandDo whole; BandNew; marks on bands. -/
import Derived.Test.YtbgmjcfnehnicaaB14Base
import Derived.Test.YtbgmjcfnehnicaaB15Base
import Derived.Test.YtbgmjcfnehnicaaB16Base
import Derived.Test.YtbgmjcfnehnicaaB17Base
import Derived.Test.YtbgmjcfnehnicaaB18Base
import Derived.Test.YtbgmjcfnehnicaaB19Base
namespace Go.Proofs.Ytbgmjcfnehnicaa
open Go.RowKit
theorem sBandDoR_any (q p s : Int) (A A' : Option Addr) (n m c c' : Nat) (hn : n ≤ 1048576) (hm : m ≤ 1048576) (f : Nat → Int) (f' : Nat → Bool) (kind cpu k : Int) (w W : World) (hb : Below W.heap.size W w)
    (hA : Rw W W.heap.size A n fun i => .int .i64 (f i)) (hA' : Rw W W.heap.size A' m fun i => .bool (f' i)) :
    Calls Try.prog 22 #[.agg #[.int .i64 q, .int .i64 p, .int .i64 s, .slice A n c, .slice A' m c'], .agg #[.int .i64 kind, .int .i64 cpu, .int .i64 k]] w (DoPostR 3 (bandOk q p s n m f f') q n (bandStep q n kind cpu k ⟨p, s, f, f'⟩) w) := by
  by_cases e4 : kind = 4
  · subst e4
    exact sBandDo_k4 q p s A A' n m c c' hn hm f f' cpu k w W hb hA hA'
  cases ec : inR cpu 0 ((n : Int) - 1)
  · exact sBandDo_out q p s A A' n m c c' hn hm f f' kind cpu k w W hb e4 ec hA hA'
  by_cases e1 : kind = 1
  · subst e1
    exact sBandDo_k1 q p s A A' n m c c' hn hm f f' cpu k w W hb ec hA hA'
  by_cases e2 : kind = 2
  · subst e2
    exact sBandDo_k2 q p s A A' n m c c' hn hm f f' cpu k w W hb ec hA hA'
  by_cases e3 : kind = 3
  · subst e3
    exact sBandDo_k3 q p s A A' n m c c' hn hm f f' cpu k w W hb ec hA hA'
  exact sBandDo_els q p s A A' n m c c' hn hm f f' kind cpu k w W hb ec e1 e2 e3 e4 hA hA'
theorem sBandDo_any (q p s : Int) (A A' : Option Addr) (n m c c' : Nat) (hn : n ≤ 1048576) (hm : m ≤ 1048576) (f : Nat → Int) (f' : Nat → Bool) (kind cpu k : Int) (w W : World) (hb : Below W.heap.size W w)
    (hA : Rw W W.heap.size A n fun i => .int .i64 (f i)) (hA' : Rw W W.heap.size A' m fun i => .bool (f' i)) :
    Calls Try.prog 22 #[.agg #[.int .i64 q, .int .i64 p, .int .i64 s, .slice A n c, .slice A' m c'], .agg #[.int .i64 kind, .int .i64 cpu, .int .i64 k]] w (DoPost (bandOk q p s n m f f') q n (bandStep q n kind cpu k ⟨p, s, f, f'⟩) w) := by
  exact (sBandDoR_any q p s A A' n m c c' hn hm f f' kind cpu k w W hb hA hA').mono fun e w' h => h.1
/-- What BandNew returns, and what of it lies in memory. -/
def NBPost (ok : Bool) (q : Int) (n : Nat) (w : World) (e : Ending) (w' : World) : Prop :=
  ∃ Al cl Ad cd, e = .returned (.tuple #[.agg #[.int .i64 (doQ ok q), .int .i64 (doQ ok q), .int .i64 0, .slice Al (doN ok n) cl, .slice Ad (doN ok n) cd], .bool ok]) ∧
    OwnR w' w.heap.size Al (doN ok n) (fun _ => .int .i64 0) ∧ OwnR w' w.heap.size Ad (doN ok n) (fun _ => .bool false) ∧ (0 < doN ok n → ∀ x, hd Al x → ¬ hd Ad x) ∧ Below w.heap.size w w'
theorem NBPost.no {q : Int} {n : Nat} {w w' : World} (hb : Below w.heap.size w w') :
    NBPost false q n w (.returned (.tuple #[.agg #[.int .i64 0, .int .i64 0, .int .i64 0, .slice none 0 0, .slice none 0 0], .bool false])) w' :=
  ⟨none, 0, none, 0, rfl, fun h => absurd h (Nat.lt_irrefl 0), fun h => absurd h (Nat.lt_irrefl 0), fun h => absurd h (Nat.lt_irrefl 0), hb⟩
theorem NBPost.yes {q : Int} {n : Nat} {w w' : World} {gl gd cl cd : Nat} (hl : OwnV w' gl n (fun _ => .int .i64 0)) (hd : OwnV w' gd n (fun _ => .bool false)) (h1 : w.heap.size ≤ gl) (h2 : w.heap.size ≤ gd) (h3 : gl ≠ gd) (hb : Below w.heap.size w w') :
    NBPost true q n w (.returned (.tuple #[.agg #[.int .i64 q, .int .i64 q, .int .i64 0, .slice (some ⟨gl, 0, none⟩) n cl, .slice (some ⟨gd, 0, none⟩) n cd], .bool true])) w' := by
  refine ⟨_, cl, _, cd, rfl, fun _ => ⟨gl, rfl, h1, hl⟩, fun _ => ⟨gd, rfl, h2, hd⟩, fun _ x hx hy => ?_, hb⟩
  obtain ⟨o1, e1⟩ := hx
  obtain ⟨o2, e2⟩ := hy
  simp at e1 e2
  omega
def NBPostR (t : TypeId) (ok : Bool) (q : Int) (n : Nat) (w : World) (e : Ending) (w' : World) : Prop :=
  NBPost ok q n w e w' ∧ (∀ a b s g o c d k, e = .returned (.tuple #[.agg #[a, b, s, .slice (some ⟨g, o, none⟩) n c, d], k]) → RoomV t w' g n c)
theorem NBPostR.no {t : TypeId} {q : Int} {n : Nat} {w w' : World} (hb : Below w.heap.size w w') :
    NBPostR t false q n w (.returned (.tuple #[.agg #[.int .i64 0, .int .i64 0, .int .i64 0, .slice none 0 0, .slice none 0 0], .bool false])) w' :=
  ⟨NBPost.no hb, fun a b s g o c d k e => by simp at e⟩
theorem NBPostR.yes {t : TypeId} {q : Int} {n : Nat} {w w' : World} {gl gd cl cd : Nat} (hr : RoomV t w' gl n cl) (hl : OwnV w' gl n (fun _ => .int .i64 0)) (hd : OwnV w' gd n (fun _ => .bool false)) (h1 : w.heap.size ≤ gl) (h2 : w.heap.size ≤ gd) (h3 : gl ≠ gd) (hb : Below w.heap.size w w') :
    NBPostR t true q n w (.returned (.tuple #[.agg #[.int .i64 q, .int .i64 q, .int .i64 0, .slice (some ⟨gl, 0, none⟩) n cl, .slice (some ⟨gd, 0, none⟩) n cd], .bool true])) w' :=
  ⟨NBPost.yes hl hd h1 h2 h3 hb, fun a b s g o c d k e => by
    simp at e
    obtain ⟨⟨_, _, _, ⟨⟨rfl, _⟩, rfl⟩, _⟩, _⟩ := e
    exact hr⟩
def newBOk (q c : Int) : Bool := inR q 1 10000 && inR c 1 4
set_option maxHeartbeats 1000000 in
theorem iBandNew_any (q c : Int) (w : World) : Calls Try.prog 10 #[.int .i64 q, .int .i64 c] w (NBPost (newBOk q c) q c.toNat w) := by
  unfold newBOk
  cases h1 : inR q 1 10000
  · go_enter Try.func10, Try.ntmps10
    go_wp2_with (go_at_call 27; refine (inRange_any _ _ _ _).mono ?_; rintro e w' ⟨rfl, rfl⟩)
    refine bodyPost_ret (v := .tuple #[.agg #[.int .i64 0, .int .i64 0, .int .i64 0, .slice none 0 0, .slice none 0 0], .bool false]) (by simp [results, Try.results10, go_sem]) rfl ?_
    exact NBPost.no (by go_grown)
  cases h2 : inR c 1 4
  · go_enter Try.func10, Try.ntmps10
    go_wp2_with (go_at_call 27; refine (inRange_any _ _ _ _).mono ?_; rintro e w' ⟨rfl, rfl⟩)
    refine bodyPost_ret (v := .tuple #[.agg #[.int .i64 0, .int .i64 0, .int .i64 0, .slice none 0 0, .slice none 0 0], .bool false]) (by simp [results, Try.results10, go_sem]) rfl ?_
    exact NBPost.no (by go_grown)
  obtain ⟨g1, g2⟩ := inR_iff.1 h2
  obtain ⟨n, hn⟩ : ∃ n : Nat, c = (n : Int) := ⟨c.toNat, by omega⟩
  subst hn
  have hmk := fun w => make_toIntS n (by omega) w
  have hmk' := fun w => make_toBoolS n (by omega) w
  go_enter Try.func10, Try.ntmps10
  go_wp2_with (go_at_call 27; refine (inRange_any _ _ _ _).mono ?_; rintro e w' ⟨rfl, rfl⟩)
  go_region
  all_goals go_wp2
  · refine bodyPost_ret (v := .tuple #[.agg #[.int .i64 q, .int .i64 q, .int .i64 0, .slice (some ⟨w.heap.size + 1, 0, none⟩) n n, .slice (some ⟨w.heap.size + 1 + 1, 0, none⟩) n n], .bool true]) (by simp [results, Try.results10, go_sem]) rfl ?_
    exact NBPost.yes (n := n) (((Own1.ownV (t := 3) ⟨_, Bk.new' _ (w.heap.size + 1) _ _ (by simp), (made1 (.int .i64 0) n).1, (made1 (.int .i64 0) n).2⟩).same (Below.heap_alloc _ _ _ (by simp)) (by simp)).drew) ((Own1.ownV (t := 4) ⟨_, Bk.new' _ (w.heap.size + 1 + 1) _ _ (by simp), (made1 (.bool false) n).1, (made1 (.bool false) n).2⟩).drew) (by omega) (by omega) (by omega) (by go_grown)
  · refine bodyPost_ret (v := .tuple #[.agg #[.int .i64 q, .int .i64 q, .int .i64 0, .slice (some ⟨w.heap.size + 1 + 1, 0, none⟩) n n, .slice (some ⟨w.heap.size + 1, 0, none⟩) n n], .bool true]) (by simp [results, Try.results10, go_sem]) rfl ?_
    exact NBPost.yes (n := n) ((Own1.ownV (t := 3) ⟨_, Bk.new' _ (w.heap.size + 1 + 1) _ _ (by simp), (made1 (.int .i64 0) n).1, (made1 (.int .i64 0) n).2⟩).drew) (((Own1.ownV (t := 4) ⟨_, Bk.new' _ (w.heap.size + 1) _ _ (by simp), (made1 (.bool false) n).1, (made1 (.bool false) n).2⟩).same (Below.heap_alloc _ _ _ (by simp)) (by simp)).drew) (by omega) (by omega) (by omega) (by go_grown)
set_option maxHeartbeats 1000000 in
theorem sBandNewR_any (q c : Int) (w : World) : Calls Try.prog 9 #[.int .i64 q, .int .i64 c] w (NBPostR 3 (newBOk q c) q c.toNat w) := by
  unfold newBOk
  cases h1 : inR q 1 10000
  · go_enter Try.func9, Try.ntmps9
    go_wp2_with (go_at_call 26; refine (l1In_any _ _ _ _).mono ?_; rintro e w' ⟨rfl, rfl⟩)
    refine bodyPost_ret (v := .tuple #[.agg #[.int .i64 0, .int .i64 0, .int .i64 0, .slice none 0 0, .slice none 0 0], .bool false]) (by simp [results, Try.results9, go_sem]) rfl ?_
    exact NBPostR.no (by go_grown)
  cases h2 : inR c 1 4
  · go_enter Try.func9, Try.ntmps9
    go_wp2_with (go_at_call 26; refine (l1In_any _ _ _ _).mono ?_; rintro e w' ⟨rfl, rfl⟩)
    refine bodyPost_ret (v := .tuple #[.agg #[.int .i64 0, .int .i64 0, .int .i64 0, .slice none 0 0, .slice none 0 0], .bool false]) (by simp [results, Try.results9, go_sem]) rfl ?_
    exact NBPostR.no (by go_grown)
  obtain ⟨g1, g2⟩ := inR_iff.1 h2
  obtain ⟨n, hn⟩ : ∃ n : Nat, c = (n : Int) := ⟨c.toNat, by omega⟩
  subst hn
  have hmk := fun w => make_toIntS n (by omega) w
  have hmk' := fun w => make_toBoolS n (by omega) w
  go_enter Try.func9, Try.ntmps9
  go_wp2_with (go_at_call 26; refine (l1In_any _ _ _ _).mono ?_; rintro e w' ⟨rfl, rfl⟩)
  go_region
  all_goals go_wp2
  · refine bodyPost_ret (v := .tuple #[.agg #[.int .i64 q, .int .i64 q, .int .i64 0, .slice (some ⟨w.heap.size + 1, 0, none⟩) n n, .slice (some ⟨w.heap.size + 1 + 1, 0, none⟩) n n], .bool true]) (by simp [results, Try.results9, go_sem]) rfl ?_
    exact NBPostR.yes (n := n) ((RoomV.same (t := 3) (g := w.heap.size + 1) (n := n) (c := n) ⟨_, Bk.new' _ (w.heap.size + 1) _ _ (by simp), (made1 (.int .i64 0) n).1, Nat.le_refl _, by unfold maxLen; omega⟩ (Below.heap_alloc _ _ _ (by simp))).drew) (((Own1.ownV (t := 3) ⟨_, Bk.new' _ (w.heap.size + 1) _ _ (by simp), (made1 (.int .i64 0) n).1, (made1 (.int .i64 0) n).2⟩).same (Below.heap_alloc _ _ _ (by simp)) (by simp)).drew) ((Own1.ownV (t := 4) ⟨_, Bk.new' _ (w.heap.size + 1 + 1) _ _ (by simp), (made1 (.bool false) n).1, (made1 (.bool false) n).2⟩).drew) (by omega) (by omega) (by omega) (by go_grown)
  · refine bodyPost_ret (v := .tuple #[.agg #[.int .i64 q, .int .i64 q, .int .i64 0, .slice (some ⟨w.heap.size + 1 + 1, 0, none⟩) n n, .slice (some ⟨w.heap.size + 1, 0, none⟩) n n], .bool true]) (by simp [results, Try.results9, go_sem]) rfl ?_
    exact NBPostR.yes (n := n) (RoomV.drew (t := 3) (g := w.heap.size + 1 + 1) (n := n) (c := n) ⟨_, Bk.new' _ (w.heap.size + 1 + 1) _ _ (by simp), (made1 (.int .i64 0) n).1, Nat.le_refl _, by unfold maxLen; omega⟩) ((Own1.ownV (t := 3) ⟨_, Bk.new' _ (w.heap.size + 1 + 1) _ _ (by simp), (made1 (.int .i64 0) n).1, (made1 (.int .i64 0) n).2⟩).drew) (((Own1.ownV (t := 4) ⟨_, Bk.new' _ (w.heap.size + 1) _ _ (by simp), (made1 (.bool false) n).1, (made1 (.bool false) n).2⟩).same (Below.heap_alloc _ _ _ (by simp)) (by simp)).drew) (by omega) (by omega) (by omega) (by go_grown)
theorem sBandNew_any (q c : Int) (w : World) : Calls Try.prog 9 #[.int .i64 q, .int .i64 c] w (NBPost (newBOk q c) q c.toNat w) := by
  exact (sBandNewR_any q c w).mono fun e w' h => h.1
end Go.Proofs.Ytbgmjcfnehnicaa

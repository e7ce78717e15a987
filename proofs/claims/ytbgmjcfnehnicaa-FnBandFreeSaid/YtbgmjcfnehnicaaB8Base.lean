/- Bands: the program's do, copy and BandDo. -/
import Derived.Test.YtbgmjcfnehnicaaB7Base
import Derived.Laws.CopyOwn
namespace Go.Proofs.Ytbgmjcfnehnicaa
open Go.RowKit
theorem wrap_in {a : Int} (h1 : -9223372036854775808 ≤ a) (h2 : a ≤ 9223372036854775807) : IntKind.i64.wrap a = a := by rw [IntKind.wrap_i64]; omega
theorem quietQ {P : Program} {f : FuncId} {args : Array Value} {w : World} {v : Value} (h : Calls P f args w fun e w' => e = .returned v ∧ w = w') : Calls P f args w fun e w'' => e = .returned v ∧ ∃ m, w'' = w.drewN m :=
  h.mono fun _ _ ⟨h1, h2⟩ => ⟨h1, 0, by rw [← h2]; rfl⟩
set_option maxHeartbeats 1000000 in
theorem do_any (gb o : Nat) (q : Int) (n cl cd : Nat) (b : BSt) (gl gd : Nat) (kind c k : Int) (hb : bOk q n b = true) (w : World) (h : BandC w gb o q n cl cd b gl gd) :
    Calls Try.prog 42 #[.pointer (some ⟨gb, o, none⟩), .agg #[.int .i64 kind, .int .i64 c, .int .i64 k]] w fun e w' => e = .returned (.int .i64 (bandStep q n kind c k b).2) ∧ BandR gb o q n cl cd gl gd w (bandStep q n kind c k b).1 w' := by
  have hb0 := hb
  unfold bOk at hb0
  obtain ⟨a1, a2, a3, a4, _, a5, a6, a7, a8, a9, a10⟩ := bandOk_facts _ _ _ _ _ _ _ hb0
  have H := Lib.hid h
  have HB := Lib.hid hb
  have HA : Hid (∀ ob, BandC (w.alloc ob) gb o q n cl cd b gl gd) := fun ob => h.below ((Below.refl _ w).alloc (Nat.le_refl _) ob)
  have HX : Hid (∀ ob m, BandC ((w.alloc ob).drewN m) gb o q n cl cd b gl gd) := fun ob m => (HA.out ob).drewN m
  have HK : Hid (∀ ob m, Kept (own3 gb gl gd) w ((w.alloc ob).drewN m)) := fun ob m => ((Kept.refl _ w).alloc ob).drewN m
  have c3 := h.c3
  have hlt := h.lt
  clear hb0 hb h a9
  by_cases e4 : kind = 4
  · subst e4
    rw [step_refill]
    go_enter Try.func42, Try.ntmps42
    go_wp2_with (go_at_call 47; refine (refills_any gb o q n cl cd b gl gd (by omega) _ (HA.out _)).mono ?_; rintro e w1 ⟨rfl, hr1, hk1⟩; have HR1 := Lib.hid hr1; have HK1 := Lib.hid hk1; clear hr1 hk1)
    go_ret
    exact ⟨rfl, HR1.out, ((Kept.refl _ w).alloc _).trans HK1.out⟩
  have e4' : (kind == 4) = false := by simp [e4]
  cases ec : inR c 0 ((n : Int) - 1)
  · rw [step_out e4 ec]
    clear e4
    go_enter Try.func42, Try.ntmps42
    go_wp2
    have hw1 : IntKind.i64.wrap ((n : Int) - 1) = (n : Int) - 1 := wrap_in (by omega) (by omega)
    go_quiet ((go_at_call 27; exact quietL (inRange_any _ _ _ _)))
    clear hw1
    go_wp2
    go_ret
    exact ⟨rfl, HX.out _ _, HK.out _ _⟩
  by_cases e1 : kind = 1
  · subst e1
    have HC : Hid (∀ x : World, BandC x gb o q n cl cd b gl gd → Calls Try.prog 48 #[.pointer (some ⟨gb, o, none⟩), .int .i64 c] x fun e w' => e = .returned (.int .i64 (bandStep q n 1 c k b).2) ∧ BandR gb o q n cl cd gl gd x (bandStep q n 1 c k b).1 w') := fun x hx => takes_any gb o q n cl cd b gl gd c k HB.out ec x hx
    generalize bandStep q n 1 c k b = r at *
    clear e4
    go_enter Try.func42, Try.ntmps42
    go_wp2
    have hw1 : IntKind.i64.wrap ((n : Int) - 1) = (n : Int) - 1 := wrap_in (by omega) (by omega)
    go_quiet ((go_at_call 27; exact quietL (inRange_any _ _ _ _)))
    clear hw1
    go_wp2_with (go_at_call 48; refine (HC.out _ (HX.out _ _)).mono ?_; rintro e w1 ⟨rfl, hr1, hk1⟩; have HR1 := Lib.hid hr1; have HK1 := Lib.hid hk1; clear hr1 hk1)
    go_ret
    exact ⟨rfl, HR1.out, (HK.out _ _).trans HK1.out⟩
  have e1' : (kind == 1) = false := by simp [e1]
  by_cases e2 : kind = 2
  · subst e2
    have HC : Hid (∀ x : World, BandC x gb o q n cl cd b gl gd → Calls Try.prog 49 #[.pointer (some ⟨gb, o, none⟩), .int .i64 c, .int .i64 k] x fun e w' => e = .returned (.int .i64 (bandStep q n 2 c k b).2) ∧ BandR gb o q n cl cd gl gd x (bandStep q n 2 c k b).1 w') := fun x hx => spends_any gb o q n cl cd b gl gd c k HB.out ec x hx
    generalize bandStep q n 2 c k b = r at *
    clear e4 e1
    go_enter Try.func42, Try.ntmps42
    go_wp2
    have hw1 : IntKind.i64.wrap ((n : Int) - 1) = (n : Int) - 1 := wrap_in (by omega) (by omega)
    go_quiet ((go_at_call 27; exact quietL (inRange_any _ _ _ _)))
    clear hw1
    go_wp2_with (go_at_call 49; refine (HC.out _ (HX.out _ _)).mono ?_; rintro e w1 ⟨rfl, hr1, hk1⟩; have HR1 := Lib.hid hr1; have HK1 := Lib.hid hk1; clear hr1 hk1)
    go_ret
    exact ⟨rfl, HR1.out, (HK.out _ _).trans HK1.out⟩
  have e2' : (kind == 2) = false := by simp [e2]
  by_cases e3 : kind = 3
  · subst e3
    have HC : Hid (∀ x : World, BandC x gb o q n cl cd b gl gd → Calls Try.prog 50 #[.pointer (some ⟨gb, o, none⟩), .int .i64 c] x fun e w' => e = .returned (.int .i64 (bandStep q n 3 c k b).2) ∧ BandR gb o q n cl cd gl gd x (bandStep q n 3 c k b).1 w') := fun x hx => returns_any gb o q n cl cd b gl gd c k HB.out ec x hx
    generalize bandStep q n 3 c k b = r at *
    clear e4 e1 e2
    go_enter Try.func42, Try.ntmps42
    go_wp2
    have hw1 : IntKind.i64.wrap ((n : Int) - 1) = (n : Int) - 1 := wrap_in (by omega) (by omega)
    go_quiet ((go_at_call 27; exact quietL (inRange_any _ _ _ _)))
    clear hw1
    go_wp2_with (go_at_call 50; refine (HC.out _ (HX.out _ _)).mono ?_; rintro e w1 ⟨rfl, hr1, hk1⟩; have HR1 := Lib.hid hr1; have HK1 := Lib.hid hk1; clear hr1 hk1)
    go_ret
    exact ⟨rfl, HR1.out, (HK.out _ _).trans HK1.out⟩
  have e3' : (kind == 3) = false := by simp [e3]
  rw [step_else e1 e2 e3 e4]
  clear e1 e2 e3 e4
  go_enter Try.func42, Try.ntmps42
  go_wp2
  have hw1 : IntKind.i64.wrap ((n : Int) - 1) = (n : Int) - 1 := wrap_in (by omega) (by omega)
  go_quiet ((go_at_call 27; exact quietL (inRange_any _ _ _ _)))
  clear hw1
  go_wp2
  go_ret
  exact ⟨rfl, HX.out _ _, HK.out _ _⟩
end Go.Proofs.Ytbgmjcfnehnicaa

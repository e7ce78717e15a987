/-
  The phase: one worker, joined.
-/
import Derived.Test.YtfckhpkebdpkbaaPlayA2
import Derived.KernelRfl
import Derived.Conc.FxGenLone
import Derived.Test.YtfckhpkebdpkbaaRows
import Derived.Conc.FxGenDone
import Derived.Conc.FxGenWait
import Derived.Test.YtfckhpkebdpkbaaPlayA1
namespace Go.Bp
open Go Go.Conc Go.Conc.Lib
open Go.ConcX (WgAt KK stA smA rd wr mk DC0 kk_ne Payload Shy Full RCa RCd DCs AtR0 AtK1 AtD1 AtD2 AtD3 AtD4 KCa EvQ)
open Go.ConcN (sumTo upd upd_ne upd_same)

section
variable {ty : TypeId} {Wg c : Nat} {X : Nat → Prop}
theorem go_inj {g g' : Goroutine} {w w' : World} {es es' : Array Event} {s : GStep} (h : s = .go g w es) (h' : s = .go g' w' es') : g = g' ∧ w = w' ∧ es = es' := by
  rw [h] at h'; cases h'; exact ⟨rfl, rfl, rfl⟩

theorem kk1_ne : (KK + 1 : Int) ≠ KK := by decide

theorem stt_ca {w : World} {st : Int} (h : WgAt ty Wg w st 0) (hk : KCa ty Wg w) : (st = KK ∧ WgAt ty Wg w KK 0) ∨ (st = KK + 1 ∧ WgAt ty Wg w (KK + 1) 0) := by
  rcases hk with k | k
  · exact .inl ⟨(h.unique k).1, k⟩
  · exact .inr ⟨(h.unique k).1, k⟩

theorem deaf_sem (ad : Addr) : deafBehind 1 (semEvents ad) = 1 := rfl

theorem TC.sem (hc : c ≠ 0) (hX : X Wg) {d : Nat} {t : Trace} {fn : FuncId} {pos : String} (h : TC X Wg c 1 d t) : TC X Wg c 1 d (t ++ MemOp.ofEvents c fn pos (semEvents (smA Wg))) := by
  obtain ⟨h, r, hr⟩ := h
  have h1 := Pw.ownc hc h (fn := fn) (pos := pos) (es := semEvents (smA Wg)) (fun e he x hx hs => by
    simp [semEvents] at he
    rcases he with rfl | rfl | rfl | rfl
    · simp [MemAct.ofEvent, MemAct.touch?] at hx
    · simp only [MemAct.ofEvent, MemAct.touch?, Option.some.injEq] at hx; subst hx; rfl
    · simp only [MemAct.ofEvent, MemAct.touch?, Option.some.injEq] at hx; subst hx; rfl
    · simp [MemAct.ofEvent, MemAct.touch?] at hx)
  rw [deaf_sem] at h1
  refine ⟨h1, r, ?_⟩
  have e1 : t ++ MemOp.ofEvents c fn pos (semEvents (smA Wg)) = ((t ++ MemOp.ofEvents c fn pos #[⟨.mark .disable, false, true⟩]) ++ MemOp.ofEvents c fn pos #[⟨.cell (smA Wg), false, true⟩, ⟨.cell (smA Wg), true, true⟩]) ++ MemOp.ofEvents c fn pos #[⟨.mark .enable, false, true⟩] := by
    apply Array.ext'
    simp [MemOp.ofEvents, semEvents]
  rw [e1]
  have h2 := hr.quiet (γ := c) (fn := fn) (pos := pos) (es := #[⟨.mark .disable, false, true⟩]) (fun e he => by simp at he; subst he; simp [MemAct.ofEvent]) (fun _ e he => by simp at he; subst he; rfl)
  have h3 := h2.deafc (fn := fn) (pos := pos) (es := #[⟨.cell (smA Wg), false, true⟩, ⟨.cell (smA Wg), true, true⟩])
    (fun e he => by simp at he; rcases he with rfl | rfl <;> simp [MemAct.ofEvent]) (fun e he => by simp at he; rcases he with rfl | rfl <;> simp)
    (by rw [Deaf_own, h.deafc]; decide)
    (fun e he a ha => by
      simp at he
      rcases he with rfl | rfl <;>
      · simp only [MemAct.ofEvent, MemAct.touch?, Option.some.injEq] at ha
        subst ha
        exact ⟨⟨_, rfl, hX⟩, rfl⟩)
  exact h3.quiet (γ := c) (fn := fn) (pos := pos) (es := #[⟨.mark .enable, false, true⟩]) (fun e he => by simp at he; subst he; simp [MemAct.ofEvent]) (fun _ e he => by simp at he; subst he; rfl)

end

section
variable {P : Program} {ty : TypeId} {Wg c C Low : Nat} {J : World → Prop} {Anch Ret : Goroutine → World → Prop} {X : Nat → Prop} [Payload] [Shy Wg C] {vals : List Value} {Mine : Loc → Prop}

/-- The body's end: Done is to be called. -/
def StopW (P : Program) (ty : TypeId) (Wg C Low : Nat) [Payload] [Shy Wg C] (vals : List Value) (Mine : Loc → Prop) (J : World → Prop) (b : Goroutine) (w : World) : Prop :=
  J w ∧ Full C vals w ∧ (KCa ty Wg w → ∃ m, Goes P false (RCa ty Wg Low) (DCs Mine Wg C) (AtR0 P ty Wg C Low vals) m b w)

set_option maxHeartbeats 1000000 in
theorem joined (hc : c ≠ 0) (hX : X Wg) (hXC : ¬ X C) (_hWL : Wg < Low) (hCW : C ≠ Wg) (hJ : ∀ w w₁, RX X w w₁ → J w → J w₁)
    (hShy : ∀ act, Shy.ok Wg C act → ∀ x, act.touch? = some x → SX X x.loc → x.kind = .atomic ∨ ((∃ a : Addr, x.loc = .cell a ∧ a.block = Wg) ∧ x.kind ≠ .plain))
    (hAn : ∀ g w, Anch g w → ∃ m, Goes P true (RA ty Wg J) DC0 (AtW1 P ty Wg J Anch Ret) m g w) (hAr : ∀ g w, Anch g w → g.status = .running)
    {a b : Goroutine} {w : World} {k : Nat} (hcp : Cp P ty Wg J Anch Ret 6 k 0 KK a w) (hw : Wd P X (StopW P ty Wg C Low vals Mine J) 0 b w) :
    To P (fun m t => S2 P c a b w m t ∧ Pw X c 0 0 t) (fun m t => ∃ a' w', Fr P (Ps X 0) a' w' m t ∧ ∀ d, Ret a' (w'.at d)) := by
  have hJd : ∀ w d, J w → J (w.at d) := fun w d h => hJ _ _ (rx_at (RX.refl X w) d) h
  have hJs : ∀ (w : World) (a : Addr) (v : Value), a.block = Wg → J w → J (w.setCell a v) := fun w a v ha h => hJ _ _ (rx_set (RX.refl X w) hX a ha v) h
  have caC : ∀ w, WgAt ty Wg w KK 0 → KCa ty Wg (w.setCell (stA Wg) (.int .u64 (KK + 1))) := fun w h => .inr (h.setSt _)
  -- the body
  have sA := stageW (J := J) (Ret := Ret) (IW := KCa ty Wg) hc hX hAn hAr (fun w d h => h) (fun w _ h => caC w h)
    (fun w w' es hd hi => hi.imp (·.of_block (hd.1 _ hX)) (·.of_block (hd.1 _ hX))) hw 6 k 0 KK a hcp (.inl rfl) (.inl hcp.wg)
  refine sA.trans ?_
  rintro m t ⟨r1, k1, d1, st1, a1, b1, w1, hcp1, hst1, hi1, hs1, hS1, ht1⟩
  obtain ⟨hj1, hf1, hg1⟩ := hs1 w1 (RX.refl X w1)
  obtain ⟨n1, hg1⟩ := hg1 hi1
  -- to the release
  have sB := stage (TP := TA X c) (J := J) (Ret := Ret) (R := RCa ty Wg Low) (IW := fun w => KCa ty Wg w ∧ ∃ w0, J w0 ∧ Full C vals w0 ∧ RC X C w0 w) hc hX hAn hAr TA.muted (TA.own hc) RCa.refl (fun w w₁ d h => h.trans (RCa.at _ d))
    (fun w w₁ h hi hk => h.trans ⟨fun b _ hb => setCell_other (Ne.symm hb), fun _ => caC _ hk⟩)
    (fun w d ⟨h, w0, z1, z2, z3⟩ => ⟨h, w0, z1, z2, ⟨z3.size, z3.same, z3.hid, z3.os, z3.output⟩⟩) (fun w ⟨_, w0, z1, z2, z3⟩ h => ⟨caC w h, w0, z1, z2, rc_set z3 hX _ rfl _⟩)
    (fun w w' es hd ⟨hi, w0, z1, z2, z3⟩ => ⟨⟨hi.imp (·.of_block (hd.1.block _ (Ne.symm hCW))) (·.of_block (hd.1.block _ (Ne.symm hCW))), w0, z1, z2,
      ⟨hd.1.size.trans z3.size, fun k h1 h2 => (hd.1.block k h1).trans (z3.same k h1 h2), fun k hk c' e fr hh => by
        have hkC : k ≠ C := fun e => hXC (e ▸ hk)
        obtain ⟨c2, h2⟩ := z3.hid k hk c' e fr hh
        exact ⟨c2, by rw [hd.1.block k hkC]; exact h2⟩, hd.1.os.trans z3.os, hd.1.output.trans z3.output⟩⟩, hd.1.block _ (Ne.symm hCW), fun d t fn pos ht => by
      have := Pw.ownc hc ht (fn := fn) (pos := pos) (es := es) (fun e he => evQ_ev2 hShy (hd.2 e he))
      rwa [still_deaf (fun e he => ⟨(hd.2 e he).2.1, (hd.2 e he).2.2.1⟩)] at this⟩) (Wk.of_goes hg1) r1 k1 d1 st1 a1 hcp1 hst1 ⟨hi1, w1, hj1, hf1, ⟨rfl, fun _ _ _ => rfl, fun k _ c' _ _ h => ⟨c', h⟩, rfl, rfl⟩⟩
  refine (sB.trans ?_) m t ⟨hS1, ht1⟩
  clear sA sB hcp1 hst1 hi1 hs1 hS1 ht1 hj1 hf1 hg1
  rintro m t ⟨r2, k2, d2, st2, a2, b2, w2, hcp2, hst2, hi2, hs2, hS2, ht2⟩
  obtain ⟨N3, m3, t3, run3, r3, k3, d3, st3, a3, w3, b3, w3', es3, t3', q1, q2, q3, q4, q5, q6, q7, q8⟩ := bstep (TP := TA X c) (J := J) (Ret := Ret) (R := RCa ty Wg Low) (IW := fun w => KCa ty Wg w ∧ ∃ w0, J w0 ∧ Full C vals w0 ∧ RC X C w0 w) hc hX hAn hAr TA.muted (TA.own hc) RCa.refl (fun w w₁ d h => h.trans (RCa.at _ d))
    (fun w w₁ h hi hk => h.trans ⟨fun b _ hb => setCell_other (Ne.symm hb), fun _ => caC _ hk⟩) (fun w d ⟨h, w0, z1, z2, z3⟩ => ⟨h, w0, z1, z2, ⟨z3.size, z3.same, z3.hid, z3.os, z3.output⟩⟩) (fun w ⟨_, w0, z1, z2, z3⟩ h => ⟨caC w h, w0, z1, z2, rc_set z3 hX _ rfl _⟩)
    (hs2 w2 (RCa.refl w2)).1 hs2 (fun w₁ h _ => by obtain ⟨_, _, g', h, _⟩ := h; exact ⟨_, _, _, h⟩) hcp2 hst2 hi2 hS2 ht2
  obtain ⟨_, hfull, g3, hg3, n3, hG3⟩ := q3
  obtain ⟨rfl, rfl, rfl⟩ := go_inj q6 hg3
  obtain ⟨hca3, w0, z1, z2, z3⟩ := q4
  have hj3 : J w3' := hJ w0 w3' ⟨z3.size, fun k hk => by
    by_cases hkC : k = C
    · subst hkC; exact (hfull rfl).trans (z2 rfl).symm
    · exact z3.same k hkC hk, z3.hid, z3.os, z3.output⟩ z1
  obtain ⟨p1, p2⟩ := Pw.release (Wg := Wg) q5 hc (fn := b2.frame.fn) (pos := b2.frame.place)
  obtain ⟨k3', hcp3, _⟩ := q1.wok q2 hAr (wok_woken (P := P) (g := b2) (g' := b3) (w := w3') (q1.act2 q2 hAr))
  have ht3 : TC X Wg c 0 d3 t3 := by rw [q7]; exact ⟨p1, _, p2⟩
  refine (show ∃ N m' t', runNT P N m3 t3 = (.next m', t') ∧ _ from ?_) |> fun ⟨N, m', t', e1, e2⟩ => ⟨N3 + N, m', t', by rw [runNT_add, run3]; exact e1, e2⟩
  clear run3 hcp2 hst2 hi2 hs2 hS2 ht2 p1 p2 q1 q5 q6 q7 hg3 z1 z2 z3 hfull
  -- to 'disable'
  have sC := stage (TP := TC X Wg c 0) (J := J) (Ret := Ret) (R := RCa ty Wg Low) (D := DC0) (IW := fun w => KCa ty Wg w ∧ J w) hc hX hAn hAr (TC.muted 0) (TC.own hc 0) RCa.refl (fun w w₁ d h => h.trans (RCa.at _ d))
    (fun w w₁ h hi hk => h.trans ⟨fun b _ hb => setCell_other (Ne.symm hb), fun _ => caC _ hk⟩) (fun w d h => ⟨h.1, hJd _ d h.2⟩) (fun w h hk => ⟨caC w hk, hJs _ _ _ rfl h.2⟩)
    (fun w w' es hd hi => by obtain ⟨rfl, rfl⟩ := hd; exact ⟨hi, rfl, fun d t fn pos ht => by rw [ofE_nil]; exact ht⟩) (Wk.of_goes hG3) r3 k3' d3 st3 _ hcp3 q2 ⟨hca3, hj3⟩
  refine (sC.trans ?_) m3 t3 ⟨q8, ht3⟩
  clear sC hcp3 q2 q8 ht3 hG3
  rintro m t ⟨r4, k4, d4, st4, a4, b4, w4, hcp4, hst4, hi4, hs4, hS4, ht4⟩
  obtain ⟨N5, m5, t5, run5, r5, k5, d5, st5, a5, w5, b5, w5', es5, t5', q1, q2, q3, q4, q5, q6, q7, q8⟩ := bstep (TP := TC X Wg c 0) (J := J) (Ret := Ret) (R := RCa ty Wg Low) (IW := fun w => KCa ty Wg w ∧ J w) hc hX hAn hAr (TC.muted 0) (TC.own hc 0) RCa.refl (fun w w₁ d h => h.trans (RCa.at _ d))
    (fun w w₁ h hi hk => h.trans ⟨fun b _ hb => setCell_other (Ne.symm hb), fun _ => caC _ hk⟩) (fun w d h => ⟨h.1, hJd _ d h.2⟩) (fun w h hk => ⟨caC w hk, hJs _ _ _ rfl h.2⟩)
    (hs4 w4 (RCa.refl w4)).1 hs4 (fun w₁ h _ => by obtain ⟨_, g', h, _⟩ := h; exact ⟨_, _, _, h⟩) hcp4 hst4 hi4 hS4 ht4
  obtain ⟨_, g5, hg5, n5, hG5⟩ := q3
  obtain ⟨rfl, rfl, rfl⟩ := go_inj q6 hg5
  obtain ⟨k5', hcp5, _⟩ := q1.wok q2 hAr (wok_woken (P := P) (g := b4) (g' := b5) (w := w5') (q1.act2 q2 hAr))
  have ht5 : TC X Wg c 1 d5 t5 := by
    rw [q7]
    obtain ⟨h1, r, h2⟩ := q5
    exact ⟨Pw.ownc hc h1 (es := #[mk .disable]) (fun e he x hx => by simp at he; subst he; simp [mk, MemAct.ofEvent, MemAct.touch?] at hx), r,
      h2.quiet (es := #[mk .disable]) (fun e he => by simp at he; subst he; simp [mk, MemAct.ofEvent]) (fun _ e he => by simp at he; subst he; rfl)⟩
  refine (show ∃ N m' t', runNT P N m5 t5 = (.next m', t') ∧ _ from ?_) |> fun ⟨N, m', t', e1, e2⟩ => ⟨N5 + N, m', t', by rw [runNT_add, run5]; exact e1, e2⟩
  clear run5 hcp4 hst4 hi4 hs4 hS4 ht4 q1 q5 q6 q7 hg5
  -- to the add
  have sD := stage (TP := TC X Wg c 1) (J := J) (Ret := Ret) (R := RCa ty Wg Low) (D := DC0) (IW := fun w => KCa ty Wg w ∧ J w) hc hX hAn hAr (TC.muted 1) (TC.own hc 1) RCa.refl (fun w w₁ d h => h.trans (RCa.at _ d))
    (fun w w₁ h hi hk => h.trans ⟨fun b _ hb => setCell_other (Ne.symm hb), fun _ => caC _ hk⟩) (fun w d h => ⟨h.1, hJd _ d h.2⟩) (fun w h hk => ⟨caC w hk, hJs _ _ _ rfl h.2⟩)
    (fun w w' es hd hi => by obtain ⟨rfl, rfl⟩ := hd; exact ⟨hi, rfl, fun d t fn pos ht => by rw [ofE_nil]; exact ht⟩) (Wk.of_goes hG5) r5 k5' d5 st5 _ hcp5 q2 q4
  refine (sD.trans ?_) m5 t5 ⟨q8, ht5⟩
  clear sD hcp5 q2 q4 q8 ht5 hG5
  rintro m t ⟨r6, k6, d6, st6, a6, b6, w6, hcp6, hst6, hi6, hs6, hS6, ht6⟩
  obtain ⟨N7, m7, t7, run7, r7, k7, d7, st7, a7, w7, b7, w7', es7, t7', q1, q2, q3, q4, q5, q6, q7, q8⟩ := bstep (TP := TC X Wg c 1) (J := J) (Ret := Ret) (R := RCa ty Wg Low) (IW := fun w => KCa ty Wg w ∧ J w) hc hX hAn hAr (TC.muted 1) (TC.own hc 1) RCa.refl (fun w w₁ d h => h.trans (RCa.at _ d))
    (fun w w₁ h hi hk => h.trans ⟨fun b _ hb => setCell_other (Ne.symm hb), fun _ => caC _ hk⟩) (fun w d h => ⟨h.1, hJd _ d h.2⟩) (fun w h hk => ⟨caC w hk, hJs _ _ _ rfl h.2⟩)
    (hs6 w6 (RCa.refl w6)).1 hs6 (fun w₁ h hi => by
      obtain ⟨_, h1, h2⟩ := h
      rcases hi.1 with hk | hk
      · obtain ⟨g', h3, _⟩ := h1 hk; exact ⟨_, _, _, h3⟩
      · obtain ⟨g', h3, _⟩ := h2 hk; exact ⟨_, _, _, h3⟩) hcp6 hst6 hi6 hS6 ht6
  obtain ⟨k7', hcp7, _⟩ := q1.wok q2 hAr (wok_woken (P := P) (g := b6) (g' := b7) (w := w7') (q1.act2 q2 hAr))
  refine (show ∃ N m' t', runNT P N m7 t7 = (.next m', t') ∧ _ from ?_) |> fun ⟨N, m', t', e1, e2⟩ => ⟨N7 + N, m', t', by rw [runNT_add, run7]; exact e1, e2⟩
  clear run7 hcp6 hst6 hi6 hs6 hS6 ht6
  have ht7 : (∀ e ∈ es7, ∃ wr' off, e = ⟨.cell ⟨Wg, off, none⟩, wr', true⟩) → TC X Wg c 1 d7 t7 := fun h => by rw [q7]; exact TC.atomic hc hX q5 h
  rcases stt_ca q1.wg q4.1 with ⟨rfl, hk⟩ | ⟨rfl, hk⟩
  · -- nobody waits: it is done
    obtain ⟨g', h1, qn, hq⟩ := q3.2.1 hk
    obtain ⟨rfl, rfl, rfl⟩ := go_inj q6 h1
    obtain ⟨p1, r, p2⟩ := ht7 (fun e he => by simp at he; rcases he with rfl | rfl; exact ⟨_, _, rfl⟩; exact ⟨_, _, rfl⟩)
    exact outA hc hX hJd hAn hcp7 ⟨hk.setSt 0, hJs _ _ _ rfl q4.2⟩ m7 t7 (to_fr hc q8 hq p1 p2)
  · -- the caller waits
    obtain ⟨g', h1, n7, hG7⟩ := q3.2.2 hk
    obtain ⟨rfl, rfl, rfl⟩ := go_inj q6 h1
    have ht8 := ht7 (fun e he => by simp at he; rcases he with rfl | rfl; exact ⟨_, _, rfl⟩; exact ⟨_, _, rfl⟩)
    have hcp8 := hcp7.rely (hk.setSt 1) (.inr ⟨kk1_ne, .inl rfl⟩) q2
    clear hcp7 ht7
    have sE := stage (TP := TC X Wg c 1) (J := J) (Ret := Ret) (R := RCd Low) (D := DC0) (IW := fun w => WgAt ty Wg w 1 0 ∧ J w) hc hX hAn hAr (TC.muted 1) (TC.own hc 1) RCd.refl (fun w w₁ d h => h.trans (RCd.at _ d))
      (fun w w₁ h hi hk => absurd (hi.1.unique hk).1 (by decide)) (fun w d h => ⟨h.1, hJd _ d h.2⟩) (fun w h hk => absurd (h.1.unique hk).1 (by decide))
      (fun w w' es hd hi => by obtain ⟨rfl, rfl⟩ := hd; exact ⟨hi, rfl, fun d t fn pos ht => by rw [ofE_nil]; exact ht⟩) (Wk.of_goes hG7) r7 k7' d7 1 _ hcp8 (.inr (.inr (.inl rfl))) ⟨hk.setSt 1, hJs _ _ _ rfl q4.2⟩
    refine (sE.trans ?_) m7 t7 ⟨q8, ht8⟩
    clear sE hcp8 q1 q2 q3 q4 q5 q6 q7 q8 ht8 hG7 h1 hk
    rintro m t ⟨r8, k8, d8, st8, a8, b8, w8, hcp8, hst8, hi8, hs8, hS8, ht8⟩
    obtain ⟨N9, m9, t9, run9, r9, k9, d9, st9, a9, w9, b9, w9', es9, t9', q1, q2, q3, q4, q5, q6, q7, q8⟩ := bstep (TP := TC X Wg c 1) (J := J) (Ret := Ret) (R := RCd Low) (IW := fun w => WgAt ty Wg w 1 0 ∧ J w) hc hX hAn hAr (TC.muted 1) (TC.own hc 1) RCd.refl (fun w w₁ d h => h.trans (RCd.at _ d))
      (fun w w₁ h hi hk => absurd (hi.1.unique hk).1 (by decide)) (fun w d h => ⟨h.1, hJd _ d h.2⟩) (fun w h hk => absurd (h.1.unique hk).1 (by decide))
      (hs8 w8 (RCd.refl w8)).1 hs8 (fun w₁ h _ => by obtain ⟨_, g', h, _⟩ := h; exact ⟨_, _, _, h⟩) hcp8 hst8 hi8 hS8 ht8
    obtain ⟨_, g9, hg9, n9, hG9⟩ := q3
    obtain ⟨rfl, rfl, rfl⟩ := go_inj q6 hg9
    obtain ⟨k9', hcp9, _⟩ := q1.wok q2 hAr (wok_woken (P := P) (g := b8) (g' := b9) (w := w9') (q1.act2 q2 hAr))
    have ht9 : TC X Wg c 1 d9 t9 := by rw [q7]; exact TC.atomic hc hX q5 (fun e he => by simp at he; subst he; exact ⟨_, _, rfl⟩)
    refine (show ∃ N m' t', runNT P N m9 t9 = (.next m', t') ∧ _ from ?_) |> fun ⟨N, m', t', e1, e2⟩ => ⟨N9 + N, m', t', by rw [runNT_add, run9]; exact e1, e2⟩
    clear run9 hcp8 hst8 hi8 hs8 hS8 ht8
    have sF := stage (TP := TC X Wg c 1) (J := J) (Ret := Ret) (R := RCd Low) (D := DC0) (IW := fun w => WgAt ty Wg w 1 0 ∧ J w) hc hX hAn hAr (TC.muted 1) (TC.own hc 1) RCd.refl (fun w w₁ d h => h.trans (RCd.at _ d))
      (fun w w₁ h hi hk => absurd (hi.1.unique hk).1 (by decide)) (fun w d h => ⟨h.1, hJd _ d h.2⟩) (fun w h hk => absurd (h.1.unique hk).1 (by decide))
      (fun w w' es hd hi => by obtain ⟨rfl, rfl⟩ := hd; exact ⟨hi, rfl, fun d t fn pos ht => by rw [ofE_nil]; exact ht⟩) (Wk.of_goes hG9) r9 k9' d9 st9 _ hcp9 q2 q4
    refine (sF.trans ?_) m9 t9 ⟨q8, ht9⟩
    clear sF hcp9 q1 q2 q4 q5 q6 q7 q8 ht9 hG9
    rintro m t ⟨r10, k10, d10, st10, a10, b10, w10, hcp10, hst10, hi10, hs10, hS10, ht10⟩
    obtain ⟨N11, m11, t11, run11, r11, k11, d11, st11, a11, w11, b11, w11', es11, t11', q1, q2, q3, q4, q5, q6, q7, q8⟩ := bstep (TP := TC X Wg c 1) (J := J) (Ret := Ret) (R := RCd Low) (IW := fun w => WgAt ty Wg w 1 0 ∧ J w) hc hX hAn hAr (TC.muted 1) (TC.own hc 1) RCd.refl (fun w w₁ d h => h.trans (RCd.at _ d))
      (fun w w₁ h hi hk => absurd (hi.1.unique hk).1 (by decide)) (fun w d h => ⟨h.1, hJd _ d h.2⟩) (fun w h hk => absurd (h.1.unique hk).1 (by decide))
      (hs10 w10 (RCd.refl w10)).1 hs10 (fun w₁ h _ => by obtain ⟨_, g', h, _⟩ := h; exact ⟨_, _, _, h⟩) hcp10 hst10 hi10 hS10 ht10
    obtain ⟨_, g11, hg11, n11, hG11⟩ := q3
    obtain ⟨rfl, rfl, rfl⟩ := go_inj q6 hg11
    obtain ⟨k11', hcp11, _⟩ := q1.wok q2 hAr (wok_woken (P := P) (g := b10) (g' := b11) (w := w11.setCell (stA Wg) (.int .u64 0)) (q1.act2 q2 hAr))
    have hst1 : st11 = 1 := (q1.wg.unique q4.1).1
    have hcp12 := hcp11.rely (q4.1.setSt 0) (.inr ⟨by rw [hst1]; decide, .inr rfl⟩) q2
    have ht11 : TC X Wg c 1 d11 t11 := by rw [q7]; exact TC.atomic hc hX q5 (fun e he => by simp at he; subst he; exact ⟨_, _, rfl⟩)
    refine (show ∃ N m' t', runNT P N m11 t11 = (.next m', t') ∧ _ from ?_) |> fun ⟨N, m', t', e1, e2⟩ => ⟨N11 + N, m', t', by rw [runNT_add, run11]; exact e1, e2⟩
    clear run11 hcp10 hst10 hi10 hs10 hS10 ht10 hcp11
    have sG := stage (TP := TC X Wg c 1) (J := J) (Ret := Ret) (R := RCd Low) (D := DC0) (IW := fun w => WgAt ty Wg w 0 0 ∧ J w) hc hX hAn hAr (TC.muted 1) (TC.own hc 1) RCd.refl (fun w w₁ d h => h.trans (RCd.at _ d))
      (fun w w₁ h hi hk => absurd (hi.1.unique hk).1 (by decide)) (fun w d h => ⟨h.1, hJd _ d h.2⟩) (fun w h hk => absurd (h.1.unique hk).1 (by decide))
      (fun w w' es hd hi => by obtain ⟨rfl, rfl⟩ := hd; exact ⟨hi, rfl, fun d t fn pos ht => by rw [ofE_nil]; exact ht⟩) (Wk.of_goes hG11) r11 k11' d11 0 _ hcp12 (.inr (.inr (.inr rfl))) ⟨q4.1.setSt 0, hJs _ _ _ rfl q4.2⟩
    refine (sG.trans ?_) m11 t11 ⟨q8, ht11⟩
    clear sG hcp12 q1 q2 q4 q5 q6 q7 q8 ht11 hG11 hst1
    rintro m t ⟨r12, k12, d12, st12, a12, b12, w12, hcp12, hst12, hi12, hs12, hS12, ht12⟩
    obtain ⟨N13, m13, t13, run13, r13, k13, d13, st13, a13, w13, b13, w13', es13, t13', q1, q2, q3, q4, q5, q6, q7, q8⟩ := bstep (TP := TC X Wg c 1) (J := J) (Ret := Ret) (R := RCd Low) (IW := fun w => WgAt ty Wg w 0 0 ∧ J w) hc hX hAn hAr (TC.muted 1) (TC.own hc 1) RCd.refl (fun w w₁ d h => h.trans (RCd.at _ d))
      (fun w w₁ h hi hk => absurd (hi.1.unique hk).1 (by decide)) (fun w d h => ⟨h.1, hJd _ d h.2⟩) (fun w h hk => absurd (h.1.unique hk).1 (by decide))
      (hs12 w12 (RCd.refl w12)).1 hs12 (fun w₁ h _ => by obtain ⟨_, _, g', h, _⟩ := h; exact ⟨_, _, _, h⟩) hcp12 hst12 hi12 hS12 ht12
    obtain ⟨_, hmw, g13, hg13, qn, hq⟩ := q3
    obtain ⟨rfl, rfl, rfl⟩ := go_inj q6 hg13
    obtain ⟨k13', hcp13, _⟩ := q1.wok q2 hAr (wok_woken (P := P) (g := b12) (g' := b13) (w := w13.setCell (smA Wg) (.int .u32 1)) (q1.act2 q2 hAr))
    obtain ⟨p1, r, p2⟩ : TC X Wg c 1 d13 t13 := by rw [q7]; exact TC.sem hc hX q5
    have hst0 : st13 = 0 := (q1.wg.unique q4.1).1
    have hrun : (woken P b12 b13 (w13.setCell (smA Wg) (.int .u32 1)) a13).status = .running := by
      have hcond : (mayWake P b12 && b13.status != .blocked && b13.status != .waiting) = true := by
        rw [hmw]
        rcases hq.status with e | e <;> rw [e] <;> rfl
      unfold woken
      rw [if_pos hcond]
      rcases q1.act2 q2 hAr with h | ⟨h1, h2⟩
      · rw [again_running _ (.inl h)]; exact h
      · unfold Goroutine.again; rw [h1, h2]
    obtain ⟨N, m', t', e1, e2⟩ := outB hc hX hJd (fun w a v ha hj => hJs w a v ha hj) (by rw [hst0]; decide) q2 hcp13 hrun ⟨q4.1.setSm 1, hJs _ _ _ rfl q4.2⟩ m13 t13 (to_fr hc q8 hq p1 p2)
    exact ⟨N13 + N, m', t', by rw [runNT_add, run13]; exact e1, e2⟩
end
end Go.Bp

/- Add(1) beside leavers. -/
namespace Go.Bp
open Go Go.Conc Go.Conc.Lib
open Go.ConcX (WgAt KK stA smA rd wr mk DC0 Payload Shy EvS AtMkS)
open Go.ConcX.Gen (body_add)

def shyOk (X : Nat → Prop) (Wg : Nat) (act : MemAct) : Prop := ∀ x, act.touch? = some x → SX X x.loc → x.kind = .atomic ∨ ((∃ a : Addr, x.loc = .cell a ∧ a.block = Wg) ∧ x.kind ≠ .plain)

theorem sx_cell {X : Nat → Prop} {a : Addr} : SX X (.cell a) ↔ X a.block := ⟨fun ⟨b, h, hx⟩ => by cases h; exact hx, fun h => ⟨a, rfl, h⟩⟩

@[reducible] def shy (X : Nat → Prop) (Wg C : Nat) (hC : ¬ X C) : Shy Wg C where
  ok := shyOk X Wg
  atomicWg a wr h := fun x hx _ => by simp only [MemAct.touch?, Option.some.injEq] at hx; subst hx; exact .inl rfl
  readWg a h := fun x hx _ => by simp only [MemAct.touch?, Option.some.injEq] at hx; subst hx; exact .inr ⟨⟨a, rfl, h⟩, by simp⟩
  writeWg a h := fun x hx _ => by simp only [MemAct.touch?, Option.some.injEq] at hx; subst hx; exact .inr ⟨⟨a, rfl, h⟩, by simp⟩
  theirs a wr h := fun x hx hs => by
    simp only [MemAct.touch?, Option.some.injEq] at hx; subst hx
    exact absurd (h ▸ sx_cell.1 hs) hC
  disable := fun x hx => by cases hx
  enable := fun x hx => by cases hx
  relMerge := fun x hx => by cases hx
  acquire := fun x hx => by cases hx
  go1 := fun x hx => by cases hx
  start := fun x hx => by cases hx
  stop := fun _ _ => True

section
variable {P : Program} {X : Nat → Prop} {Wg C : Nat}


theorem evS_ev0 (hC : ¬ X C) {e : Event} (h : letI := shy X Wg C hC; EvS Wg C e) : Ev0 X e ∧ e.loc ≠ .mark .disable ∧ e.loc ≠ .mark .enable := by
  obtain ⟨h1, _, _, h4, h5, h6⟩ := h
  refine ⟨fun x hx hs => ?_, fun e1 => ?_, fun e1 => ?_⟩
  · rcases h6 x hx hs with z | ⟨_, z⟩
    · rw [z]; decide
    · exact z
  · obtain ⟨l, wr', sy⟩ := e; subst e1; exact h4 rfl
  · obtain ⟨l, wr', sy⟩ := e; subst e1; exact h5 rfl


theorem dis_ps {d : Nat} {t : Trace} {fn : FuncId} {pos : String} (m : Mark) (hm : m = .disable ∨ m = .enable) (h : Ps X d t) : Ps X (deafBehind d #[mk m]) (t ++ MemOp.ofEvents 0 fn pos #[mk m]) :=
  h.own fun e he x hx => by
    simp at he; subst he
    rcases hm with rfl | rfl <;> simp [mk, MemAct.ofEvent, MemAct.touch?] at hx

variable {L : WgLink}

/-- A walk of the library's, alone, under a count of deafness. -/
theorem lib_to (hC : ¬ X C) {d n : Nat} {Stop : Goroutine → World → Prop} {a : Goroutine} {w : World} (h : letI := shy X Wg C hC; Goes P true Go.Conc.AtRel (DE (EvS Wg C)) Stop n a w) :
    To P (Fr P (Ps X d) a w) (fun m t => ∃ a' w', Fr P (Ps X d) a' w' m t ∧ ∀ w₁, Go.Conc.AtRel w' w₁ → Stop a' w₁) :=
  goes_to (Ps.muted d) (fun w d => ⟨d, rfl⟩) (fun w w' es t fn pos hd ht => by
    have := ht.own (fn := fn) (pos := pos) (es := es) fun e he => (evS_ev0 hC (hd e he)).1
    rwa [still_deaf fun e he => (evS_ev0 hC (hd e he)).2] at this) n a w h

theorem mark_to {d d' : Nat} {m₀ : Mark} (hm : m₀ = .disable ∨ m₀ = .enable) (hd : deafBehind d #[mk m₀] = d') {Next : Goroutine → World → Prop} {a : Goroutine} {w : World} (h : ∀ w₁, Go.Conc.AtRel w w₁ → AtMkS P m₀ Next a w₁) :
    To P (Fr P (Ps X d) a w) (fun m t => ∃ a' w', Fr P (Ps X d') a' w' m t ∧ Next a' w') :=
  one0 (Ps.muted d) (h w ⟨w.drawn, rfl⟩).1 fun d2 => by
    obtain ⟨_, a', h1, h2⟩ := h (w.at d2) ⟨d2, rfl⟩
    exact ⟨a', _, _, h1, fun t fn pos ht => hd ▸ dis_ps m₀ hm ht, h2⟩

set_option maxRecDepth 100000 in

theorem args_add : (#[.pointer (some ⟨Wg, 0, none⟩), .int .i64 1, undef, undef, undef, undef, undef, undef, undef, undef, undef, undef, undef, undef, undef, undef, undef, undef, undef, undef, undef, undef, undef, undef, undef, undef, undef, undef, undef, undef, undef, undef, undef, undef, undef, undef, undef, undef, undef, undef, undef, undef, undef, undef, undef, undef, undef, undef, undef, undef, undef, undef, undef, undef, undef, undef, undef, undef, undef, undef, undef, undef, undef, undef, undef, undef, undef, undef, undef, undef, undef, undef, undef, undef, undef, undef, undef, undef, undef, undef, undef, undef, undef, undef, undef, undef, undef, undef, undef, undef, undef, undef, undef, undef, undef, undef, undef, undef, undef, undef, undef, undef, undef, undef, undef, undef, undef, undef, undef, undef, undef, undef, undef, undef, undef, undef, undef] : Array Value) = #[.pointer (some ⟨Wg, 0, none⟩), .int .i64 1] ++ Array.replicate 115 undef := by kernel_rfl

/-- (*WaitGroup).Add(1), beside leavers. -/
theorem add1_to (H : WgLib P L) (hC : ¬ X C) {b₀ : Frame} {a₀ : Act} {ops₀ : Array Oper} {i₀ : Nat} {rest₀ : List Nat} {k₀ : List Item} {cs : List Frame} {w : World} (hw : WgAt L.tWg Wg w 0 0) :
    To P (Fr P (Ps X 0) (G ((base L.add).at ⟨#[.pointer (some ⟨Wg, 0, none⟩), .int .i64 1] ++ Array.replicate 115 undef, []⟩ [.code (body_add L)]) (b₀.at a₀ (.inRegion ops₀ (i₀ :: rest₀) :: k₀) :: cs)) w)
      (fun m t => ∃ d, Fr P (Ps X 0) (G (b₀.at (a₀.put ((ops₀[i₀]?).bind (·.dst)) (.tuple #[])) (.inRegion ops₀ rest₀ :: k₀)) cs) ((w.setCell (stA Wg) (.int .u64 KK)).at d) m t) := by
  letI := shy X Wg C hC
  have hgo := Go.ConcX.Gen.addPos (P := P) (Wg := Wg) (C := C) (b₀ := b₀) (a₀ := a₀) (ops₀ := ops₀) (i₀ := i₀) (rest₀ := rest₀) (k₀ := k₀) (cs := cs) (mT := 0)
    (StopG := fun g w' => g = G (b₀.at (a₀.put ((ops₀[i₀]?).bind (·.dst)) (.tuple #[])) (.inRegion ops₀ rest₀ :: k₀)) cs ∧ ∃ d, w' = (w.setCell (stA Wg) (.int .u64 KK)).at d) H w hw
    (Goes.stop fun w₁ ⟨d, e⟩ => ⟨rfl, d, e⟩)
  rw [args_add] at hgo
  refine ((lib_to hC hgo).trans (S'' := fun m t => ∃ a' w', Fr P (Ps X 1) a' w' m t ∧ ∃ n, Goes P true AtRel (DE (EvS Wg C)) (AtMkS P .enable fun a w' => ∃ n, Goes P true AtRel (DE (EvS Wg C)) (fun g w' => g = G (b₀.at (a₀.put ((ops₀[i₀]?).bind (·.dst)) (.tuple #[])) (.inRegion ops₀ rest₀ :: k₀)) cs ∧ ∃ d, w' = (w.setCell (stA Wg) (.int .u64 KK)).at d) n a w') n a' w') ?_).trans ?_
  · rintro m t ⟨a', w', hf, hs⟩
    exact mark_to (.inl rfl) rfl hs m t hf
  · rintro m t ⟨a', w', hf, n, hg⟩
    refine ((lib_to hC hg).trans (S'' := fun m t => ∃ a' w', Fr P (Ps X 0) a' w' m t ∧ ∃ n, Goes P true AtRel (DE (EvS Wg C)) (fun g w' => g = G (b₀.at (a₀.put ((ops₀[i₀]?).bind (·.dst)) (.tuple #[])) (.inRegion ops₀ rest₀ :: k₀)) cs ∧ ∃ d, w' = (w.setCell (stA Wg) (.int .u64 KK)).at d) n a' w') ?_ |>.trans ?_) m t hf
    · rintro m t ⟨a', w', hf, hs⟩
      exact mark_to (.inr rfl) rfl hs m t hf
    · rintro m t ⟨a', w', hf, n, hg⟩
      obtain ⟨N, m', t', h1, a2, w2, h2, h3⟩ := lib_to hC hg m t hf
      obtain ⟨rfl, d, rfl⟩ := h3 w2 ⟨w2.drawn, rfl⟩
      exact ⟨N, m', t', h1, d, h2⟩

end
end Go.Bp

/- The go statement beside leavers; the caller goes into Wait. -/
namespace Go.Bp
open Go Go.Conc Go.Conc.Lib
open Go.ConcX (WgAt KK stA smA rd wr mk DC0 kk_ne)
open Go.ConcX.Gen (body_wait)

section
variable {P : Program} {X : Nat → Prop}

theorem go_to {g g' child : Goroutine} (hg : g.status = .running) {w : World} (h : ∀ d, stepG P true g (w.at d) = .spawn g' child (w.at d) #[]) :
    To P (Fr P (Ps X 0) g w) (fun m t => ∃ c d, c ≠ 0 ∧ S2 P c g' child (w.at d) m t ∧ Pw X c 0 0 t) := by
  rintro m t ⟨gs, sl, q, rfl, h0, hL, ht⟩
  obtain ⟨N, gs', d, sl', t', q', i, g1, d2, sl2, r1, r2, r3, r4, r5, r6, r7, r8, r9, _⟩ := pick (act := act0) rfl (Ps.muted (X := X) 0) _ gs w sl t q (Nat.le_refl _) hL
    (fun i y hi hy => by
      have : i = 0 := by simpa [act0] using hi
      subst this
      rw [h0] at hy; cases hy; exact .inl hg) ⟨0, g, rfl, h0, hg⟩ ht
  have hi : i = 0 := by simpa [act0] using r5
  subst hi
  obtain ⟨x, hx, hw⟩ := r8 0 g rfl h0
  have hxa : x = g := by
    rcases hw with h | ⟨h, _⟩
    · exact h
    · rw [hg] at h; cases h
  have hga : g1 = g := by rw [r6] at hx; rw [← hxa]; exact Option.some.inj hx
  subst hga
  have hrunT := runT_crowd_spawn (P := P) (sl := sl2) (i := 0) r6 (show stepG P (0 == 0) g1 (w.at d2) = _ from h d2)
  have hlt : 0 < gs'.size := (Array.getElem?_eq_some_iff.1 r6).1
  have hdc : Deaf t' gs'.size = 0 := r3.above _ (Nat.le_refl _)
  have hPw := Ps.fork r4 (c := gs'.size) (by omega) hdc (fn := g1.frame.fn) (fn' := child.frame.fn) (pos := g1.frame.place) (pos' := g1.frame.place)
  have e1 : t' ++ ((MemOp.ofEvents 0 g1.frame.fn g1.frame.place #[]).push { g := 0, fn := g1.frame.fn, pos := g1.frame.place, act := .go gs'.size } |>.push { g := gs'.size, fn := child.frame.fn, pos := g1.frame.place, act := .start }) =
      t' ++ #[{ g := 0, fn := g1.frame.fn, pos := g1.frame.place, act := .go gs'.size }, { g := gs'.size, fn := child.frame.fn, pos := g1.frame.place, act := .start }] := by
    simp [MemOp.ofEvents]
  refine ⟨N + 1, _, _, by rw [runNT_add, r1]; simp only [runNT, r9, hrunT]; rfl, gs'.size, d2, by omega, ⟨_, sl2, q', rfl, ?_, ?_, ?_⟩, ?_⟩
  · rw [Array.getElem?_push, if_neg (by simp; omega)]; simp [hlt]
  · rw [Array.getElem?_push, if_pos (by simp)]
  · rw [e1]
    have hd : ∀ j, j ≠ 0 → j ≠ gs'.size → Deaf (t' ++ #[({ g := 0, fn := g1.frame.fn, pos := g1.frame.place, act := .go gs'.size } : MemOp), { g := gs'.size, fn := child.frame.fn, pos := g1.frame.place, act := .start }]) j = Deaf t' j := by
      intro j _ _
      exact Go.ConcX.Deaf_keep t' j _ (fun op hop => by simp at hop; rcases hop with rfl | rfl <;> simp)
    refine ⟨fun j y hj hy => ?_, fun j hj => ?_⟩
    · have hj' : j ≠ 0 ∧ j ≠ gs'.size := by simpa [act2] using hj
      rw [Array.getElem?_push, if_neg (by simp; exact hj'.2)] at hy
      rw [Array.getElem?_setIfInBounds_ne (Ne.symm hj'.1)] at hy
      rw [hd j hj'.1 hj'.2]
      exact r3.old j y (by simp [act0, hj'.1]) hy
    · simp at hj
      rw [hd j (by omega) (by omega)]
      exact r3.above j (by omega)
  · rw [e1]; exact hPw
end
end Go.Bp

/- This program's WaitGroup. -/
namespace Go.Bp
open Go Go.Conc Go.Proofs
abbrev wgLink : Go.Conc.Lib.WgLink := { add := 28, done := 30, wait := 32, relMerge := 41, disable := 42, enable := 43, inBubble := 44, associate := 45, fatal := 46, uOr := 47, uAdd := 48, raceRead := 49, uLoad := 50, uStore := 51, disassociate := 52, semrelease := 53, acquire := 57, isAssociated := 58, uCas := 59, raceWrite := 60, semacquire := 61, orU64 := 62, addU64 := 63, loadU64 := 64, storeU64 := 65, casU64 := 72, tWgP := 76, tUP := 78, tAssoc := 80, tWg := 69, tAU := 67, tU64 := 65, tUint := 84, tU32 := 56, tPU32 := 85, tPAU := 93, tPU64 := 95, tNoCopy := 55, tANoCopy := 63, tAlign64 := 64 }
theorem wgLib : Go.Conc.Lib.WgLib Try.prog wgLink :=
  ⟨Try.func28, Try.func30, Try.func32, Try.func41, Try.func42, Try.func43, Try.func44, Try.func45, Try.func46, Try.func47, Try.func48, Try.func49, Try.func50, Try.func51, Try.func52, Try.func53, Try.func57, Try.func58, Try.func59, Try.func60, Try.func61, Try.func62, Try.func63, Try.func64, Try.func65, Try.func72, Try.underlying76, Try.runUnderlying76, Try.sizeOf76, Try.isAgg76, Try.zeroValue76, Try.underlying78, Try.runUnderlying78, Try.sizeOf78, Try.isAgg78, Try.zeroValue78, Try.underlying80, Try.runUnderlying80, Try.sizeOf80, Try.isAgg80, Try.zeroValue80, Try.underlying69, Try.runUnderlying69, Try.sizeOf69, Try.isAgg69, Try.zeroValue69, Try.underlying67, Try.runUnderlying67, Try.sizeOf67, Try.isAgg67, Try.zeroValue67, Try.underlying65, Try.runUnderlying65, Try.sizeOf65, Try.isAgg65, Try.zeroValue65, Try.underlying84, Try.runUnderlying84, Try.sizeOf84, Try.isAgg84, Try.zeroValue84, Try.underlying56, Try.runUnderlying56, Try.sizeOf56, Try.isAgg56, Try.zeroValue56, Try.underlying85, Try.runUnderlying85, Try.sizeOf85, Try.isAgg85, Try.zeroValue85, Try.underlying93, Try.runUnderlying93, Try.sizeOf93, Try.isAgg93, Try.zeroValue93, Try.underlying95, Try.runUnderlying95, Try.sizeOf95, Try.isAgg95, Try.zeroValue95, Try.underlying0, Try.runUnderlying0, Try.sizeOf0, Try.isAgg0, Try.zeroValue0, Try.underlying3, Try.runUnderlying3, Try.sizeOf3, Try.isAgg3, Try.zeroValue3, Try.underlying4, Try.runUnderlying4, Try.sizeOf4, Try.isAgg4, Try.zeroValue4, Try.underlying9, Try.runUnderlying9, Try.sizeOf9, Try.isAgg9, Try.zeroValue9, Try.underlying20, Try.runUnderlying20, Try.sizeOf20, Try.isAgg20, Try.zeroValue20, Try.underlying21, Try.runUnderlying21, Try.sizeOf21, Try.isAgg21, Try.zeroValue21, (by kernel_rfl), (by kernel_rfl)⟩
end Go.Bp

/- This program's plain functions. -/
namespace Go.Proofs.Ytfckhpkebdpkbaa
open Go Go.Conc Go.Bp

/-- The plain functions. -/
def plainF (f : Nat) : Bool := [4, 5, 6, 7, 8, 10, 11, 12, 13, 14, 15, 16, 17, 18, 19, 20, 21, 22, 23, 24, 25, 26, 27, 33, 34, 35, 36, 37, 38, 39, 40, 56, 68, 69, 70, 71, 77].contains f
def plainU (t : Nat) : Bool := t == 3 || t == 4

theorem plainU_ok : ∀ t, plainU t = true → (∃ k, Try.prog.underlying t = some (.int k)) ∨ Try.prog.underlying t = some .bool := by
  intro t h
  simp [plainU] at h
  rcases h with rfl | rfl
  · exact .inl ⟨_, Try.underlying3⟩
  · exact .inr Try.underlying4
theorem okc4 : okCB plainF plainU (Try.f4.body.getD .skip) = true := by kernel_rfl
theorem okc5 : okCB plainF plainU (Try.f5.body.getD .skip) = true := by kernel_rfl
theorem okc6 : okCB plainF plainU (Try.f6.body.getD .skip) = true := by kernel_rfl
theorem okc7 : okCB plainF plainU (Try.f7.body.getD .skip) = true := by kernel_rfl
theorem okc8 : okCB plainF plainU (Try.f8.body.getD .skip) = true := by kernel_rfl
theorem okc10 : okCB plainF plainU (Try.f10.body.getD .skip) = true := by kernel_rfl
theorem okc11 : okCB plainF plainU (Try.f11.body.getD .skip) = true := by kernel_rfl
theorem okc12 : okCB plainF plainU (Try.f12.body.getD .skip) = true := by kernel_rfl
theorem okc13 : okCB plainF plainU (Try.f13.body.getD .skip) = true := by kernel_rfl
theorem okc14 : okCB plainF plainU (Try.f14.body.getD .skip) = true := by kernel_rfl
theorem okc15 : okCB plainF plainU (Try.f15.body.getD .skip) = true := by kernel_rfl
theorem okc16 : okCB plainF plainU (Try.f16.body.getD .skip) = true := by kernel_rfl
theorem okc17 : okCB plainF plainU (Try.f17.body.getD .skip) = true := by kernel_rfl
theorem okc18 : okCB plainF plainU (Try.f18.body.getD .skip) = true := by kernel_rfl
theorem okc19 : okCB plainF plainU (Try.f19.body.getD .skip) = true := by kernel_rfl
theorem okc20 : okCB plainF plainU (Try.f20.body.getD .skip) = true := by kernel_rfl
theorem okc21 : okCB plainF plainU (Try.f21.body.getD .skip) = true := by kernel_rfl
theorem okc22 : okCB plainF plainU (Try.f22.body.getD .skip) = true := by kernel_rfl
theorem okc23 : okCB plainF plainU (Try.f23.body.getD .skip) = true := by kernel_rfl
theorem okc24 : okCB plainF plainU (Try.f24.body.getD .skip) = true := by kernel_rfl
theorem okc25 : okCB plainF plainU (Try.f25.body.getD .skip) = true := by kernel_rfl
theorem okc26 : okCB plainF plainU (Try.f26.body.getD .skip) = true := by kernel_rfl
theorem okc27 : okCB plainF plainU (Try.f27.body.getD .skip) = true := by kernel_rfl
theorem okc33 : okCB plainF plainU (Try.f33.body.getD .skip) = true := by kernel_rfl
theorem okc34 : okCB plainF plainU (Try.f34.body.getD .skip) = true := by kernel_rfl
theorem okc35 : okCB plainF plainU (Try.f35.body.getD .skip) = true := by kernel_rfl
theorem okc36 : okCB plainF plainU (Try.f36.body.getD .skip) = true := by kernel_rfl
theorem okc37 : okCB plainF plainU (Try.f37.body.getD .skip) = true := by kernel_rfl
theorem okc38 : okCB plainF plainU (Try.f38.body.getD .skip) = true := by kernel_rfl
theorem okc39 : okCB plainF plainU (Try.f39.body.getD .skip) = true := by kernel_rfl
theorem okc40 : okCB plainF plainU (Try.f40.body.getD .skip) = true := by kernel_rfl
theorem okc56 : okCB plainF plainU (Try.f56.body.getD .skip) = true := by kernel_rfl
theorem okc68 : okCB plainF plainU (Try.f68.body.getD .skip) = true := by kernel_rfl
theorem okc69 : okCB plainF plainU (Try.f69.body.getD .skip) = true := by kernel_rfl
theorem okc70 : okCB plainF plainU (Try.f70.body.getD .skip) = true := by kernel_rfl
theorem okc71 : okCB plainF plainU (Try.f71.body.getD .skip) = true := by kernel_rfl
theorem okc77 : okCB plainF plainU (Try.f77.body.getD .skip) = true := by kernel_rfl

theorem follows_ahead : Try.prog.follows .staticDataAhead = true := by kernel_rfl
theorem noReady : Try.prog.funcs.all (fun f => !(f.body.map readies).any (fun l => !l.isEmpty)) = true := by kernel_rfl

theorem early_ends : ∀ fr cs dy g w, ∃ o w' es, early Try.prog fr cs dy g w = .ended o w' es := by
  intro fr cs dy g w
  have hs : Try.prog.stepOf g = none := by
    unfold Program.stepOf
    rw [Array.findIdx?_eq_none_iff]
    intro x hx
    have := (Array.all_eq_true_iff_forall_mem.1 noReady) x hx
    cases hb : x.body with
    | none => simp
    | some c =>
      rw [hb] at this
      simp at this
      simp [this]
  unfold early
  simp only [follows_ahead, Bool.not_true, Bool.false_eq_true, if_false, hs]
  exact ⟨_, _, _, rfl⟩

theorem plain_fn : ∀ f, plainF f = true → ∃ fn, Try.prog.funcs[f]? = some fn ∧ fn.body.isNone = false ∧ (fn.name == "runtime.NumGoroutine") = false ∧ okCB plainF plainU (fn.body.getD .skip) = true := by
  intro f h
  simp [plainF] at h
  rcases h with rfl | rfl | rfl | rfl | rfl | rfl | rfl | rfl | rfl | rfl | rfl | rfl | rfl | rfl | rfl | rfl | rfl | rfl | rfl | rfl | rfl | rfl | rfl | rfl | rfl | rfl | rfl | rfl | rfl | rfl | rfl | rfl | rfl | rfl | rfl | rfl | rfl
  · exact ⟨_, Try.func4, by kernel_rfl, by kernel_rfl, okc4⟩
  · exact ⟨_, Try.func5, by kernel_rfl, by kernel_rfl, okc5⟩
  · exact ⟨_, Try.func6, by kernel_rfl, by kernel_rfl, okc6⟩
  · exact ⟨_, Try.func7, by kernel_rfl, by kernel_rfl, okc7⟩
  · exact ⟨_, Try.func8, by kernel_rfl, by kernel_rfl, okc8⟩
  · exact ⟨_, Try.func10, by kernel_rfl, by kernel_rfl, okc10⟩
  · exact ⟨_, Try.func11, by kernel_rfl, by kernel_rfl, okc11⟩
  · exact ⟨_, Try.func12, by kernel_rfl, by kernel_rfl, okc12⟩
  · exact ⟨_, Try.func13, by kernel_rfl, by kernel_rfl, okc13⟩
  · exact ⟨_, Try.func14, by kernel_rfl, by kernel_rfl, okc14⟩
  · exact ⟨_, Try.func15, by kernel_rfl, by kernel_rfl, okc15⟩
  · exact ⟨_, Try.func16, by kernel_rfl, by kernel_rfl, okc16⟩
  · exact ⟨_, Try.func17, by kernel_rfl, by kernel_rfl, okc17⟩
  · exact ⟨_, Try.func18, by kernel_rfl, by kernel_rfl, okc18⟩
  · exact ⟨_, Try.func19, by kernel_rfl, by kernel_rfl, okc19⟩
  · exact ⟨_, Try.func20, by kernel_rfl, by kernel_rfl, okc20⟩
  · exact ⟨_, Try.func21, by kernel_rfl, by kernel_rfl, okc21⟩
  · exact ⟨_, Try.func22, by kernel_rfl, by kernel_rfl, okc22⟩
  · exact ⟨_, Try.func23, by kernel_rfl, by kernel_rfl, okc23⟩
  · exact ⟨_, Try.func24, by kernel_rfl, by kernel_rfl, okc24⟩
  · exact ⟨_, Try.func25, by kernel_rfl, by kernel_rfl, okc25⟩
  · exact ⟨_, Try.func26, by kernel_rfl, by kernel_rfl, okc26⟩
  · exact ⟨_, Try.func27, by kernel_rfl, by kernel_rfl, okc27⟩
  · exact ⟨_, Try.func33, by kernel_rfl, by kernel_rfl, okc33⟩
  · exact ⟨_, Try.func34, by kernel_rfl, by kernel_rfl, okc34⟩
  · exact ⟨_, Try.func35, by kernel_rfl, by kernel_rfl, okc35⟩
  · exact ⟨_, Try.func36, by kernel_rfl, by kernel_rfl, okc36⟩
  · exact ⟨_, Try.func37, by kernel_rfl, by kernel_rfl, okc37⟩
  · exact ⟨_, Try.func38, by kernel_rfl, by kernel_rfl, okc38⟩
  · exact ⟨_, Try.func39, by kernel_rfl, by kernel_rfl, okc39⟩
  · exact ⟨_, Try.func40, by kernel_rfl, by kernel_rfl, okc40⟩
  · exact ⟨_, Try.func56, by kernel_rfl, by kernel_rfl, okc56⟩
  · exact ⟨_, Try.func68, by kernel_rfl, by kernel_rfl, okc68⟩
  · exact ⟨_, Try.func69, by kernel_rfl, by kernel_rfl, okc69⟩
  · exact ⟨_, Try.func70, by kernel_rfl, by kernel_rfl, okc70⟩
  · exact ⟨_, Try.func71, by kernel_rfl, by kernel_rfl, okc71⟩
  · exact ⟨_, Try.func77, by kernel_rfl, by kernel_rfl, okc77⟩

theorem plain_closed : Closed Try.prog plainF := by
  refine ⟨early_ends, fun f h => ?_⟩
  obtain ⟨fn, h1, h2, h3, h4⟩ := plain_fn f h
  cases hb : fn.body with
  | none => rw [hb] at h2; cases h2
  | some body =>
    rw [hb] at h4
    exact ⟨fn, body, h1, hb, code_of plainU_ok (fun f h => by obtain ⟨fn, a, b, c, _⟩ := plain_fn f h; exact ⟨fn, a, b, c⟩) h4, fun t => t_results fn t⟩
theorem plain_code {c : Code} (h : okCB plainF plainU c = true) : okCode Try.prog plainF c :=
  code_of plainU_ok (fun f h => by obtain ⟨fn, a, b, c, _⟩ := plain_fn f h; exact ⟨fn, a, b, c⟩) h
end Go.Proofs.Ytfckhpkebdpkbaa

/-
  A region whose order is drawn, in the worker's walk, by an invariant.
-/
import Derived.Test.YtfckhpkebdpkbaaPlayA4
import Derived.Orders
import Derived.RegionTactic
import Derived.WalkKit
import Derived.Conc.CompanyDraw
import Derived.Test.YtfckhpkebdpkbaaPlayA3
import Derived.Conc.FxGenDone
namespace Go.Bp
open Go Go.Conc Go.RowKit
theorem count_put {listed : Array Bool} {i : Nat} (h : listed.getD i true = false) : (listed.setIfInBounds i true).toList.count false + 1 = listed.toList.count false := by
  have hlt : i < listed.size := by
    rcases Nat.lt_or_ge i listed.size with h' | h'
    · exact h'
    · simp [Array.getElem?_eq_none h'] at h
  have hv : listed.toList[i]'(by simpa using hlt) = false := by simpa [hlt] using h
  rw [Array.toList_setIfInBounds, List.count_set (by simpa using hlt)]
  have hm : 0 < listed.toList.count false := List.count_pos_iff.2 (hv ▸ List.getElem_mem _)
  rw [hv]
  simp only [beq_self_eq_true, if_true, Bool.true_eq_false, if_false, beq_iff_eq]
  omega
def seen (l : Array Bool) (i : Nat) : Prop := l.getD i false = true
theorem seen_set {l : Array Bool} {i j : Nat} (h : seen (l.setIfInBounds i true) j) : j = i ∨ seen l j := by
  by_cases e : i = j
  · exact .inl e.symm
  · exact .inr (by unfold seen at h ⊢; rwa [getD_set_ne false e] at h)
theorem seen_more {l : Array Bool} {i j : Nat} (h : seen l j) : seen (l.setIfInBounds i true) j := getD_set_true h
theorem seen_self {l : Array Bool} {i : Nat} (h : l.getD i true = false) : seen (l.setIfInBounds i true) i := by
  have hlt : i < l.size := by
    rcases Nat.lt_or_ge i l.size with h' | h'
    · exact h'
    · simp [Array.getElem?_eq_none h'] at h
  unfold seen
  simp [hlt]
theorem not_seen {l : Array Bool} {i : Nat} (h : l.getD i true = false) : ¬ seen l i := by
  have hlt : i < l.size := by
    rcases Nat.lt_or_ge i l.size with h' | h'
    · exact h'
    · simp [Array.getElem?_eq_none h'] at h
  intro hs
  unfold seen at hs
  simp [hlt] at h hs
  rw [h] at hs
  cases hs
theorem ready_seen {md : Region.Mode} {ops : Array Oper} {l : Array Bool} {i k : Nat} (h : i ∈ Region.ready md ops l) (hk : (ops[i]?.map fun o => o.after.any fun e => Region.binds md e && e.on == k) = some true) : seen l k := by
  obtain ⟨_, o, ho, hall⟩ := mem_ready.1 h
  rw [ho] at hk
  simp only [Option.map_some, Option.some.injEq] at hk
  obtain ⟨e, he, hb⟩ := Array.any_eq_true'.1 hk
  simp only [Bool.and_eq_true, beq_iff_eq] at hb
  have := hall e he hb.1
  rw [hb.2] at this
  exact this
theorem ready_lt {md : Region.Mode} {ops : Array Oper} {l : Array Bool} {i : Nat} (h : i ∈ Region.ready md ops l) : i < ops.size := by
  obtain ⟨_, o, ho, _⟩ := mem_ready.1 h
  exact (Array.getElem?_eq_some_iff.1 ho).1
/-- All are listed when none is ready, if each comes behind lesser ones. -/
theorem all_seen {md : Region.Mode} {ops : Array Oper} {l : Array Bool} (hs : l.size = ops.size) (hr : Region.ready md ops l = []) (hlt : ∀ (i : Nat) (o : Oper), ops[i]? = some o → ∀ e ∈ o.after, Region.binds md e = true → e.on < i) : ∀ i, i < ops.size → seen l i := fun i => by
  induction i using Nat.strongRecOn with
  | ind i ih =>
    intro hi
    cases hg : l.getD i true
    · have : i ∈ Region.ready md ops l := mem_ready.2 ⟨hg, ops[i], Array.getElem?_eq_getElem hi, fun e he hb => ih e.on (hlt i _ (Array.getElem?_eq_getElem hi) e he hb) (by have := hlt i _ (Array.getElem?_eq_getElem hi) e he hb; omega)⟩
      rw [hr] at this
      cases this
    · unfold seen
      have hl : i < l.size := by omega
      simpa [hl] using hg
/-- Each operation comes behind lesser ones. -/
def lesser (ops : Array Oper) : Bool := (List.range ops.size).all fun i => match ops[i]? with | some o => o.after.all fun e => decide (e.on < i) || !Region.binds .any e | none => true
theorem lesser_spec {ops : Array Oper} (h : lesser ops = true) : ∀ (i : Nat) (o : Oper), ops[i]? = some o → ∀ e ∈ o.after, Region.binds .any e = true → e.on < i := fun i o ho e he hb => by
  have hi := (Array.getElem?_eq_some_iff.1 ho).1
  have := List.all_eq_true.1 h i (List.mem_range.2 hi)
  rw [ho] at this
  have := Array.all_eq_true_iff_forall_mem.1 this e he
  simpa [hb] using this
theorem seen_none (n j : Nat) : ¬ seen (Array.replicate n false) j := by
  unfold seen
  simp [Array.getElem?_replicate]
  split <;> simp

section
variable {P : Program} {X : Nat → Prop} {Stop : Goroutine → World → Prop} {F : Nat → Bool}

/-- A step of control. -/
theorem Wd.still {dc : Nat} {g g' : Goroutine} {w : World} (hg : g.status = .running) (h : ∀ w, stepG P false g w = .go g' w) (hk : ∀ w₁, RX X w w₁ → Wd P X Stop dc g' w₁) : Wd P X Stop dc g w :=
  .next hg fun w₁ h₁ => ⟨g', w₁, _, h w₁, ⟨fun _ _ => rfl, by simp⟩, hk w₁ h₁⟩

theorem Wd.cn {b : Frame} {Q : Act → World → Prop} (hQ : ∀ a w T d, Q a w → Q a (re w T d)) (hC : Closed P F) (hb : b.kind ≠ .early) {s : St} {u w : World} (h : Cn P F b Q s u) (hS : Sim X u w) (e : Env) {dc : Nat}
    (hk : ∀ t u' w', Q ⟨t, []⟩ u' → Sim X u' w' → Wd P X Stop dc (G (b.at ⟨t, e.D⟩ e.k) e.cs) w') : Wd P X Stop dc (s.mk b e) w :=
  Wd.of_wk (bar hQ hC hb h hS false e) fun g w' ⟨t, u', hg, hq, hs⟩ => by subst hg; exact hk t u' w' hq hs

/-- A lone piece of code. -/
theorem Wd.code {b : Frame} {Q : Act → World → Prop} (hQ : ∀ a w T d, Q a w → Q a (re w T d)) (hC : Closed P F) (hb : b.kind ≠ .early) {c : Code} (hc : okCode P F c) {t : Array Value} {u w : World}
    (h : ∀ T d, c.wp P (fun e a w => e = .normal ∧ Q a w) ⟨t, []⟩ (re u T d)) (hS : Sim X u w) {D : List Deferred} {k : List Item} {cs : List Frame} {dc : Nat}
    (hk : ∀ t u' w', Q ⟨t, []⟩ u' → Sim X u' w' → Wd P X Stop dc (G (b.at ⟨t, D⟩ k) cs) w') : Wd P X Stop dc (G (b.at ⟨t, D⟩ (.code c :: k)) cs) w :=
  Wd.cn (s := .base t [.code c]) hQ hC hb ⟨okItems_cons hc (by intro y hy; cases hy), fun T d => by
    obtain ⟨e, a, w', ⟨rfl, hq⟩, n, hn⟩ := h T d b k0 [stuckF]
    exact ⟨n, a, w', hn, hq⟩⟩ hS ⟨D, k, cs⟩ hk

/-- A region whose order is drawn. -/
theorem Wd.drawn {b : Frame} {D : List Deferred} {k : List Item} {cs : List Frame} {dc id : Nat} {ops : Array Oper} {t : Array Value} {w : World} (hm : P.follows .mixedOrders = true) (I : Array Bool → Array Value → World → Prop)
    (hI : ∀ l t w w₁, I l t w → RX X w w₁ → I l t w₁)
    (h0 : ∀ w₁, RX X w w₁ → I (Array.replicate ops.size false) t { w₁ with drawn := w₁.drawn + 1 })
    (hstep : ∀ l t w i, I l t w → i ∈ Region.ready .any ops l → ∀ rest, (∀ t' w', I (l.setIfInBounds i true) t' w' → Wd P X Stop dc (G (b.at ⟨t', D⟩ (.inRegion ops rest :: k)) cs) w') →
      Wd P X Stop dc (G (b.at ⟨t, D⟩ (.inRegion ops (i :: rest) :: k)) cs) w)
    (hlt : lesser ops = true)
    (hend : ∀ l t w, I l t w → (∀ i, i < ops.size → seen l i) → Wd P X Stop dc (G (b.at ⟨t, D⟩ k) cs) w) :
    Wd P X Stop dc (G (b.at ⟨t, D⟩ (.code (.region id ops true) :: k)) cs) w := by
  have fin : ∀ l t w, l.size = ops.size → I l t w → Region.ready .any ops l = [] → Wd P X Stop dc (G (b.at ⟨t, D⟩ (.inRegion ops [] :: k)) cs) w := fun l t w hl h hr =>
    Wd.still rfl (fun _ => stepG_region_end) fun w₁ h₁ => hend l t w₁ (hI _ _ _ _ h h₁) (all_seen hl hr (lesser_spec hlt))
  have main : ∀ (fuel tp : Nat) (l : Array Bool) (t : Array Value) (w : World), l.size = ops.size → I l t w → l.toList.count false ≤ fuel → Wd P X Stop dc (G (b.at ⟨t, D⟩ (.inRegion ops (Region.linearise.go .any ops fuel tp l []) :: k)) cs) w := by
    intro fuel
    induction fuel with
    | zero =>
      intro tp l t w hl h hf
      have hr : Region.ready .any ops l = [] := by
        cases hh : Region.ready .any ops l with
        | nil => rfl
        | cons x xs =>
          have hx : x ∈ Region.ready .any ops l := by rw [hh]; exact List.mem_cons_self ..
          have := count_put (mem_ready.1 hx).1
          omega
      simp only [Region.linearise.go, List.reverse_nil]
      exact fin l t w hl h hr
    | succ fuel ih =>
      intro tp l t w hl h hf
      simp only [Region.linearise.go]
      change Wd P X Stop dc (G (b.at ⟨t, D⟩ (.inRegion ops (match (Region.ready .any ops l)[tp % (Region.ready .any ops l).length]? with
        | some i => Region.linearise.go .any ops fuel (tp / (Region.ready .any ops l).length) (l.setIfInBounds i true) [i]
        | none => [].reverse) :: k)) cs) w
      cases hi : (Region.ready .any ops l)[tp % (Region.ready .any ops l).length]? with
      | none =>
        have hnil : Region.ready .any ops l = [] := by
          cases hr : Region.ready .any ops l with
          | nil => rfl
          | cons x xs =>
            rw [hr] at hi
            have hlt : tp % (x :: xs).length < (x :: xs).length := Nat.mod_lt _ (by simp)
            simp at hi
            simp at hlt
            omega
        exact fin l t w hl h hnil
      | some i =>
        simp only []
        rw [linearise_go_acc, List.reverse_singleton, List.singleton_append]
        have hmem := List.mem_of_getElem? hi
        exact hstep l t w i h hmem _ fun t' w' h' => ih _ _ t' w' (by rw [Array.size_setIfInBounds]; exact hl) h' (by have := count_put (mem_ready.1 hmem).1; omega)
  refine .next rfl fun w₁ h₁ => ⟨_, _, _, stepG_region_draw, ⟨fun _ _ => rfl, by simp⟩, ?_⟩
  simp only [Region.schedule, hm, Bool.true_or, if_true]
  exact main _ _ _ _ _ (by simp) (h0 w₁ h₁) (by rw [Array.toList_replicate, List.count_replicate_self]; exact Nat.le_refl _)
end
end Go.Bp

/- This program's Mutex; the bank's method as the worker runs it. -/
namespace Go.Bp
open Go Go.Conc Go.Proofs Go.RowKit
open Go.ConcX (mk DC0)
open Go.ConcX.Gen
abbrev muLink : Go.Conc.Locks.MuLink := { lock := 54, unlock := 55, ilock := 66, iunlock := 67, lockSlow := 74, unlockSlow := 76, disable := 42, enable := 43, acquire := 57, relMerge := 41, cas32 := 73, add32 := 75, tMutex := 60, tIMutex := 58, tPMutex := 98, tPIMutex := 103, tPI32 := 105, tUP := 78, tNoCopy := 55, tU32 := 56 }
theorem muLib : Go.Conc.Locks.MuLib Try.prog muLink :=
  ⟨Try.func54, Try.func55, Try.func66, Try.func67, Try.func42, Try.func43, Try.func57, Try.func41, Try.func73, Try.func75, Try.underlying58, Try.runUnderlying58, Try.sizeOf58, Try.isAgg58, Try.zeroValue58, Try.underlying60, Try.runUnderlying60, Try.sizeOf60, Try.isAgg60, Try.zeroValue60, Try.underlying98, Try.runUnderlying98, Try.sizeOf98, Try.isAgg98, Try.zeroValue98, Try.underlying103, Try.runUnderlying103, Try.sizeOf103, Try.isAgg103, Try.zeroValue103, Try.underlying105, Try.runUnderlying105, Try.sizeOf105, Try.isAgg105, Try.zeroValue105, Try.underlying78, Try.runUnderlying78, Try.sizeOf78, Try.isAgg78, Try.zeroValue78, Try.underlying55, Try.runUnderlying55, Try.sizeOf55, Try.isAgg55, Try.zeroValue55, Try.underlying21, Try.runUnderlying21, Try.sizeOf21, Try.isAgg21, Try.zeroValue21, (by kernel_rfl)⟩

noncomputable def body31 : Code := Try.f31.body.getD .skip
noncomputable def r31_3 : Code := match body31 with | .seq _ (.seq _ (.seq _ (.seq c _))) => c | _ => .skip
noncomputable def r31_0 : Code := match body31 with | .seq c _ => c | _ => .skip

section
variable {X : Nat → Prop} {Stop : Goroutine → World → Prop} {b₀ : Frame} {a₀ : Act} {ops₀ : Array Oper} {i₀ : Nat} {rest₀ : List Nat} {k₀ : List Item} {cs : List Frame}

theorem nm_lock : (Try.f54.name == "runtime.NumGoroutine") = false := by kernel_rfl
theorem nm_unlock : (Try.f55.name == "runtime.NumGoroutine") = false := by kernel_rfl
theorem re_re (u : World) (T T' : Nat → Question → Nat) (d d' : Nat) : re (re u T d) T' d' = re u T' d' := rfl

set_option maxRecDepth 100000 in
set_option maxHeartbeats 4000000 in
/-- The bank's method, the Mutex free: it ends as its third region ends, alone, in the world where the Mutex is taken. -/
theorem do_wd {B : Nat} {u w : World} {op : Value} {Q1 Q3 : Act → World → Prop} (hQ1 : ∀ a w T d, Q1 a w → Q1 a (re w T d)) (hQ3 : ∀ a w T d, Q3 a w → Q3 a (re w T d)) (hB : ¬ X B)
    (h0 : ∀ T d, r31_0.wp Try.prog (fun e a w => e = .normal ∧ ∃ p, a = ⟨#[.pointer (some ⟨B, 0, none⟩), op, undef, p, .int .i64 0, undef, undef, undef, undef, undef, undef, undef, undef, undef, undef, undef, undef], []⟩ ∧ Q1 a w)
      ⟨#[.pointer (some ⟨B, 0, none⟩), op, undef, undef, undef, undef, undef, undef, undef, undef, undef, undef, undef, undef, undef, undef, undef], []⟩ (re u T d))
    (hl : ∀ a u', Q1 a u' → u'.cell? ⟨B, 0, none⟩ = some (.int .i32 0) ∧ u'.frozen? ⟨B, 0, none⟩ = false)
    (h3 : ∀ p u', Q1 ⟨#[.pointer (some ⟨B, 0, none⟩), op, undef, p, .int .i64 0, undef, undef, undef, undef, undef, undef, undef, undef, undef, undef, undef, undef], []⟩ u' →
      ∀ T d, r31_3.wp Try.prog (fun e a w => e = .normal ∧ Q3 a w) ⟨#[.pointer (some ⟨B, 0, none⟩), op, undef, p, .int .i64 0, .pointer (some ⟨B, 0, none⟩), .pointer (some ⟨B, 0, none⟩), .pointer (some ⟨B, 0, none⟩), .tuple #[], .pointer (some ⟨B, 0, none⟩), .pointer (some ⟨B, 0, none⟩), .pointer (some ⟨B, 0, none⟩), undef, undef, undef, undef, undef], []⟩
        (re (u'.setCell ⟨B, 0, none⟩ (.int .i32 1)) T d))
    (hq : ∀ a u', Q3 a u' → u'.cell? ⟨B, 0, none⟩ = some (.int .i32 1) ∧ u'.frozen? ⟨B, 0, none⟩ = false)
    (hF : Sim X u w)
    (hk : ∀ a u' w', Q3 a u' → Sim X (u'.setCell ⟨B, 0, none⟩ (.int .i32 0)) w' → Wd Try.prog X Stop 0 (G (b₀.at (a₀.put ((ops₀[i₀]?).bind (·.dst)) (a.tmps.getD 4 undef)) (.inRegion ops₀ rest₀ :: k₀)) cs) w') :
    Wd Try.prog X Stop 0 (G ((base 31).at ⟨#[.pointer (some ⟨B, 0, none⟩), op, undef, undef, undef, undef, undef, undef, undef, undef, undef, undef, undef, undef, undef, undef, undef], []⟩ [.code body31]) (b₀.at a₀ (.inRegion ops₀ (i₀ :: rest₀) :: k₀) :: cs)) w := by
  have e31 : body31 = .seq r31_0 (Code.seq _ (.seq _ (.seq r31_3 .ret))) := rfl
  rw [e31]
  refine Wd.still rfl (fun _ => stepG_seq) fun w₁ h₁ => ?_
  replace hF := sim_rely hF h₁
  clear h₁
  refine Wd.code (Q := fun a w => ∃ p, a = ⟨#[.pointer (some ⟨B, 0, none⟩), op, undef, p, .int .i64 0, undef, undef, undef, undef, undef, undef, undef, undef, undef, undef, undef, undef], []⟩ ∧ Q1 a w) (fun a w T d ⟨p, h, h'⟩ => ⟨p, h, hQ1 _ _ _ _ h'⟩) Go.Proofs.Ytfckhpkebdpkbaa.plain_closed (base_kind _) (Go.Proofs.Ytfckhpkebdpkbaa.plain_code (by kernel_rfl)) h0 hF ?_
  rintro t u1 w1 ⟨p, ht, hq1⟩ hF
  simp only [Act.mk.injEq, and_true] at ht
  subst ht
  obtain ⟨hl1, hl2⟩ := hl _ _ hq1
  replace h3 := h3 p u1 hq1
  have lf1 := Try.runUnderlying62
  have lf2 := Try.underlying62
  have lf3 := Try.sizeOf62
  have lf4 := Try.isAgg62
  refine Wd.fin (n := 20) ?_
  u_c stepG_seq sim_rely hF
  u_reg sim_rely hF
  u_op sim_rely hF
  u_op sim_rely hF
  u_op sim_rely hF
  u_call muLib.f_lock (nm_lock) Go.Conc.Locks.lockFn sim_rely hF
  refine Goes.stop (fun w₁ h₁ => ?_)
  refine lock_wd (L := muLink) muLib hB hl1 hl2 (sim_rely hF h₁) ?_
  clear hF h₁
  intro w2 hF
  have hz : (u1.setCell ⟨B, 0, none⟩ (.int .i32 1)).frozen? ⟨B, 0, none⟩ = false := by rw [World.frozen?_setCell]; exact hl2
  walk_nrm
  refine Wd.fin (n := 20) ?_
  u_c stepG_region_end sim_rely hF
  u_c stepG_seq sim_rely hF
  u_reg sim_rely hF
  u_op sim_rely hF
  u_op sim_rely hF
  u_op sim_rely hF
  u_defer sim_rely hF
  u_c stepG_region_end sim_rely hF
  u_c stepG_seq sim_rely hF
  refine Goes.stop (fun w₁ h₁ => ?_)
  replace hF := sim_rely hF h₁
  clear h₁
  refine Wd.code hQ3 Go.Proofs.Ytfckhpkebdpkbaa.plain_closed (base_kind _) (Go.Proofs.Ytfckhpkebdpkbaa.plain_code (by kernel_rfl)) h3 hF ?_
  rintro t u3 w3 hq3 hF
  obtain ⟨hc3, hz3⟩ := hq _ _ hq3
  refine Wd.fin (n := 20) ?_
  u_c stepG_ret' sim_rely hF
  u_in sim_rely hF
  rw [stepG_unwind_enter rfl muLib.f_unlock nm_unlock rfl]
  simp only [goes_go]
  refine ⟨by u_nil, ?_⟩
  walk_nrmf Go.Conc.Locks.unlockFn
  refine Goes.stop (fun w₁ h₁ => ?_)
  refine unlock_wd (L := muLink) muLib hB rfl hc3 hz3 (sim_rely hF h₁) ?_
  clear hF h₁
  intro w4 hF
  refine Wd.fin (n := 20) ?_
  u_leave1 Try.func31 sim_rely hF
  refine Goes.stop fun w₅ h₁ => ?_
  have hk' := hk ⟨t, []⟩ u3 w₅ hq3 (hF.rely h₁)
  simp only [Act.put, Array.getD_eq_getD_getElem?] at hk'
  exact hk'
end
end Go.Bp

/- One plain operation in the worker's walk, by what it does alone. -/
namespace Go.Bp
open Go Go.Conc

section
variable {P : Program} {X : Nat → Prop} {Stop : Goroutine → World → Prop} {F : Nat → Bool}

theorem Wd.op {b : Frame} {t : Array Value} {D : List Deferred} {k : List Item} {cs : List Frame} {dc i : Nat} {rest : List Nat} {ops : Array Oper} {o : Oper} {u w : World} (ho : ops[i]? = some o) (hw : Region.wanted o (yielded ops t) = true) (hb : b.kind ≠ .early)
    (hpl : PlainOp P F o) {v : Value} {x : Next} (hx : x = .value v ∨ (x = .skip ∧ v = undef)) {R : World → Prop} (h : ∀ T d, ∃ u', (execOp (Act.eval ⟨t, D⟩) o).run P (re u T d) = .ok x u' ∧ R u') (hS : Sim X u w)
    (hk : ∀ u' w', R u' → Sim X u' w' → Wd P X Stop dc (G (b.at (Act.put ⟨t, D⟩ o.dst v) (.inRegion ops rest :: k)) cs) w') : Wd P X Stop dc (G (b.at ⟨t, D⟩ (.inRegion ops (i :: rest) :: k)) cs) w := by
  refine .next rfl fun w₁ h₁ => ?_
  obtain ⟨u', hr, hR⟩ := h w₁.tape w₁.drawn
  have hS1 : Sim X (re u w₁.tape w₁.drawn) w₁ := by
    have := hS.rely h₁
    exact ⟨this.size, this.same, this.hid, this.os, this.output⟩
  have hrT : (execOp (Act.eval ⟨t, D⟩) o).runT P (re u w₁.tape w₁.drawn) #[] = (.ok x u', (execOp (Act.eval ⟨t, D⟩) o).events P (re u w₁.tape w₁.drawn) #[]) := by rw [Sem.runT_eq, hr]
  obtain ⟨_, _, _, h4⟩ := ran (X := X) _ (hpl ⟨t, D⟩) _ w₁ #[] _ _ _ hS1 hrT
  obtain ⟨_, w', e1, e2, _, _, e5, e6⟩ := h4 (fun _ _ _ => rfl)
  rw [Sem.runT_eq, Prod.mk.injEq] at e1
  have hev : ∀ e ∈ listed P b.fn ⟨t, D⟩ o w₁, EvX X e := fun e he => by
    have := mem_seen he
    rw [show (execOp (Act.eval ⟨t, D⟩) o).events P w₁ #[] = _ from e1.2] at this
    exact (e6 e this).resolve_left (by simp)
  have hst : stepG P false (G (b.at ⟨t, D⟩ (.inRegion ops (i :: rest) :: k)) cs) w₁ = .go (G (b.at (Act.put ⟨t, D⟩ o.dst v) (.inRegion ops rest :: k)) cs) w' (listed P b.fn ⟨t, D⟩ o w₁) := by
    rcases hx with rfl | ⟨rfl, rfl⟩
    · exact stepG_value ho hw hb e1.1
    · exact stepG_none ho hw hb e1.1
  refine ⟨_, w', _, hst, ⟨e5, fun e he => evX_ev2 (hev e he)⟩, ?_⟩
  rw [still_deaf fun e he => evX_still (hev e he)]
  exact hk u' w' hR e2
end
end Go.Bp

/- The worker's literal: its drawn region. -/
namespace Go.Bp
open Go Go.Conc Go.Proofs Go.RowKit
open Go.ConcX (mk DC0)
open Go.ConcX.Gen

noncomputable def body29 : Code := Try.f29.body.getD .skip
noncomputable def r29_1 : Code := match body29 with | .seq _ c => c | _ => .skip
noncomputable def ops29 : Array Oper := match r29_1 with | .region _ ops _ => ops | _ => #[]

theorem Sim.unre {X : Nat → Prop} {u w : World} {T : Nat → Question → Nat} {d : Nat} (h : Sim X (re u T d) w) : Sim X u w := ⟨h.size, h.same, h.hid, h.os, h.output⟩

/-- What the bank's method does, in company, from the lone world u. -/
def DoOk (X : Nat → Prop) (u : World) (B : Nat) (op : Value) (R : Value → World → Prop) : Prop :=
  ∀ (Stop : Goroutine → World → Prop) (b₀ : Frame) (a₀ : Act) (ops₀ : Array Oper) (i₀ : Nat) (rest₀ : List Nat) (k₀ : List Item) (cs : List Frame) (w : World), Sim X u w →
    (∀ v u' w', R v u' → Sim X u' w' → Wd Try.prog X Stop 0 (G (b₀.at (a₀.put ((ops₀[i₀]?).bind (·.dst)) v) (.inRegion ops₀ rest₀ :: k₀)) cs) w') →
    Wd Try.prog X Stop 0 (G ((base 31).at ⟨#[.pointer (some ⟨B, 0, none⟩), op, undef, undef, undef, undef, undef, undef, undef, undef, undef, undef, undef, undef, undef, undef, undef], []⟩ [.code body31]) (b₀.at a₀ (.inRegion ops₀ (i₀ :: rest₀) :: k₀) :: cs)) w

structure Vars (Cv Av Sv Ov B C n c k : Nat) (o1 o2 o3 : Int) (u : World) : Prop where
  codes : u.cell? ⟨Cv, 0, none⟩ = some (.slice (some ⟨C, 0, none⟩) n c)
  at_ : u.cell? ⟨Av, 0, none⟩ = some (.int .i64 k)
  sh : u.cell? ⟨Sv, 0, none⟩ = some (.pointer (some ⟨B, 0, none⟩))
  op1 : u.cell? ⟨Ov, 0, none⟩ = some (.int .i64 o1)
  op2 : u.cell? ⟨Ov, 1, none⟩ = some (.int .i64 o2)
  op3 : u.cell? ⟨Ov, 2, none⟩ = some (.int .i64 o3)

example : r29_1 = .region 1 ops29 true := by kernel_rfl
example : ops29.size = 7 := by kernel_rfl
example : lesser ops29 = true := by kernel_rfl

open Go.Proofs.Ytfckhpkebdpkbaa in
theorem plain_op {o : Oper} (h : okB plainF plainU o = true) : PlainOp Try.prog plainF o := by
  have := plain_code (c := .region 0 #[o] false) (by simp [okCB, h])
  exact this o (by simp)

section
variable {X : Nat → Prop} {Stop : Goroutine → World → Prop} {b : Frame} {k : List Item} {cs : List Frame} {D : List Deferred}

/-- Where the region stands. -/
structure R29 (Wg Cv Av Sv Ov B C n c k : Nat) (o1 o2 o3 : Int) (X : Nat → Prop) (u0 : World) (R : Value → World → Prop) (l : Array Bool) (t : Array Value) (w : World) (v5 v6 v7 v8 v9 v10 : Value) (u : World) : Prop where
  tm : t = #[.pointer (some ⟨Wg, 0, none⟩), .pointer (some ⟨Sv, 0, none⟩), .pointer (some ⟨Ov, 0, none⟩), .pointer (some ⟨Cv, 0, none⟩), .pointer (some ⟨Av, 0, none⟩), v5, v6, v7, v8, v9, v10]
  sim : Sim X u w
  vars : Vars Cv Av Sv Ov B C n c k o1 o2 o3 u
  s0 : seen l 0 → v5 = .slice (some ⟨C, 0, none⟩) n c
  s1 : seen l 1 → v6 = .int .i64 k
  s2 : seen l 2 → v7 = .pointer (some ⟨B, 0, none⟩)
  s3 : seen l 3 → v8 = .agg #[.int .i64 o1, .int .i64 o2, .int .i64 o3]
  s5 : seen l 5 → v10 = .pointer (some ⟨C, k, none⟩)
  ph : (¬ seen l 4 ∧ ¬ seen l 6 ∧ u = u0) ∨ (seen l 4 ∧ ¬ seen l 6 ∧ R v9 u) ∨ (seen l 4 ∧ seen l 6 ∧ ∃ u1, R v9 u1 ∧ u = u1.setCell ⟨C, k, none⟩ v9)

theorem r29 : ∃ o0 o1 o2 o3 o4 o5 o6, ops29 = #[o0, o1, o2, o3, o4, o5, o6] := ⟨_, _, _, _, _, _, _, rfl⟩
end
end Go.Bp

/- The worker's literal: its drawn region, walked. -/
namespace Go.Bp
open Go Go.Conc Go.Proofs Go.RowKit
open Go.ConcX (mk DC0)
open Go.ConcX.Gen

section
variable {X : Nat → Prop} {Stop : Goroutine → World → Prop} {b : Frame} {kk : List Item} {cs : List Frame} {D : List Deferred}
variable {Wg Cv Av Sv Ov B C n c k : Nat} {o1 o2 o3 : Int} {u0 : World} {R : Value → World → Prop}

theorem nm31 : (Try.f31.name == "runtime.NumGoroutine") = false := by kernel_rfl

set_option maxHeartbeats 4000000 in
set_option maxRecDepth 100000 in
theorem lit_wd (hm : Try.prog.follows .mixedOrders = true) (hb : b.kind ≠ .early) {w : World} (hS : Sim X u0 w) (hV : Vars Cv Av Sv Ov B C n c k o1 o2 o3 u0) (hkn : k < n)
    (hdo : DoOk X u0 B (.agg #[.int .i64 o1, .int .i64 o2, .int .i64 o3]) R)
    (hR : ∀ v u, R v u → Vars Cv Av Sv Ov B C n c k o1 o2 o3 u ∧ Vars Cv Av Sv Ov B C n c k o1 o2 o3 (u.setCell ⟨C, k, none⟩ v) ∧ (∃ x, v = .int .i64 x) ∧ (∃ y, u.cell? ⟨C, k, none⟩ = some y) ∧ u.frozen? ⟨C, k, none⟩ = false)
    (hend : ∀ t v u1 w', R v u1 → Sim X (u1.setCell ⟨C, k, none⟩ v) w' → Wd Try.prog X Stop 0 (G (b.at ⟨t, D⟩ kk) cs) w') :
    Wd Try.prog X Stop 0 (G (b.at ⟨#[.pointer (some ⟨Wg, 0, none⟩), .pointer (some ⟨Sv, 0, none⟩), .pointer (some ⟨Ov, 0, none⟩), .pointer (some ⟨Cv, 0, none⟩), .pointer (some ⟨Av, 0, none⟩), undef, undef, undef, undef, undef, undef], D⟩ (.code r29_1 :: kk)) cs) w := by
  have er : r29_1 = .region 1 #[_, _, _, _, _, _, _] true := rfl
  rw [er]
  refine Wd.drawn hm (fun l t w => ∃ v5 v6 v7 v8 v9 v10 u, R29 Wg Cv Av Sv Ov B C n c k o1 o2 o3 X u0 R l t w v5 v6 v7 v8 v9 v10 u) ?_ ?_ ?_ (by kernel_rfl) ?_
  · rintro l t w w₁ ⟨v5, v6, v7, v8, v9, v10, u, h⟩ hr
    exact ⟨v5, v6, v7, v8, v9, v10, u, h.tm, h.sim.rely hr, h.vars, h.s0, h.s1, h.s2, h.s3, h.s5, h.ph⟩
  · intro w₁ h₁
    have h2 := hS.rely h₁
    have sn : ∀ j, ¬ seen (Array.replicate 7 false) j := fun j => seen_none _ j
    exact ⟨_, _, _, _, _, _, u0, rfl, ⟨h2.size, h2.same, h2.hid, h2.os, h2.output⟩, hV, fun h => absurd h (sn _), fun h => absurd h (sn _), fun h => absurd h (sn _), fun h => absurd h (sn _), fun h => absurd h (sn _), .inl ⟨sn _, sn _, rfl⟩⟩
  · rintro l t w i ⟨v5, v6, v7, v8, v9, v10, u, h⟩ hi rest hk
    have hlt : i < 7 := ready_lt hi
    have hns : ¬ seen l i := not_seen (mem_ready.1 hi).1
    have hme := seen_self (mem_ready.1 hi).1
    obtain ⟨rfl, hF, hv, s0, s1, s2, s3, s5, ph⟩ := h
    have hc1 := hv.codes
    have hc2 := hv.at_
    have hc3 := hv.sh
    have hc4 := hv.op1
    have hc5 := hv.op2
    have hc6 := hv.op3
    have phk : i ≠ 4 → i ≠ 6 → ∀ v9', v9' = v9 → ((¬ seen (l.setIfInBounds i true) 4 ∧ ¬ seen (l.setIfInBounds i true) 6 ∧ u = u0) ∨ (seen (l.setIfInBounds i true) 4 ∧ ¬ seen (l.setIfInBounds i true) 6 ∧ R v9' u) ∨ (seen (l.setIfInBounds i true) 4 ∧ seen (l.setIfInBounds i true) 6 ∧ ∃ u1, R v9' u1 ∧ u = u1.setCell ⟨C, k, none⟩ v9')) := by
      rintro h4 h6 _ rfl
      have n4 : seen (l.setIfInBounds i true) 4 ↔ seen l 4 := ⟨fun h => (seen_set h).resolve_left (fun e => h4 e.symm), seen_more⟩
      have n6 : seen (l.setIfInBounds i true) 6 ↔ seen l 6 := ⟨fun h => (seen_set h).resolve_left (fun e => h6 e.symm), seen_more⟩
      rw [n4, n6]; exact ph
    have keep : ∀ j, i ≠ j → seen (l.setIfInBounds i true) j → seen l j := fun j hj h => (seen_set h).resolve_left (fun e => hj e.symm)
    rcases (by omega : i = 0 ∨ i = 1 ∨ i = 2 ∨ i = 3 ∨ i = 4 ∨ i = 5 ∨ i = 6) with rfl | rfl | rfl | rfl | rfl | rfl | rfl
    · -- the codes
      refine Wd.op (F := Go.Proofs.Ytfckhpkebdpkbaa.plainF) (u := u) (R := fun u' => ∃ T d, u' = re u T d) (x := .value (.slice (some ⟨C, 0, none⟩) n c)) rfl rfl hb (plain_op (by kernel_rfl)) (.inl rfl) (fun T d => ⟨re u T d, ?_, T, d, rfl⟩) hF ?_
      · have : (re u T d).cell? ⟨Cv, 0, none⟩ = some (.slice (some ⟨C, 0, none⟩) n c) := hc1
        go_simp
      · rintro _ w' ⟨T, d, rfl⟩ hF'
        exact hk _ w' ⟨_, v6, v7, v8, v9, v10, u, rfl, hF'.unre, hv, fun _ => rfl, fun h => s1 (keep 1 (by decide) h), fun h => s2 (keep 2 (by decide) h), fun h => s3 (keep 3 (by decide) h), fun h => s5 (keep 5 (by decide) h), phk (by decide) (by decide) _ rfl⟩
    · -- at
      refine Wd.op (F := Go.Proofs.Ytfckhpkebdpkbaa.plainF) (u := u) (R := fun u' => ∃ T d, u' = re u T d) (x := .value (.int .i64 k)) rfl rfl hb (plain_op (by kernel_rfl)) (.inl rfl) (fun T d => ⟨re u T d, ?_, T, d, rfl⟩) hF ?_
      · have := show (re u T d).cell? ⟨Av, 0, none⟩ = some (.int .i64 k) from hc2
        go_simp
      · rintro _ w' ⟨T, d, rfl⟩ hF'
        exact hk _ w' ⟨v5, _, v7, v8, v9, v10, u, rfl, hF'.unre, hv, fun h => s0 (keep 0 (by decide) h), fun _ => rfl, fun h => s2 (keep 2 (by decide) h), fun h => s3 (keep 3 (by decide) h), fun h => s5 (keep 5 (by decide) h), phk (by decide) (by decide) _ rfl⟩
    · -- the bank
      refine Wd.op (F := Go.Proofs.Ytfckhpkebdpkbaa.plainF) (u := u) (R := fun u' => ∃ T d, u' = re u T d) (x := .value (.pointer (some ⟨B, 0, none⟩))) rfl rfl hb (plain_op (by kernel_rfl)) (.inl rfl) (fun T d => ⟨re u T d, ?_, T, d, rfl⟩) hF ?_
      · have := show (re u T d).cell? ⟨Sv, 0, none⟩ = some (.pointer (some ⟨B, 0, none⟩)) from hc3
        go_simp
      · rintro _ w' ⟨T, d, rfl⟩ hF'
        exact hk _ w' ⟨v5, v6, _, v8, v9, v10, u, rfl, hF'.unre, hv, fun h => s0 (keep 0 (by decide) h), fun h => s1 (keep 1 (by decide) h), fun _ => rfl, fun h => s3 (keep 3 (by decide) h), fun h => s5 (keep 5 (by decide) h), phk (by decide) (by decide) _ rfl⟩
    · -- the operation
      refine Wd.op (F := Go.Proofs.Ytfckhpkebdpkbaa.plainF) (u := u) (R := fun u' => ∃ T d, u' = re u T d) (x := .value (.agg #[.int .i64 o1, .int .i64 o2, .int .i64 o3])) rfl rfl hb (plain_op (by kernel_rfl)) (.inl rfl) (fun T d => ⟨re u T d, ?_, T, d, rfl⟩) hF ?_
      · have q0 := show (re u T d).cell? ⟨Ov, 0, none⟩ = some (.int .i64 o1) from hc4
        have q1 := show (re u T d).cell? ⟨Ov, 1, none⟩ = some (.int .i64 o2) from hc5
        have q2 := show (re u T d).cell? ⟨Ov, 2, none⟩ = some (.int .i64 o3) from hc6
        go_simp
      · rintro _ w' ⟨T, d, rfl⟩ hF'
        exact hk _ w' ⟨v5, v6, v7, _, v9, v10, u, rfl, hF'.unre, hv, fun h => s0 (keep 0 (by decide) h), fun h => s1 (keep 1 (by decide) h), fun h => s2 (keep 2 (by decide) h), fun _ => rfl, fun h => s5 (keep 5 (by decide) h), phk (by decide) (by decide) _ rfl⟩
    · -- the call
      have e2 := s2 (ready_seen hi (by kernel_rfl))
      have e3 := s3 (ready_seen hi (by kernel_rfl))
      subst e2 e3
      have h6 : ¬ seen l 6 := fun h => by
        rcases ph with ⟨_, z, _⟩ | ⟨z, _, _⟩ | ⟨z, _, _⟩
        · exact z h
        · exact hns z
        · exact hns z
      have hu : u = u0 := by
        rcases ph with ⟨_, _, z⟩ | ⟨z, _, _⟩ | ⟨z, _, _⟩
        · exact z
        · exact absurd z hns
        · exact absurd z hns
      subst hu
      refine Wd.fin (n := 20) ?_
      u_call Try.func31 nm31 Try.f31 sim_rely hF
      refine Goes.stop (fun w₁ h₁ => ?_)
      refine hdo Stop _ _ _ _ _ _ _ w₁ (hF.rely h₁) ?_
      intro v u' w' hr hF'
      refine hk _ w' ⟨v5, v6, _, _, v, v10, u', rfl, hF', (hR v u' hr).1, fun h => s0 (keep 0 (by decide) h), fun h => s1 (keep 1 (by decide) h), fun h => s2 (keep 2 (by decide) h), fun h => s3 (keep 3 (by decide) h), fun h => s5 (keep 5 (by decide) h), .inr (.inl ⟨hme, fun h => h6 (keep 6 (by decide) h), hr⟩)⟩
    · -- the element's place
      have e0 := s0 (ready_seen hi (by kernel_rfl))
      have e1 := s1 (ready_seen hi (by kernel_rfl))
      subst e0 e1
      refine Wd.op (F := Go.Proofs.Ytfckhpkebdpkbaa.plainF) (u := u) (R := fun u' => ∃ T d, u' = re u T d) (x := .value (.pointer (some ⟨C, k, none⟩))) rfl rfl hb (plain_op (by kernel_rfl)) (.inl rfl) (fun T d => ⟨re u T d, ?_, T, d, rfl⟩) hF ?_
      · have hlt' : (k : Int) < (n : Int) := by omega
        have h0' : (0 : Int) ≤ (k : Int) := by omega
        go_simp
      · rintro _ w' ⟨T, d, rfl⟩ hF'
        exact hk _ w' ⟨_, _, v7, v8, v9, _, u, rfl, hF'.unre, hv, fun _ => rfl, fun _ => rfl, fun h => s2 (keep 2 (by decide) h), fun h => s3 (keep 3 (by decide) h), fun _ => rfl, phk (by decide) (by decide) _ rfl⟩
    · -- the store
      have e5 := s5 (ready_seen hi (by kernel_rfl))
      have h4 : seen l 4 := ready_seen hi (by kernel_rfl)
      subst e5
      obtain ⟨hr⟩ : Nonempty (R v9 u) := by
        rcases ph with ⟨z, _, _⟩ | ⟨_, _, z⟩ | ⟨_, z, _⟩
        · exact absurd h4 z
        · exact ⟨z⟩
        · exact absurd z hns
      obtain ⟨r1, r2, ⟨x, rfl⟩, ⟨y, r4⟩, r5⟩ := hR _ _ hr
      refine Wd.op (F := Go.Proofs.Ytfckhpkebdpkbaa.plainF) (u := u) (v := undef) (R := fun u' => ∃ T d, u' = re (u.setCell ⟨C, k, none⟩ (.int .i64 x)) T d) (x := .skip) rfl rfl hb (plain_op (by kernel_rfl)) (.inr ⟨rfl, rfl⟩) (fun T d => ⟨re (u.setCell ⟨C, k, none⟩ (.int .i64 x)) T d, ?_, T, d, rfl⟩) hF ?_
      · have q1 := show (re u T d).cell? ⟨C, k, none⟩ = some y from r4
        have q2 := show (re u T d).frozen? ⟨C, k, none⟩ = false from r5
        go_simp
        rfl
      · rintro _ w' ⟨T, d, rfl⟩ hF'
        exact hk _ w' ⟨v5, v6, v7, v8, _, _, _, rfl, hF'.unre, r2, fun h => s0 (keep 0 (by decide) h), fun h => s1 (keep 1 (by decide) h), fun h => s2 (keep 2 (by decide) h), fun h => s3 (keep 3 (by decide) h), fun _ => rfl, .inr (.inr ⟨seen_more h4, hme, u, hr, rfl⟩)⟩
  · rintro l t w ⟨v5, v6, v7, v8, v9, v10, u, h⟩ hall
    rcases h.ph with ⟨z, _, _⟩ | ⟨_, z, _⟩ | ⟨_, _, u1, z1, z2⟩
    · exact absurd (hall 4 (by decide)) z
    · exact absurd (hall 6 (by decide)) z
    · exact hend t v9 u1 w z1 (z2 ▸ h.sim)
end
end Go.Bp

/- The worker, from its birth to the call of Done. -/
namespace Go.Bp
open Go Go.Conc Go.Proofs Go.RowKit Go.Conc.Lib
open Go.ConcX (WgAt KK mk DC0 Payload Shy Full RCa DCs AtR0 KCa)
open Go.ConcX.Gen

instance payload : Payload := ⟨3⟩

noncomputable def bot29 : Frame := { (default : Frame) with fn := Try.prog.funcs.size, defers := [], mode := .panicking [goexitEntry] }
def call29 (Wg Sv Ov Cv Av : Nat) : Deferred := { target := .fn (.func 29) #[.pointer (some ⟨Wg, 0, none⟩), .pointer (some ⟨Sv, 0, none⟩), .pointer (some ⟨Ov, 0, none⟩), .pointer (some ⟨Cv, 0, none⟩), .pointer (some ⟨Av, 0, none⟩)], args := #[] }

theorem quits29 (T : Array Value) : QuitsD Try.prog 2 0 (G { (baseD 29).at ⟨T, []⟩ [] with mode := .returning } [bot29]) := by
  refine QuitsD.ctl (g' := G bot29 []) rfl (fun w => ?_) ?_
  · simp [G, stepG, unwind, doReturn, results, Frame.at, baseD, bot29, Try.func29, Try.f29, Go.seen, GStep.after, goexitEntry]
  refine QuitsD.ctl (g' := { G bot29 [] with status := .finished }) rfl (fun w => ?_) ⟨rfl, rfl⟩
  simp [G, stepG, unwind, bot29, goexitEntry, Frame.catches]
  rfl

theorem born29 (Wg Sv Ov Cv Av : Nat) (main : Bool) (w : World) : stepG Try.prog main (born Try.prog (call29 Wg Sv Ov Cv Av)) w =
    .go (G ((baseD 29).at ⟨#[.pointer (some ⟨Wg, 0, none⟩), .pointer (some ⟨Sv, 0, none⟩), .pointer (some ⟨Ov, 0, none⟩), .pointer (some ⟨Cv, 0, none⟩), .pointer (some ⟨Av, 0, none⟩), undef, undef, undef, undef, undef, undef], []⟩ [.code body29]) [bot29]) w #[] := by
  simp [born, call29, stepG, unwind, callDeferred, invoke, callFunc, Try.func29, Try.f29, Go.seen, GStep.after, G, Frame.enter, Frame.at, baseD, bot29, body29]

section
variable {X : Nat → Prop} {Wg Cv Av Sv Ov B C n c k Low : Nat} {o1 o2 o3 : Int} {u0 : World} {R : Value → World → Prop} {Mine : Loc → Prop}

set_option maxHeartbeats 4000000 in
set_option maxRecDepth 100000 in
theorem worker_wd [Shy Wg Av] (hm : Try.prog.follows .mixedOrders = true) {w : World} (hS : Sim X u0 w) (hV : Vars Cv Av Sv Ov B C n c k o1 o2 o3 u0) (hkn : k < n)
    (hdo : DoOk X u0 B (.agg #[.int .i64 o1, .int .i64 o2, .int .i64 o3]) R)
    (hR : ∀ v u, R v u → Vars Cv Av Sv Ov B C n c k o1 o2 o3 u ∧ Vars Cv Av Sv Ov B C n c k o1 o2 o3 (u.setCell ⟨C, k, none⟩ v) ∧ (∃ x, v = .int .i64 x) ∧ (∃ y, u.cell? ⟨C, k, none⟩ = some y) ∧ u.frozen? ⟨C, k, none⟩ = false)
    (hX : ¬ X Av) (hWL : Wg < Low) (hAL : Av < Low) (hAW : Av ≠ Wg)
    (hfull : ∀ v u, R v u → (u.setCell ⟨C, k, none⟩ v).heap[Av]? = some (.cells #[.int .i64 k] 3)) :
    Wd Try.prog X (StopW Try.prog 69 Wg Av Low [.int .i64 k] Mine (fun w => ∃ v u1, R v u1 ∧ Sim X (u1.setCell ⟨C, k, none⟩ v) w)) 0 (born Try.prog (call29 Wg Sv Ov Cv Av)) w := by
  refine .next rfl fun w₁ h₁ => ⟨_, w₁, _, born29 _ _ _ _ _ _ _, ⟨fun _ _ => rfl, by simp⟩, ?_⟩
  replace hS := hS.rely h₁
  clear h₁
  have e29 : body29 = .seq (.region 0 #[_] false) r29_1 := rfl
  rw [e29]
  refine Wd.fin (n := 20) ?_
  u_c stepG_seq sim_rely hS
  u_reg sim_rely hS
  u_defer sim_rely hS
  u_c stepG_region_end sim_rely hS
  refine Goes.stop (fun w₁ h₁ => ?_)
  refine lit_wd hm (baseD_kind _) (hS.rely h₁) hV hkn hdo hR ?_
  clear hS h₁
  intro t v u1 w' hr hS
  refine Wd.fin (n := 20) ?_
  u_c stepG_end sim_rely hS
  refine Goes.stop (fun w₂ h₂ => .stop fun w₃ h₃ => ?_)
  have hS3 := (hS.rely h₂).rely h₃
  have hfl : Full Av [.int .i64 k] w₃ := fun _ => (hS3.same Av hX).trans (hfull v u1 hr)
  refine ⟨⟨v, u1, hr, hS3⟩, hfl, fun hk => ⟨24, ?_⟩⟩
  have hF := And.intro hk hfl
  clear hk hfl hS3 h₂ h₃ hS
  u_in (ka_rely (L := wgLink) hAL hAW) hF
  rw [stepG_unwind_enter rfl wgLib.f_done (nm_done wgLink) rfl]
  simp only [goes_go]
  refine ⟨by u_nil, ?_⟩
  walk_nrmf doneFn
  have hA := @doneD _ wgLink Try.prog wgLib Mine Wg Av Low _ [.int .i64 k] hWL hAL hAW
  simp only [body_done, doneFn, Option.getD_some] at hA
  exact hA rfl (quits29 _) _ hF
end
end Go.Bp

/- One round of BandPlay's loop: Add, go, Wait. -/
namespace Go.Bp
open Go Go.Conc Go.Proofs Go.RowKit Go.Conc.Lib
open Go.ConcX (WgAt KK stA smA mk DC0 Payload Shy Full RCa DCs AtR0 KCa)
open Go.ConcX.Gen

noncomputable def body9 : Code := Try.f9.body.getD .skip
noncomputable def loop9 : Code := match body9 with | .seq _ (.seq _ (.seq _ (.seq _ (.seq (.seq _ (.block _ (.loop c))) _)))) => c | _ => .skip
noncomputable def go9 : Code := match loop9 with | .seq _ (.seq _ (.seq (.block _ (.seq _ (.seq _ c))) _)) => c | _ => .skip

def FSt (X : Nat → Prop) (u : World) (Wg : Nat) (st : Int) (w : World) : Prop := Sim X u w ∧ WgAt 69 Wg w st 0
theorem fs_rely {X : Nat → Prop} {u : World} {Wg : Nat} {st : Int} {w w₁ : World} (h : FSt X u Wg st w) (r : AtRel w w₁) : FSt X u Wg st w₁ := by
  obtain ⟨d, rfl⟩ := r
  exact ⟨h.1.rely (rx_at (RX.refl X w) d), h.2⟩

section
variable {X : Nat → Prop} {b : Frame} {k : List Item} {cs : List Frame} {D : List Deferred} {Wg Cv Av Sv Ov : Nat} {u : World} {v0 v1 v2 v3 v4 v5 v11 v12 v13 v14 v15 v16 v17 v18 v19 v20 v21 v22 v23 v24 v25 v26 v27 v28 v29 v30 v31 v32 v33 v34 v35 v36 v37 v38 v39 v40 v41 v42 : Value}

theorem nmAdd : ((addFn wgLink).name == "runtime.NumGoroutine") = false := by kernel_rfl
theorem nmWait : ((waitFn wgLink).name == "runtime.NumGoroutine") = false := by kernel_rfl

set_option maxRecDepth 100000 in
theorem args_wait : (#[.pointer (some ⟨Wg, 0, none⟩), undef, undef, undef, undef, undef, undef, undef, undef, undef, undef, undef, undef, undef, undef, undef, undef, undef, undef, undef, undef, undef, undef, undef, undef, undef, undef, undef, undef, undef, undef, undef, undef, undef, undef, undef, undef, undef, undef, undef, undef, undef, undef, undef, undef, undef, undef, undef, undef, undef, undef, undef, undef, undef, undef, undef, undef, undef, undef, undef, undef, undef, undef, undef, undef, undef, undef, undef, undef, undef, undef, undef, undef, undef, undef, undef, undef, undef, undef, undef, undef, undef, undef, undef] : Array Value) = #[.pointer (some ⟨Wg, 0, none⟩)] ++ Array.replicate 83 undef := by kernel_rfl

/-- A walk that turns nothing, goroutine 0 beside leavers. -/
theorem quiet_to {P : Program} {n : Nat} {Stop : Goroutine → World → Prop} {g : Goroutine} {w : World} (h : Goes P true AtRel DC0 Stop n g w) :
    To P (Fr P (Ps X 0) g w) (fun m t => ∃ g' w', Fr P (Ps X 0) g' w' m t ∧ Stop g' w') :=
  (goes_to (Ps.muted 0) (fun w d => ⟨d, rfl⟩) (fun w w' es t fn pos hd ht => by obtain ⟨rfl, rfl⟩ := hd; rw [ofE_nil]; exact ht) n g w h).mono fun m t ⟨g', w', h1, h2⟩ => ⟨g', w', h1, h2 w' ⟨w'.drawn, rfl⟩⟩

noncomputable def ops9 : Array Oper := match go9 with | .seq (.region _ o _) _ => o | _ => #[]
noncomputable def ops10 : Array Oper := match go9 with | .seq _ (.seq (.region _ o _) _) => o | _ => #[]
noncomputable def ops11 : Array Oper := match go9 with | .seq _ (.seq _ (.region _ o _)) => o | _ => #[]
theorem go9_eq : go9 = .seq (.region 9 ops9 false) (.seq (.region 10 ops10 false) (.region 11 ops11 false)) := by kernel_rfl

set_option maxRecDepth 100000 in
set_option maxHeartbeats 4000000 in
theorem round1 (hb : b.kind ≠ .early) {w : World} (hF : FSt X u Wg 0 w) :
    Goes Try.prog true AtRel DC0 (fun g w => FSt X u Wg 0 w ∧ g = G ((base 28).at ⟨#[.pointer (some ⟨Wg, 0, none⟩), .int .i64 1] ++ Array.replicate 115 undef, []⟩ [.code (body_add wgLink)]) (b.at ⟨#[v0, v1, v2, v3, v4, v5, .pointer (some ⟨Sv, 0, none⟩), .pointer (some ⟨Cv, 0, none⟩), .pointer (some ⟨Av, 0, none⟩), .pointer (some ⟨Ov, 0, none⟩), .pointer (some ⟨Wg, 0, none⟩), v11, v12, v13, v14, v15, v16, v17, v18, v19, v20, v21, v22, v23, v24, v25, v26, v27, v28, v29, v30, v31, v32, v33, v34, v35, v36, v37, v38, v39, v40, v41, v42], D⟩ (.inRegion ops9 [0] :: .code (.seq (.region 10 ops10 false) (.region 11 ops11 false)) :: k) :: cs)) 20
      (G (b.at ⟨#[v0, v1, v2, v3, v4, v5, .pointer (some ⟨Sv, 0, none⟩), .pointer (some ⟨Cv, 0, none⟩), .pointer (some ⟨Av, 0, none⟩), .pointer (some ⟨Ov, 0, none⟩), .pointer (some ⟨Wg, 0, none⟩), v11, v12, v13, v14, v15, v16, v17, v18, v19, v20, v21, v22, v23, v24, v25, v26, v27, v28, v29, v30, v31, v32, v33, v34, v35, v36, v37, v38, v39, v40, v41, v42], D⟩ (.code go9 :: k)) cs) w := by
  have e : ops9 = #[_] := rfl
  rw [go9_eq, e]
  u_c stepG_seq fs_rely hF
  u_reg fs_rely hF
  u_call wgLib.f_add nmAdd addFn fs_rely hF
  refine Goes.stop fun w₁ h₁ => ⟨fs_rely hF h₁, ?_⟩
  rw [args_add]
  rfl

set_option maxRecDepth 100000 in
set_option maxHeartbeats 4000000 in
theorem round2 (hb : b.kind ≠ .early) {w : World} (hF : FSt X u Wg KK w) :
    Goes Try.prog true AtRel DC0 (fun g w => FSt X u Wg KK w ∧ g = G (b.at ⟨#[v0, v1, v2, v3, v4, v5, .pointer (some ⟨Sv, 0, none⟩), .pointer (some ⟨Cv, 0, none⟩), .pointer (some ⟨Av, 0, none⟩), .pointer (some ⟨Ov, 0, none⟩), .pointer (some ⟨Wg, 0, none⟩), v11, v12, v13, v14, v15, v16, v17, v18, v19, v20, v21, v22, v23, v24, v25, v26, v27, v28, v29, v30, v31, v32, v33, .tuple #[], .func (.func 29) #[] #[.pointer (some ⟨Wg, 0, none⟩), .pointer (some ⟨Sv, 0, none⟩), .pointer (some ⟨Ov, 0, none⟩), .pointer (some ⟨Cv, 0, none⟩), .pointer (some ⟨Av, 0, none⟩)], v36, v37, v38, v39, v40, v41, v42], D⟩ (.inRegion ops10 [1] :: .code (.region 11 ops11 false) :: k)) cs) 20
        (G (b.at (Act.put ⟨#[v0, v1, v2, v3, v4, v5, .pointer (some ⟨Sv, 0, none⟩), .pointer (some ⟨Cv, 0, none⟩), .pointer (some ⟨Av, 0, none⟩), .pointer (some ⟨Ov, 0, none⟩), .pointer (some ⟨Wg, 0, none⟩), v11, v12, v13, v14, v15, v16, v17, v18, v19, v20, v21, v22, v23, v24, v25, v26, v27, v28, v29, v30, v31, v32, v33, v34, v35, v36, v37, v38, v39, v40, v41, v42], D⟩ ((ops9[0]?).bind (·.dst)) (.tuple #[])) (.inRegion ops9 [] :: .code (.seq (.region 10 ops10 false) (.region 11 ops11 false)) :: k)) cs) w := by
  have e : ops9 = #[_] := rfl
  have e2 : ops10 = #[_, _] := rfl
  rw [e, e2]
  walk_nrm
  u_c stepG_region_end fs_rely hF
  u_c stepG_seq fs_rely hF
  u_reg fs_rely hF
  u_op fs_rely hF
  exact Goes.stop fun w₁ h₁ => ⟨fs_rely hF h₁, rfl⟩

theorem spawn9 (hb : b.kind ≠ .early) (w : World) : stepG Try.prog true (G (b.at ⟨#[v0, v1, v2, v3, v4, v5, .pointer (some ⟨Sv, 0, none⟩), .pointer (some ⟨Cv, 0, none⟩), .pointer (some ⟨Av, 0, none⟩), .pointer (some ⟨Ov, 0, none⟩), .pointer (some ⟨Wg, 0, none⟩), v11, v12, v13, v14, v15, v16, v17, v18, v19, v20, v21, v22, v23, v24, v25, v26, v27, v28, v29, v30, v31, v32, v33, .tuple #[], .func (.func 29) #[] #[.pointer (some ⟨Wg, 0, none⟩), .pointer (some ⟨Sv, 0, none⟩), .pointer (some ⟨Ov, 0, none⟩), .pointer (some ⟨Cv, 0, none⟩), .pointer (some ⟨Av, 0, none⟩)], v36, v37, v38, v39, v40, v41, v42], D⟩ (.inRegion ops10 [1] :: .code (.region 11 ops11 false) :: k)) cs) w =
    .spawn (G (b.at ⟨#[v0, v1, v2, v3, v4, v5, .pointer (some ⟨Sv, 0, none⟩), .pointer (some ⟨Cv, 0, none⟩), .pointer (some ⟨Av, 0, none⟩), .pointer (some ⟨Ov, 0, none⟩), .pointer (some ⟨Wg, 0, none⟩), v11, v12, v13, v14, v15, v16, v17, v18, v19, v20, v21, v22, v23, v24, v25, v26, v27, v28, v29, v30, v31, v32, v33, .tuple #[], .func (.func 29) #[] #[.pointer (some ⟨Wg, 0, none⟩), .pointer (some ⟨Sv, 0, none⟩), .pointer (some ⟨Ov, 0, none⟩), .pointer (some ⟨Cv, 0, none⟩), .pointer (some ⟨Av, 0, none⟩)], v36, v37, v38, v39, v40, v41, v42], D⟩ (.inRegion ops10 [] :: .code (.region 11 ops11 false) :: k)) cs) (born Try.prog (call29 Wg Sv Ov Cv Av)) w #[] := by
  have e2 : ops10 = #[_, _] := rfl
  rw [e2]
  rw [stepG_spawn (d := call29 Wg Sv Ov Cv Av) (w' := w) rfl rfl hb ?_ rfl]
  · simp [listed, execOp, resolve, Deferred.ofValue, Act.eval, call29]
    first | rfl | exact ⟨rfl, Go.Conc.seen_none _ _⟩
  · simp [execOp, resolve, Deferred.ofValue, Act.eval, call29]

set_option maxRecDepth 100000 in
set_option maxHeartbeats 4000000 in
theorem round3 (hb : b.kind ≠ .early) {J : World → Prop} {w : World} (hF : KwA 69 Wg J w) :
    Goes Try.prog true (RA 69 Wg J) DC0 (AtKd Try.prog 69 Wg J (AnchB wgLink Wg J (b.at ⟨#[v0, v1, v2, v3, v4, v5, .pointer (some ⟨Sv, 0, none⟩), .pointer (some ⟨Cv, 0, none⟩), .pointer (some ⟨Av, 0, none⟩), .pointer (some ⟨Ov, 0, none⟩), .pointer (some ⟨Wg, 0, none⟩), v11, v12, v13, v14, v15, v16, v17, v18, v19, v20, v21, v22, v23, v24, v25, v26, v27, v28, v29, v30, v31, v32, v33, .tuple #[], .func (.func 29) #[] #[.pointer (some ⟨Wg, 0, none⟩), .pointer (some ⟨Sv, 0, none⟩), .pointer (some ⟨Ov, 0, none⟩), .pointer (some ⟨Cv, 0, none⟩), .pointer (some ⟨Av, 0, none⟩)], v36, v37, v38, v39, v40, v41, v42], D⟩ (.inRegion ops11 [0] :: k)) cs)) 6
      (G (b.at ⟨#[v0, v1, v2, v3, v4, v5, .pointer (some ⟨Sv, 0, none⟩), .pointer (some ⟨Cv, 0, none⟩), .pointer (some ⟨Av, 0, none⟩), .pointer (some ⟨Ov, 0, none⟩), .pointer (some ⟨Wg, 0, none⟩), v11, v12, v13, v14, v15, v16, v17, v18, v19, v20, v21, v22, v23, v24, v25, v26, v27, v28, v29, v30, v31, v32, v33, .tuple #[], .func (.func 29) #[] #[.pointer (some ⟨Wg, 0, none⟩), .pointer (some ⟨Sv, 0, none⟩), .pointer (some ⟨Ov, 0, none⟩), .pointer (some ⟨Cv, 0, none⟩), .pointer (some ⟨Av, 0, none⟩)], v36, v37, v38, v39, v40, v41, v42], D⟩ (.inRegion ops10 [] :: .code (.region 11 ops11 false) :: k)) cs) w := by
  have e : ops11 = #[_] := rfl
  rw [e]
  u_c stepG_region_end ra_rely hF
  u_reg ra_rely hF
  u_call wgLib.f_wait nmWait waitFn ra_rely hF
  have hA := fun w h => waitIn (L := wgLink) (Wg := Wg) (J := J) (b₀ := b) (a₀ := ⟨#[v0, v1, v2, v3, v4, v5, .pointer (some ⟨Sv, 0, none⟩), .pointer (some ⟨Cv, 0, none⟩), .pointer (some ⟨Av, 0, none⟩), .pointer (some ⟨Ov, 0, none⟩), .pointer (some ⟨Wg, 0, none⟩), v11, v12, v13, v14, v15, v16, v17, v18, v19, v20, v21, v22, v23, v24, v25, v26, v27, v28, v29, v30, v31, v32, v33, .tuple #[], .func (.func 29) #[] #[.pointer (some ⟨Wg, 0, none⟩), .pointer (some ⟨Sv, 0, none⟩), .pointer (some ⟨Ov, 0, none⟩), .pointer (some ⟨Cv, 0, none⟩), .pointer (some ⟨Av, 0, none⟩)], v36, v37, v38, v39, v40, v41, v42], D⟩) (ops₀ := ops11) (i₀ := 0) (rest₀ := []) (k₀ := k) (cs := cs) wgLib w h
  rw [e] at hA
  rw [← args_wait] at hA
  exact hA _ hF
end
end Go.Bp

/- One round of BandPlay's loop: Add, go, Wait, whatever the worker's turn among the steps. -/
namespace Go.Bp
open Go Go.Conc Go.Proofs Go.RowKit Go.Conc.Lib
open Go.ConcX (WgAt KK stA smA mk DC0 Payload Shy Full RCa DCs AtR0 KCa)
open Go.ConcX.Gen

section
variable {X : Nat → Prop} {b : Frame} {k : List Item} {cs : List Frame} {D : List Deferred} {Wg Cv Av Sv Ov B C n c i : Nat} {o1 o2 o3 : Int} {u : World} {R : Value → World → Prop} {v0 v1 v2 v3 v4 v5 v11 v12 v13 v14 v15 v16 v17 v18 v19 v20 v21 v22 v23 v24 v25 v26 v27 v28 v29 v30 v31 v32 v33 v34 v35 v36 v37 v38 v39 v40 v41 v42 : Value}

theorem Sim.setHid {u w : World} (h : Sim X u w) {a : Addr} (ha : X a.block) (v : Value) : Sim X u (w.setCell a v) := h.rely (rx_set (RX.refl X w) ha a rfl v)

def JR (X : Nat → Prop) (R : Value → World → Prop) (C i : Nat) (w : World) : Prop := ∃ v u1, R v u1 ∧ Sim X (u1.setCell ⟨C, i, none⟩ v) w

set_option maxHeartbeats 1000000 in
theorem round_to (hm : Try.prog.follows .mixedOrders = true) (hb : b.kind ≠ .early) (hX : X Wg) (hXA : ¬ X Av) (hV : Vars Cv Av Sv Ov B C n c i o1 o2 o3 u) (hin : i < n)
    (hdo : DoOk X u B (.agg #[.int .i64 o1, .int .i64 o2, .int .i64 o3]) R)
    (hR : ∀ v u, R v u → Vars Cv Av Sv Ov B C n c i o1 o2 o3 u ∧ Vars Cv Av Sv Ov B C n c i o1 o2 o3 (u.setCell ⟨C, i, none⟩ v) ∧ (∃ x, v = .int .i64 x) ∧ (∃ y, u.cell? ⟨C, i, none⟩ = some y) ∧ u.frozen? ⟨C, i, none⟩ = false)
    (hfull : ∀ v u, R v u → (u.setCell ⟨C, i, none⟩ v).heap[Av]? = some (.cells #[.int .i64 i] 3)) :
    To Try.prog (fun m t => ∃ w, Fr Try.prog (Ps X 0) (G (b.at ⟨#[v0, v1, v2, v3, v4, v5, .pointer (some ⟨Sv, 0, none⟩), .pointer (some ⟨Cv, 0, none⟩), .pointer (some ⟨Av, 0, none⟩), .pointer (some ⟨Ov, 0, none⟩), .pointer (some ⟨Wg, 0, none⟩), v11, v12, v13, v14, v15, v16, v17, v18, v19, v20, v21, v22, v23, v24, v25, v26, v27, v28, v29, v30, v31, v32, v33, v34, v35, v36, v37, v38, v39, v40, v41, v42], D⟩ (.code go9 :: k)) cs) w m t ∧ FSt X u Wg 0 w)
      (fun m t => ∃ v u1, R v u1 ∧ Fq Try.prog X (u1.setCell ⟨C, i, none⟩ v) (G (b.at ⟨#[v0, v1, v2, v3, v4, v5, .pointer (some ⟨Sv, 0, none⟩), .pointer (some ⟨Cv, 0, none⟩), .pointer (some ⟨Av, 0, none⟩), .pointer (some ⟨Ov, 0, none⟩), .pointer (some ⟨Wg, 0, none⟩), v11, v12, v13, v14, v15, v16, v17, v18, v19, v20, v21, v22, v23, v24, v25, v26, v27, v28, v29, v30, v31, v32, v33, .tuple #[], .func (.func 29) #[] #[.pointer (some ⟨Wg, 0, none⟩), .pointer (some ⟨Sv, 0, none⟩), .pointer (some ⟨Ov, 0, none⟩), .pointer (some ⟨Cv, 0, none⟩), .pointer (some ⟨Av, 0, none⟩)], .tuple #[], v37, v38, v39, v40, v41, v42], D⟩ k) cs) m t) := by
  have hAW : Av ≠ Wg := fun e => hXA (e ▸ hX)
  rintro m t ⟨w, hf, hF⟩
  obtain ⟨N1, m1, t1, r1, g1, w1, hf1, hF1, rfl⟩ := quiet_to (round1 hb hF) m t hf
  obtain ⟨N2, m2, t2, r2, d, hf2⟩ := add1_to wgLib (C := Av) hXA hF1.2 m1 t1 hf1
  have hF2 : FSt X u Wg KK ((w1.setCell (stA Wg) (.int .u64 KK)).at d) := fs_rely ⟨hF1.1.setHid (a := stA Wg) hX _, hF1.2.setSt KK⟩ ⟨d, rfl⟩
  obtain ⟨N3, m3, t3, r3, g3, w3, hf3, hF3, rfl⟩ := quiet_to (round2 hb hF2) m2 t2 hf2
  obtain ⟨N4, m4, t4, r4, c', d4, hc, hS2, hPw⟩ := go_to rfl (fun d => spawn9 hb _) m3 t3 hf3
  have hF4 := fs_rely hF3 ⟨d4, rfl⟩
  letI := shy X Wg Av hXA
  have hJ : ∀ w w₁, RX X w w₁ → JR X R C i w → JR X R C i w₁ := fun w w₁ r ⟨v, u1, h1, h2⟩ => ⟨v, u1, h1, h2.rely r⟩
  have hK : Kept Wg (JR X R C i) := fun w a v ha ⟨v', u1, h1, h2⟩ => ⟨v', u1, h1, h2.setHid (by rw [ha]; exact hX) v⟩
  have hw := worker_wd (Low := Wg + Av + 1) (Mine := fun _ => False) hm hF4.1 hV hin hdo hR hXA (by omega) (by omega) hAW hfull
  have hcp : Cp Try.prog 69 Wg (JR X R C i) (AnchB wgLink Wg (JR X R C i) (b.at ⟨#[v0, v1, v2, v3, v4, v5, .pointer (some ⟨Sv, 0, none⟩), .pointer (some ⟨Cv, 0, none⟩), .pointer (some ⟨Av, 0, none⟩), .pointer (some ⟨Ov, 0, none⟩), .pointer (some ⟨Wg, 0, none⟩), v11, v12, v13, v14, v15, v16, v17, v18, v19, v20, v21, v22, v23, v24, v25, v26, v27, v28, v29, v30, v31, v32, v33, .tuple #[], .func (.func 29) #[] #[.pointer (some ⟨Wg, 0, none⟩), .pointer (some ⟨Sv, 0, none⟩), .pointer (some ⟨Ov, 0, none⟩), .pointer (some ⟨Cv, 0, none⟩), .pointer (some ⟨Av, 0, none⟩)], v36, v37, v38, v39, v40, v41, v42], D⟩ (.inRegion ops11 [0] :: k)) cs) (RetB wgLink Wg (JR X R C i) b ⟨#[v0, v1, v2, v3, v4, v5, .pointer (some ⟨Sv, 0, none⟩), .pointer (some ⟨Cv, 0, none⟩), .pointer (some ⟨Av, 0, none⟩), .pointer (some ⟨Ov, 0, none⟩), .pointer (some ⟨Wg, 0, none⟩), v11, v12, v13, v14, v15, v16, v17, v18, v19, v20, v21, v22, v23, v24, v25, v26, v27, v28, v29, v30, v31, v32, v33, .tuple #[], .func (.func 29) #[] #[.pointer (some ⟨Wg, 0, none⟩), .pointer (some ⟨Sv, 0, none⟩), .pointer (some ⟨Ov, 0, none⟩), .pointer (some ⟨Cv, 0, none⟩), .pointer (some ⟨Av, 0, none⟩)], v36, v37, v38, v39, v40, v41, v42], D⟩ ops11 0 [] k cs) 6 6 0 KK _ (w3.at d4) := .kd (round3 hb (.inl hF4.2)) hF4.2
  obtain ⟨N5, m5, t5, r5, a', w', hf5, hret⟩ := joined hc hX hXA (by omega) hAW hJ (fun act h x hx hs => (show shyOk X Wg act from h) x hx hs)
    (waitRound wgLib hK) (fun g w h => by obtain ⟨T, rfl, _⟩ := h; rfl) hcp hw m4 t4 ⟨hS2, hPw⟩
  obtain ⟨rfl, _, v, u1, hr, hs⟩ := hret w'.drawn
  have hs' : Sim X (u1.setCell ⟨C, i, none⟩ v) w' := ⟨hs.size, hs.same, hs.hid, hs.os, hs.output⟩
  obtain ⟨N6, m6, t6, r6, hq⟩ := region_end_to (P := Try.prog) (X := X) m5 t5 ⟨w', hf5, hs'⟩
  refine ⟨N1 + (N2 + (N3 + (N4 + (N5 + N6)))), m6, t6, ?_, v, u1, hr, hq⟩
  rw [runNT_add, r1]; dsimp only
  rw [runNT_add, r2]; dsimp only
  rw [runNT_add, r3]; dsimp only
  rw [runNT_add, r4]; dsimp only
  rw [runNT_add, r5]; dsimp only
  exact r6
end
end Go.Bp

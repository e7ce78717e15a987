/-
  sync.Mutex taken by the worker, nobody holding it.
-/
import Derived.Test.YtfckhpkebdpkbaaPlayA2
import Derived.Conc.MuLib
namespace Go.Bp
open Go Go.Conc Go.RowKit Go.Conc.Lib
open Go.ConcX (mk DC0)
open Go.ConcX.Gen
open Go.Conc.Locks (MuLib MuLink lockFn unlockFn ilockFn iunlockFn disableFn enableFn acquireFn relMergeFn cas32Fn add32Fn)

section
variable {P : Program} {X : Nat → Prop} {Stop : Goroutine → World → Prop}

def AtGo (P : Program) (X : Nat → Prop) (Stop : Goroutine → World → Prop) (dc : Nat) (g : Goroutine) (w : World) : Prop :=
  g.status = .running ∧ ∃ g' w' es, stepG P false g w = .go g' w' es ∧ DW X w w' es ∧ Wd P X Stop (deafBehind dc es) g' w'

theorem Wd.to {dc n : Nat} {g : Goroutine} {w : World} (h : Goes P false (RX X) DC0 (AtGo P X Stop dc) n g w) : Wd P X Stop dc g w := by
  induction n generalizing g w with
  | zero => exact .next (h w (RX.refl X w)).1 fun w₁ h₁ => (h w₁ h₁).2
  | succ n ih =>
    rcases h with h | ⟨hs, h⟩
    · exact .next (h w (RX.refl X w)).1 fun w₁ h₁ => (h w₁ h₁).2
    · refine .next hs fun w₁ h₁ => ?_
      have := h w₁ h₁
      cases hst : stepG P false g w₁ with
      | go g' w' es =>
        rw [hst, goes_go] at this
        obtain ⟨⟨rfl, rfl⟩, h2⟩ := this
        exact ⟨g', _, _, rfl, ⟨fun _ _ => rfl, by simp⟩, ih h2⟩
      | _ => rw [hst] at this; exact this.elim

theorem Wd.fin {dc n : Nat} {g : Goroutine} {w : World} (h : Goes P false (RX X) DC0 (fun g w => Wd P X Stop dc g w) n g w) : Wd P X Stop dc g w :=
  Wd.of_goes (Stop' := fun g w => Wd P X Stop dc g w) (fun w w' es hd => by obtain ⟨rfl, rfl⟩ := hd; exact ⟨⟨fun _ _ => rfl, by simp⟩, by simp⟩) h fun _ _ h => h

theorem dw_mark {w : World} {m : Mark} (hm : (MemAct.ofEvent (mk m)).touch? = none) : DW X w w #[mk m] := ⟨fun _ _ => rfl, fun e he x hx => by simp at he; subst he; rw [hm] at hx; cases hx⟩
theorem dw_atomic {w : World} {a : Addr} {v : Value} (h : ¬ X a.block) : DW X w (w.setCell a v) #[⟨.cell a, false, true⟩, ⟨.cell a, true, true⟩] :=
  ⟨fun k hk => setCell_other (fun e => h (by rw [e]; exact hk)), fun e he x hx _ => by
    simp at he
    rcases he with rfl | rfl <;> (simp only [MemAct.ofEvent, MemAct.touch?, Option.some.injEq] at hx; subst hx; rfl)⟩

theorem sim_rely {u w w₁ : World} (h : Sim X u w) (r : RX X w w₁) : Sim X u w₁ := h.rely r
end

def disableM (L : MuLink) := disableFn L
theorem mx_disable_n (L : MuLink) : ((disableFn L).name == "runtime.NumGoroutine") = false := by kernel_rfl
theorem mx_disable_b (L : MuLink) : (disableFn L).body.isNone = true := by kernel_rfl
theorem mx_disable_x (L : MuLink) : Extern.findNext (disableFn L) = none := by kernel_rfl
theorem mx_disable_f (L : MuLink) : Extern.find (disableFn L) = some (fun _ => do mark .disable; pure Extern.Race.none_) := by kernel_rfl
theorem mx_enable_n (L : MuLink) : ((enableFn L).name == "runtime.NumGoroutine") = false := by kernel_rfl
theorem mx_enable_b (L : MuLink) : (enableFn L).body.isNone = true := by kernel_rfl
theorem mx_enable_x (L : MuLink) : Extern.findNext (enableFn L) = none := by kernel_rfl
theorem mx_enable_f (L : MuLink) : Extern.find (enableFn L) = some (fun _ => do mark .enable; pure Extern.Race.none_) := by kernel_rfl
theorem mx_acquire_n (L : MuLink) : ((acquireFn L).name == "runtime.NumGoroutine") = false := by kernel_rfl
theorem mx_acquire_b (L : MuLink) : (acquireFn L).body.isNone = true := by kernel_rfl
theorem mx_acquire_x (L : MuLink) : Extern.findNext (acquireFn L) = none := by kernel_rfl
theorem mx_acquire_f (L : MuLink) : Extern.find (acquireFn L) = some (Extern.Race.marked .acquire) := by kernel_rfl
theorem mx_relMerge_n (L : MuLink) : ((relMergeFn L).name == "runtime.NumGoroutine") = false := by kernel_rfl
theorem mx_relMerge_b (L : MuLink) : (relMergeFn L).body.isNone = true := by kernel_rfl
theorem mx_relMerge_x (L : MuLink) : Extern.findNext (relMergeFn L) = none := by kernel_rfl
theorem mx_relMerge_f (L : MuLink) : Extern.find (relMergeFn L) = some (Extern.Race.marked .releaseMerge) := by kernel_rfl
theorem mx_cas_n (L : MuLink) : ((cas32Fn L).name == "runtime.NumGoroutine") = false := by kernel_rfl
theorem mx_cas_b (L : MuLink) : (cas32Fn L).body.isNone = true := by kernel_rfl
theorem mx_cas_x (L : MuLink) : Extern.findNext (cas32Fn L) = none := by kernel_rfl
theorem mx_cas_f (L : MuLink) : Extern.find (cas32Fn L) = some (Extern.Atomic.casT (.int .i32)) := by kernel_rfl
theorem mx_add_n (L : MuLink) : ((add32Fn L).name == "runtime.NumGoroutine") = false := by kernel_rfl
theorem mx_add_b (L : MuLink) : (add32Fn L).body.isNone = true := by kernel_rfl
theorem mx_add_x (L : MuLink) : Extern.findNext (add32Fn L) = none := by kernel_rfl
theorem mx_add_f (L : MuLink) : Extern.find (add32Fn L) = some (Extern.Atomic.update (Op.intArith .add) .i32 true) := by kernel_rfl
theorem mx_ilock_n (L : MuLink) : ((ilockFn L).name == "runtime.NumGoroutine") = false := by kernel_rfl
theorem mx_iunlock_n (L : MuLink) : ((iunlockFn L).name == "runtime.NumGoroutine") = false := by kernel_rfl

section
variable {P : Program} {L : MuLink} {X : Nat → Prop} {Stop : Goroutine → World → Prop} {b₀ : Frame} {a₀ : Act} {ops₀ : Array Oper} {i₀ : Nat} {rest₀ : List Nat} {k₀ : List Item} {cs : List Frame}

def body_lock (L : MuLink) : Code := (lockFn L).body.getD .skip

set_option maxRecDepth 100000 in
set_option maxHeartbeats 4000000 in
theorem lock_wd (H : MuLib P L) {B : Nat} {u w : World} {dc : Nat} (hB : ¬ X B) (hc : u.cell? ⟨B, 0, none⟩ = some (.int .i32 0)) (hz : u.frozen? ⟨B, 0, none⟩ = false) (hF : Sim X u w)
    (hk : ∀ w', Sim X (u.setCell ⟨B, 0, none⟩ (.int .i32 1)) w' → Wd P X Stop dc (G (b₀.at (a₀.put ((ops₀[i₀]?).bind (·.dst)) (.tuple #[])) (.inRegion ops₀ rest₀ :: k₀)) cs) w') :
    Wd P X Stop dc (G ((base L.lock).at ⟨#[.pointer (some ⟨B, 0, none⟩), undef, undef, undef, undef, undef], []⟩ [.code (body_lock L)]) (b₀.at a₀ (.inRegion ops₀ (i₀ :: rest₀) :: k₀) :: cs)) w := by
  have lf1 := H.runUnderlying_tIMutex; have lf2 := H.sizeOf_tIMutex; have lf3 := H.isAgg_tIMutex; have lf4 := H.zeroValue_tIMutex; have lf5 := H.runUnderlying_tMutex; have lf6 := H.sizeOf_tMutex; have lf7 := H.isAgg_tMutex; have lf8 := H.zeroValue_tMutex
  have lf9 := H.runUnderlying_tPMutex; have lf10 := H.sizeOf_tPMutex; have lf11 := H.isAgg_tPMutex; have lf12 := H.zeroValue_tPMutex; have lf13 := H.runUnderlying_tPIMutex; have lf14 := H.sizeOf_tPIMutex; have lf15 := H.isAgg_tPIMutex; have lf16 := H.zeroValue_tPIMutex
  have lf17 := H.runUnderlying_tPI32; have lf18 := H.sizeOf_tPI32; have lf19 := H.isAgg_tPI32; have lf20 := H.zeroValue_tPI32; have lf21 := H.runUnderlying_tUP; have lf22 := H.sizeOf_tUP; have lf23 := H.isAgg_tUP; have lf24 := H.zeroValue_tUP
  have lf25 := H.runUnderlying_tNoCopy; have lf26 := H.sizeOf_tNoCopy; have lf27 := H.isAgg_tNoCopy; have lf28 := H.zeroValue_tNoCopy; have lf29 := H.runUnderlying_t21; have lf30 := H.sizeOf_t21; have lf31 := H.isAgg_t21; have lf32 := H.zeroValue_t21
  have lf33 := H.underlying_tIMutex; have lf34 := H.underlying_tMutex; have lf35 := H.underlying_tPMutex; have lf36 := H.underlying_tPIMutex; have lf37 := H.underlying_tPI32; have lf38 := H.underlying_tUP; have lf39 := H.underlying_tNoCopy; have lf40 := H.underlying_t21
  have hc1 : (u.setCell ⟨B, 0, none⟩ (.int .i32 1)).cell? ⟨B, 0, none⟩ = some (.int .i32 1) := World.cell?_setCell_same _ _ _ hc
  refine Wd.to (n := 20) ?_
  simp only [body_lock, lockFn, Option.getD_some]
  u_reg sim_rely hF
  u_op sim_rely hF
  u_op sim_rely hF
  u_op sim_rely hF
  u_call H.f_ilock (mx_ilock_n L) ilockFn sim_rely hF
  u_c stepG_seq sim_rely hF
  u_reg sim_rely hF
  refine Goes.stop (fun w₁ h₁ => ?_)
  replace hF := sim_rely hF h₁
  clear h₁
  refine ⟨rfl, _, _, _, stepG_mark0 .disable (by simp) rfl rfl (by k_ne) rfl H.f_disable (mx_disable_n L) (mx_disable_b L) (mx_disable_x L) (mx_disable_f L), dw_mark rfl, ?_⟩
  walk_nrm
  refine Wd.to (n := 20) ?_
  u_c stepG_region_end sim_rely hF
  u_c stepG_seq sim_rely hF
  u_c stepG_seq sim_rely hF
  u_reg sim_rely hF
  u_op sim_rely hF
  u_op sim_rely hF
  u_op sim_rely hF
  refine Goes.stop (fun w₂ h₁ => ?_)
  replace hF := sim_rely hF h₁
  clear h₁
  have hc2 := (hF.cell hc).2
  refine ⟨rfl, _, _, _, stepG_cas_hit rfl rfl (by k_ne) rfl H.f_cas32 (mx_cas_n L) (mx_cas_b L) (mx_cas_x L) .i32 (mx_cas_f L) rfl rfl rfl hc2 (by rw [hF.frozen]; exact hz), dw_atomic hB, ?_⟩
  have hG := hF.setCell (.int .i32 1) (show ¬ X (⟨B, 0, none⟩ : Addr).block from hB)
  clear hF hc2
  walk_nrm
  refine Wd.to (n := 20) ?_
  u_c stepG_region_end sim_rely hG
  u_cond true sim_rely hG
  u_c stepG_seq sim_rely hG
  u_cond true sim_rely hG
  u_c stepG_seq sim_rely hG
  u_reg sim_rely hG
  refine Goes.stop (fun w₃ h₁ => ?_)
  replace hG := sim_rely hG h₁
  clear h₁
  refine ⟨rfl, _, _, _, stepG_mark0 .enable (by simp) rfl rfl (by k_ne) rfl H.f_enable (mx_enable_n L) (mx_enable_b L) (mx_enable_x L) (mx_enable_f L), dw_mark rfl, ?_⟩
  walk_nrm
  refine Wd.to (n := 20) ?_
  u_c stepG_region_end sim_rely hG
  u_reg sim_rely hG
  u_op sim_rely hG
  u_conv H.underlying_tPIMutex H.room_tIMutex (hG.cell hc1).2 sim_rely hG
  try walk_nrm
  refine Goes.stop (fun w₄ h₁ => ?_)
  replace hG := sim_rely hG h₁
  clear h₁
  refine ⟨rfl, _, _, _, stepG_markAt .acquire (by simp) rfl rfl (by k_ne) rfl H.f_acquire (mx_acquire_n L) (mx_acquire_b L) (mx_acquire_x L) (mx_acquire_f L) (by simp [Act.eval]; rfl), dw_mark rfl, ?_⟩
  walk_nrm
  refine Wd.fin (n := 20) ?_
  u_c stepG_region_end sim_rely hG
  u_c stepG_ret' sim_rely hG
  u_leave0 H.f_ilock sim_rely hG
  u_c stepG_region_end sim_rely hG
  u_c stepG_end sim_rely hG
  u_leave0 H.f_lock sim_rely hG
  exact Goes.stop fun w₅ h₁ => hk w₅ (hG.rely h₁)
end
end Go.Bp

/- sync.Mutex given back by the worker, nobody waiting. -/
namespace Go.Bp
open Go Go.Conc Go.RowKit Go.Conc.Lib
open Go.ConcX (mk DC0)
open Go.ConcX.Gen
open Go.Conc.Locks (MuLib MuLink lockFn unlockFn ilockFn iunlockFn disableFn enableFn acquireFn relMergeFn cas32Fn add32Fn)

section
variable {P : Program} {X : Nat → Prop} {Stop : Goroutine → World → Prop}
def DQ (X : Nat → Prop) (w w' : World) (es : Array Event) : Prop := (∀ k, X k → w'.heap[k]? = w.heap[k]?) ∧ ∀ e ∈ es, EvX X e
theorem Wd.finQ {dc n : Nat} {g : Goroutine} {w : World} (h : Goes P false (RX X) (DQ X) (fun g w => Wd P X Stop dc g w) n g w) : Wd P X Stop dc g w :=
  Wd.of_goes (Stop' := fun g w => Wd P X Stop dc g w) (fun _w _w' _es hd => ⟨⟨hd.1, fun e he => evX_ev2 (hd.2 e he)⟩, fun e he => evX_still (hd.2 e he)⟩) h fun _ _ h => h
end

section
variable {P : Program} {L : MuLink} {X : Nat → Prop} {Stop : Goroutine → World → Prop} {c : Frame} {cs : List Frame}

def body_unlock (L : MuLink) : Code := (unlockFn L).body.getD .skip

set_option maxRecDepth 100000 in
set_option maxHeartbeats 4000000 in
theorem unlock_wd (H : MuLib P L) {B : Nat} {u w : World} {dc : Nat} (hB : ¬ X B) (hcm : c.mode = .returning) (hc : u.cell? ⟨B, 0, none⟩ = some (.int .i32 1)) (hz : u.frozen? ⟨B, 0, none⟩ = false) (hF : Sim X u w)
    (hk : ∀ w', Sim X (u.setCell ⟨B, 0, none⟩ (.int .i32 0)) w' → Wd P X Stop dc (G c cs) w') :
    Wd P X Stop dc (G ((baseD L.unlock).at ⟨#[.pointer (some ⟨B, 0, none⟩), undef, undef, undef, undef, undef], []⟩ [.code (body_unlock L)]) (c :: cs)) w := by
  have lf1 := H.runUnderlying_tIMutex; have lf2 := H.sizeOf_tIMutex; have lf3 := H.isAgg_tIMutex; have lf4 := H.zeroValue_tIMutex; have lf5 := H.runUnderlying_tMutex; have lf6 := H.sizeOf_tMutex; have lf7 := H.isAgg_tMutex; have lf8 := H.zeroValue_tMutex
  have lf9 := H.runUnderlying_tPMutex; have lf10 := H.sizeOf_tPMutex; have lf11 := H.isAgg_tPMutex; have lf12 := H.zeroValue_tPMutex; have lf13 := H.runUnderlying_tPIMutex; have lf14 := H.sizeOf_tPIMutex; have lf15 := H.isAgg_tPIMutex; have lf16 := H.zeroValue_tPIMutex
  have lf17 := H.runUnderlying_tPI32; have lf18 := H.sizeOf_tPI32; have lf19 := H.isAgg_tPI32; have lf20 := H.zeroValue_tPI32; have lf21 := H.runUnderlying_tUP; have lf22 := H.sizeOf_tUP; have lf23 := H.isAgg_tUP; have lf24 := H.zeroValue_tUP
  have lf25 := H.runUnderlying_tNoCopy; have lf26 := H.sizeOf_tNoCopy; have lf27 := H.isAgg_tNoCopy; have lf28 := H.zeroValue_tNoCopy; have lf29 := H.runUnderlying_t21; have lf30 := H.sizeOf_t21; have lf31 := H.isAgg_t21; have lf32 := H.zeroValue_t21
  have lf33 := H.underlying_tIMutex; have lf34 := H.underlying_tMutex; have lf35 := H.underlying_tPMutex; have lf36 := H.underlying_tPIMutex; have lf37 := H.underlying_tPI32; have lf38 := H.underlying_tUP; have lf39 := H.underlying_tNoCopy; have lf40 := H.underlying_t21
  have hc1 : (u.setCell ⟨B, 0, none⟩ (.int .i32 0)).cell? ⟨B, 0, none⟩ = some (.int .i32 0) := World.cell?_setCell_same _ _ _ hc
  refine Wd.fin (n := 20) ?_
  simp only [body_unlock, unlockFn, Option.getD_some]
  u_reg sim_rely hF
  u_op sim_rely hF
  u_op sim_rely hF
  u_op sim_rely hF
  u_call H.f_iunlock (mx_iunlock_n L) iunlockFn sim_rely hF
  u_c stepG_seq sim_rely hF
  u_cond true sim_rely hF
  u_c stepG_seq sim_rely hF
  u_reg sim_rely hF
  u_op sim_rely hF
  u_op sim_rely hF
  u_op sim_rely hF
  refine Goes.stop (fun w₀ h₁ => ?_)
  replace hF := sim_rely hF h₁
  clear h₁
  refine Wd.finQ (n := 1) ?_
  refine Goes.step rfl (fun w₁ h₁ => ?_)
  replace hF := sim_rely hF h₁
  clear h₁
  have hl := (hF.cell hc).2
  refine goes_oper_k rfl rfl (by k_ne) (fun K hK => ?_)
  go_simp
  refine hK _ _ ⟨⟨fun _ _ => rfl, ?_⟩, ?_⟩
  · intro e he
    have hm := mem_listed he
    simp [go_sem, *] at hm
    subst hm
    exact evX_cell hB
  clear hK K hl
  try walk_nrm
  refine Goes.stop (fun w₂ h₁ => ?_)
  replace hF := sim_rely hF h₁
  clear h₁
  refine Wd.to (n := 20) ?_
  u_c stepG_region_end sim_rely hF
  u_c stepG_seq sim_rely hF
  u_reg sim_rely hF
  u_op sim_rely hF
  u_conv H.underlying_tPIMutex H.room_tIMutex (hF.cell hc).2 sim_rely hF
  try walk_nrm
  refine Goes.stop (fun w₁ h₁ => ?_)
  replace hF := sim_rely hF h₁
  clear h₁
  refine ⟨rfl, _, _, _, stepG_markAt .releaseMerge (by simp) rfl rfl (by k_ne) rfl H.f_relMerge (mx_relMerge_n L) (mx_relMerge_b L) (mx_relMerge_x L) (mx_relMerge_f L) (by simp [Act.eval]; rfl), dw_mark rfl, ?_⟩
  walk_nrm
  refine Wd.to (n := 20) ?_
  u_c stepG_region_end sim_rely hF
  u_reg sim_rely hF
  refine Goes.stop (fun w₁ h₁ => ?_)
  replace hF := sim_rely hF h₁
  clear h₁
  refine ⟨rfl, _, _, _, stepG_mark0 .disable (by simp) rfl rfl (by k_ne) rfl H.f_disable (mx_disable_n L) (mx_disable_b L) (mx_disable_x L) (mx_disable_f L), dw_mark rfl, ?_⟩
  walk_nrm
  refine Wd.to (n := 20) ?_
  u_c stepG_region_end sim_rely hF
  u_c stepG_seq sim_rely hF
  u_reg sim_rely hF
  u_op sim_rely hF
  u_op sim_rely hF
  u_op sim_rely hF
  refine Goes.stop (fun w₂ h₁ => ?_)
  replace hF := sim_rely hF h₁
  clear h₁
  have hc2 := (hF.cell hc).2
  refine ⟨rfl, _, _, _, stepG_add_atomic rfl rfl (by k_ne) rfl H.f_add32 (mx_add_n L) (mx_add_b L) (mx_add_x L) .i32 (mx_add_f L) rfl rfl hc2 (by rw [hF.frozen]; exact hz), dw_atomic hB, ?_⟩
  have e0 : IntKind.i32.wrap (1 + -1) = 0 := by decide
  rw [e0]
  have hG := hF.setCell (.int .i32 0) (show ¬ X (⟨B, 0, none⟩ : Addr).block from hB)
  clear hF hc2
  walk_nrm
  refine Wd.to (n := 20) ?_
  u_op sim_rely hG
  u_c stepG_region_end sim_rely hG
  u_c stepG_seq sim_rely hG
  u_c stepG_seq sim_rely hG
  u_reg sim_rely hG
  u_op sim_rely hG
  u_op sim_rely hG
  u_c stepG_region_end sim_rely hG
  u_cond false sim_rely hG
  u_c stepG_skip sim_rely hG
  u_reg sim_rely hG
  refine Goes.stop (fun w₃ h₁ => ?_)
  replace hG := sim_rely hG h₁
  clear h₁
  refine ⟨rfl, _, _, _, stepG_mark0 .enable (by simp) rfl rfl (by k_ne) rfl H.f_enable (mx_enable_n L) (mx_enable_b L) (mx_enable_x L) (mx_enable_f L), dw_mark rfl, ?_⟩
  walk_nrm
  refine Wd.fin (n := 20) ?_
  u_c stepG_region_end sim_rely hG
  u_c stepG_end sim_rely hG
  u_leave0 H.f_iunlock sim_rely hG
  u_c stepG_region_end sim_rely hG
  u_c stepG_end sim_rely hG
  u_in sim_rely hG
  rw [stepG_leave_deferred (v := .tuple #[]) rfl rfl H.f_unlock (by simp [results, unlockFn]) (by simp [results, unlockFn]) hcm]
  simp only [goes_go]
  refine ⟨by u_nil, ?_⟩
  exact Goes.stop fun w₅ h₁ => hk w₅ (hG.rely h₁)
end
end Go.Bp

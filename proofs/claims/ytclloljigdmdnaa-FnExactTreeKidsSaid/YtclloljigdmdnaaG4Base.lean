/- Trees: groups: copying (printed by mkg.py). -/
import Derived.Test.YtclloljigdmdnaaG3Base
namespace Go.Proofs.Ytclloljigdmdnaa
open Go.RowKit
/-- A group's rows lie between two numbers, one behind the other. -/
def GLie (lo hi : Nat) (h : GH) : Prop := ∃ b1 b2 b3, h.la = some ⟨b1, 0, none⟩ ∧ h.da = some ⟨b2, 0, none⟩ ∧ h.sa = some ⟨b3, 0, none⟩ ∧ lo ≤ b1 ∧ b1 < b2 ∧ b2 < b3 ∧ b3 < hi
theorem toGroup_any (g : GV) (h : GH) (hl : GLen g) (w W : World) (hb : Below W.heap.size W w) (hR : GRd W W.heap.size g h) :
    Calls Try.prog 29 #[.agg #[.bool g.us, .int .i64 g.pa, .string g.nm, .int .i64 g.we, .int .i64 g.cp, .int .i64 g.pe, .int .i64 g.ne, .int .i64 g.su, .int .i64 g.qu, .int .i64 g.po, .int .i64 g.sp, .slice h.la g.ln h.lc, .slice h.da g.dn h.dc, .slice h.sa g.sn h.sc]] w fun e w' => ∃ h' : GH, e = .returned (.agg #[.bool g.us, .int .i64 g.pa, .string g.nm, .int .i64 g.we, .int .i64 g.cp, .int .i64 g.pe, .int .i64 g.ne, .int .i64 g.su, .int .i64 g.qu, .int .i64 g.po, .int .i64 g.sp, .slice h'.la g.ln h'.lc, .slice h'.da g.dn h'.dc, .slice h'.sa g.sn h'.sc]) ∧ GOwn w' w.heap.size g h' ∧ GLie w.heap.size w'.heap.size h' ∧ Below w.heap.size w w' := by
  refine (toGroup_core g.us g.pa g.we g.cp g.pe g.ne g.su g.qu g.po g.sp g.nm h.la h.da h.sa g.ln g.dn h.lc h.dc g.sn h.sc hl.l hl.d hl.s g.lf g.df g.s0 g.s1 g.s2 g.s3 g.s4 w W hb hR.l hR.d hR.s).mono ?_
  rintro e w' ⟨b1, b2, b3, rfl, h1, h2, h3, o1, o2, o3, hb'⟩
  exact ⟨⟨some ⟨b1, 0, none⟩, g.ln, some ⟨b2, 0, none⟩, g.dn, some ⟨b3, 0, none⟩, g.sn⟩, rfl, ⟨o1.ownR h1, o2.ownR (by omega), OwnS.ownQ (el := shC g) o3 (by omega)⟩, ⟨b1, b2, b3, rfl, rfl, rfl, h1, h2, h3, o3.1⟩, hb'⟩
/-- Groups of the call's own: their cells, their rows, none of which is another's. -/
def OwnGs (w : World) (q n : Nat) (g : Nat → GV) (h : Nat → GH) : Prop :=
  OwnS w q n 14 (fun i => grC (g i) (h i)) ∧ ∃ lo : Nat → Nat, q < lo 0 ∧ (∀ i, i < n → lo i ≤ lo (i + 1)) ∧ ∀ i, i < n → GLie (lo i) (lo (i + 1)) (h i) ∧ GOwn w (lo i) (g i) (h i)
theorem OwnGs.rd {w : World} {q n : Nat} {g : Nat → GV} {h : Nat → GH} (o : OwnGs w q n g h) : GsRd w w.heap.size (some ⟨q, 0, none⟩) n g h := by
  obtain ⟨o1, lo, _, _, h2⟩ := o
  exact ⟨o1.rs, fun i hi => (h2 i hi).2.rd⟩
theorem OwnGs.below {w w' : World} {q n : Nat} {g : Nat → GV} {h : Nat → GH} (o : OwnGs w q n g h) (hb : Below w.heap.size w w') : OwnGs w' q n g h := by
  obtain ⟨o1, lo, h0, hm, h2⟩ := o
  exact ⟨o1.below hb o1.1, lo, h0, hm, fun i hi => ⟨(h2 i hi).1, (h2 i hi).2.below hb (Nat.le_refl _)⟩⟩
def updH (f : Nat → GH) (k : Nat) (v : GH) (i : Nat) : GH := if i = k then v else f i
theorem updH_same (f : Nat → GH) (k : Nat) (v : GH) : updH f k v k = v := by simp [updH]
theorem updH_lt (f : Nat → GH) (k : Nat) (v : GH) {i : Nat} (h : i < k) : updH f k v i = f i := by simp [updH, Nat.ne_of_lt h]
def updN (f : Nat → Nat) (k : Nat) (v : Nat) (i : Nat) : Nat := if i = k then v else f i
theorem updN_same (f : Nat → Nat) (k : Nat) (v : Nat) : updN f k v k = v := by simp [updN]
theorem updN_lt (f : Nat → Nat) (k : Nat) (v : Nat) {i : Nat} (h : i < k) : updN f k v i = f i := by simp [updN, Nat.ne_of_lt h]
theorem Fill.put {w : World} {g n sz k : Nat} {el el' : Nat → List Value} (h : Fill w g n sz k el) (hk : k < n) (vs : List Value) (hl : vs.length = sz) (hel : ∀ i, (el i).length = sz) (he : ∀ i, i < k → el' i = el i) (hv : el' k = vs) : Fill (w.setCells g (k * sz) vs) g n sz (k + 1) el' := by
  refine ⟨by rw [size_setCells]; exact h.1, fun i hi => ?_, World.there_setCells h.2.2 _ _ _⟩
  by_cases e : i = k
  · subst e
    rw [hv]
    exact World.rangeAt_setCells_same w g (i * sz) vs (by rw [hl]; exact h.there_at hk)
  · have := mul_succ_le (sz := sz) (show i < k by omega)
    rw [he i (by omega)]
    exact World.rangeAt_setCells_apart (h.2.1 i (by omega)) g (k * sz) vs (.inr (.inl (by rw [hel i]; exact this)))
/-- What the loop has done when k groups are there. -/
def FillG (w : World) (q n k : Nat) (g : Nat → GV) : Prop := ∃ (h : Nat → GH) (lo : Nat → Nat), Fill w q n 14 k (fun i => grC (g i) (h i)) ∧ q < lo 0 ∧ lo k ≤ w.heap.size ∧ (∀ i, i < k → lo i ≤ lo (i + 1)) ∧ ∀ i, i < k → GLie (lo i) (lo (i + 1)) (h i) ∧ GOwn w (lo i) (g i) (h i)
theorem FillG.done {w : World} {q n : Nat} {g : Nat → GV} (f : FillG w q n n g) : ∃ h, OwnGs w q n g h := by
  obtain ⟨h, lo, h1, h2, _, hm, h3⟩ := f
  exact ⟨h, h1.done, lo, h2, hm, h3⟩
theorem FillG.new {w : World} {t : TypeId} {cs : Array Value} {n : Nat} (g : Nat → GV) (hs : cs.size = n * 14) : FillG (w.alloc (.cells cs t)) w.heap.size n 0 g :=
  ⟨fun _ => default, fun _ => w.heap.size + 1, Fill.new _ hs, Nat.lt_succ_self _, by simp, fun i hi => by omega, fun i hi => by omega⟩
theorem FillG.step {w w1 : World} {q n k : Nat} {g : Nat → GV} {h' : GH} (f : FillG w q n k g) (hk : k < n) (hb : Below w.heap.size w w1) (ho : GOwn w1 w.heap.size (g k) h') (hg : GLie w.heap.size w1.heap.size h') :
    FillG (w1.setCells q (k * 14) (grC (g k) h')) q n (k + 1) g := by
  obtain ⟨h, lo, h1, h2, h3, hm, h4⟩ := f
  have hlo : ∀ i, i ≤ k → q < lo i := fun i hi => by
    induction i with
    | zero => exact h2
    | succ i ih => exact Nat.lt_of_lt_of_le (ih (by omega)) (hm i (by omega))
  refine ⟨updH h k h', updN lo (k + 1) w1.heap.size, (h1.below hb h1.1).put hk _ rfl (fun _ => rfl) (fun i hi => by rw [updH_lt _ _ _ hi]) (by rw [updH_same]), by rw [updN_lt _ _ _ (by omega)]; exact h2, by rw [updN_same, size_setCells]; exact Nat.le_refl _, fun i hi => ?_, fun i hi => ?_⟩
  · by_cases e : i = k
    · subst e
      rw [updN_same, updN_lt _ _ _ (by omega)]
      exact Nat.le_trans h3 hb.size
    · rw [updN_lt _ _ _ (by omega), updN_lt _ _ _ (by omega)]
      exact hm i (by omega)
  · by_cases e : i = k
    · subst e
      rw [updH_same, updN_same, updN_lt _ _ _ (by omega)]
      obtain ⟨b1, b2, b3, e1, e2, e3, g1, g2, g3, g4⟩ := hg
      exact ⟨⟨b1, b2, b3, e1, e2, e3, by omega, g2, g3, g4⟩, (ho.more h3).rowsOff (hlo i (Nat.le_refl _)) _ _⟩
    · rw [updH_lt _ _ _ (by omega), updN_lt _ _ _ (by omega), updN_lt _ _ _ (by omega)]
      obtain ⟨g1, g2⟩ := h4 i (by omega)
      exact ⟨g1, (g2.below hb (Nat.le_refl _)).rowsOff (hlo i (by omega)) _ _⟩
theorem oneGroup (us : Bool) (pa we cp pe ne su qu po sp : Int) (nm : ByteArray) (la da sa : Option Addr) (ln lc dn dc sn sc : Nat) : (#[.bool us, .int .i64 pa, .string nm, .int .i64 we, .int .i64 cp, .int .i64 pe, .int .i64 ne, .int .i64 su, .int .i64 qu, .int .i64 po, .int .i64 sp, .slice la ln lc, .slice da dn dc, .slice sa sn sc] : Array Value).all (·.oneCell') = true := by kernel_rfl
theorem sizeGroup : (Try.prog.info? 48).map (·.size) = some 14 := by kernel_rfl
theorem make_Group (n : Nat) (hn : n ≤ 1048576) (w : World) : ∃ cs : Array Value, cs.size = n * 14 ∧ (Instr.makeSlice 25 (.int .i64 (n : Int)) (.int .i64 (n : Int))).run Try.prog w = .ok (.slice (some ⟨w.heap.size, 0, none⟩) n n) (w.alloc (.cells cs 48)) := by
  have hinfo : (Try.prog.info? 48).map (fun i => (i.zero, i.size, i.bytes)) = some (some (.agg #[.bool false, .int .i64 0, .string ⟨#[]⟩, .int .i64 0, .int .i64 0, .int .i64 0, .int .i64 0, .int .i64 0, .int .i64 0, .int .i64 0, .int .i64 0, .slice none 0 0, .slice none 0 0, .slice none 0 0]), 14, 168) := by kernel_rfl
  obtain ⟨i0, hi, hz0, hz1, hz2⟩ := info_parts hinfo
  have := run_make (P := Try.prog) w 25 48 i0 _ Try.underlying25 hi hz0 .i64 .i64 n n (by omega) (by omega) (by
    rw [hz2]
    omega) (by omega)
  rw [hz1] at this
  exact ⟨madeCells #[.bool false, .int .i64 0, .string ⟨#[]⟩, .int .i64 0, .int .i64 0, .int .i64 0, .int .i64 0, .int .i64 0, .int .i64 0, .int .i64 0, .int .i64 0, .slice none 0 0, .slice none 0 0, .slice none 0 0] (n * 14), size_madeCells _ _, by simpa [Value.cells] using this⟩
set_option maxHeartbeats 1000000 in
theorem toGroupS_any (A : Option Addr) (n c : Nat) (hn : n ≤ 1048576) (g : Nat → GV) (h : Nat → GH) (w W : World) (hb : Below W.heap.size W w) (hL : ∀ i, i < n → GLen (g i)) (hA : GsRd W W.heap.size A n g h) :
    Calls Try.prog 10 #[.slice A n c] w fun e w' => e = .returned (.slice (some ⟨w.heap.size, 0, none⟩) n n) ∧ (∃ h', OwnGs w' w.heap.size n g h') ∧ Below w.heap.size w w' := by
  have hz := hb.size
  have hA' := hA.at_ hb
  obtain ⟨mk, hms, hmk⟩ := make_Group n hn w
  rcases Nat.eq_zero_or_pos n with h0 | h0
  · subst h0
    have hmk0 : (Instr.makeSlice 25 (.int .i64 0) (.int .i64 0)).run Try.prog w = .ok (.slice (some ⟨w.heap.size, 0, none⟩) 0 0) (w.alloc (.cells mk 48)) := hmk
    clear hmk hA hA'
    have HM := Lib.hid hms
    clear hms
    go_enter Try.func10, Try.ntmps10
    go_wp2
    refine wp_loop_rounds 1 ?_
    rw [rounds_succ]
    go_wp2
    go_ret
    exact ⟨rfl, (FillG.new g HM.out).done, (Below.refl _ _).alloc (Nat.le_refl _) _⟩
  · obtain ⟨ga, oa, rfl, hga, hca⟩ := hA'.r h0
    have HC := Lib.hid hca
    have HD := Lib.hid hA'.d
    have HM := Lib.hid hms
    clear hca hA hA' hms
    go_enter Try.func10, Try.ntmps10
    go_wp2
    go_loopw [4] (fun i wr => ∃ k : Nat, k ≤ n ∧ i = .int .i64 k ∧ Hid (FillG wr w.heap.size n k g) ∧ Below w.heap.size w wr) (fun i _ => n - (intOf i).toNat)
    case atStart => exact ⟨0, Nat.zero_le _, rfl, FillG.new _ HM.out, (Below.refl _ _).alloc (Nat.le_refl _) _⟩
    case round =>
      obtain ⟨k, hk, rfl, HB, hbr⟩ := hrel
      by_cases hlt : k < n
      · have hr : Hid (wr.rangeAt ga (oa + k * 14) [.bool (g k).us, .int .i64 (g k).pa, .string (g k).nm, .int .i64 (g k).we, .int .i64 (g k).cp, .int .i64 (g k).pe, .int .i64 (g k).ne, .int .i64 (g k).su, .int .i64 (g k).qu, .int .i64 (g k).po, .int .i64 (g k).sp, .slice (h k).la (g k).ln (h k).lc, .slice (h k).da (g k).dn (h k).dc, .slice (h k).sa (g k).sn (h k).sc]) := Lib.hid (rangeAt_below (HC.out k hlt) hbr hga)
        go_wp2_with (refine wpList_load_mid rfl 44 _ rfl ga (oa + k * 14) rfl _ _ hr.out Try.underlying44 rfl (by kernel_rfl) ?_)
        refine (toGroup_any (g k) (h k) (hL k hlt) _ w hbr (HD.out k hlt)).mono ?_
        rintro e w1 ⟨h', rfl, hO, hG, hb1⟩
        have HN : Hid (FillG (w1.setCells w.heap.size (k * 14) [.bool (g k).us, .int .i64 (g k).pa, .string (g k).nm, .int .i64 (g k).we, .int .i64 (g k).cp, .int .i64 (g k).pe, .int .i64 (g k).ne, .int .i64 (g k).su, .int .i64 (g k).qu, .int .i64 (g k).po, .int .i64 (g k).sp, .slice h'.la (g k).ln h'.lc, .slice h'.da (g k).dn h'.dc, .slice h'.sa (g k).sn h'.sc]) w.heap.size n (k + 1) g) := Lib.hid (HB.out.step hlt hb1 hO hG)
        have hth : w1.there w.heap.size (k * 14) (#[.bool (g k).us, .int .i64 (g k).pa, .string (g k).nm, .int .i64 (g k).we, .int .i64 (g k).cp, .int .i64 (g k).pe, .int .i64 (g k).ne, .int .i64 (g k).su, .int .i64 (g k).qu, .int .i64 (g k).po, .int .i64 (g k).sp, .slice h'.la (g k).ln h'.lc, .slice h'.da (g k).dn h'.dc, .slice h'.sa (g k).sn h'.sc] : Array Value).size := by
          obtain ⟨_, _, hf, _⟩ := HB.out
          exact (hf.below hb1 hf.1).there_at hlt
        have hB1 := hbr.trans (hb1.mono hbr.size)
        have HT := Lib.hid hth
        clear HB hb1 HM HC HD hr hO hG hth
        have hgoal : ∀ (ops : Array Oper) (Q : Exit → Act → World → Prop) (rest : List Oper) (op : Oper) (a : Act) (_ : op.guard = none) (_ : op.op = .store 48 (.tmp 21) (.tmp 20)) (_ : a.eval (.tmp 21) = .pointer (some ⟨w.heap.size, k * 14, none⟩)) (_ : a.eval (.tmp 20) = .agg #[.bool (g k).us, .int .i64 (g k).pa, .string (g k).nm, .int .i64 (g k).we, .int .i64 (g k).cp, .int .i64 (g k).pe, .int .i64 (g k).ne, .int .i64 (g k).su, .int .i64 (g k).qu, .int .i64 (g k).po, .int .i64 (g k).sp, .slice h'.la (g k).ln h'.lc, .slice h'.da (g k).dn h'.dc, .slice h'.sa (g k).sn h'.sc]) (_ : wpList Try.prog ops Q rest (a.put op.dst undef) (w1.setCells w.heap.size (k * 14) [.bool (g k).us, .int .i64 (g k).pa, .string (g k).nm, .int .i64 (g k).we, .int .i64 (g k).cp, .int .i64 (g k).pe, .int .i64 (g k).ne, .int .i64 (g k).su, .int .i64 (g k).qu, .int .i64 (g k).po, .int .i64 (g k).sp, .slice h'.la (g k).ln h'.lc, .slice h'.da (g k).dn h'.dc, .slice h'.sa (g k).sn h'.sc])), wpList Try.prog ops Q (op :: rest) a w1 :=
          fun ops Q rest op a hgd ho hx hy h => wpList_store_mid hgd _ _ _ ho w.heap.size (k * 14) #[.bool (g k).us, .int .i64 (g k).pa, .string (g k).nm, .int .i64 (g k).we, .int .i64 (g k).cp, .int .i64 (g k).pe, .int .i64 (g k).ne, .int .i64 (g k).su, .int .i64 (g k).qu, .int .i64 (g k).po, .int .i64 (g k).sp, .slice h'.la (g k).ln h'.lc, .slice h'.da (g k).dn h'.dc, .slice h'.sa (g k).sn h'.sc] hx hy HT.out sizeGroup (oneGroup ..) h
        have HG := Lib.hid hgoal
        clear hgoal HT
        go_wp2_with (have HGo := HG.out; (with_reducible refine HGo _ _ _ _ _ ?s1 ?s2 ?s3 ?s4 ?_); (case s1 => exact rfl); (case s2 => exact rfl); (case s3 => exact rfl); (case s4 => exact rfl); clear HGo)
        go_roundw
        case rel => exact ⟨k + 1, by omega, by go_num, HN, below_setCells _ (Nat.le_refl _) _ _ _ hB1⟩
        case measure => simp [intOf]; omega
      · obtain rfl : k = n := by omega
        go_wp2
        go_ret
        exact ⟨rfl, HB.out.done, hbr⟩
end Go.Proofs.Ytclloljigdmdnaa

/-
  No cell of these rows narrows 'for every input' (looked for: loops, veiled, ifaces, maps, wideKeys, modest, calm, conditions, laid).
  DERIVED. THE GIVEN ROWS OF THIS SEAT. 6 by the template 'for every input the law returns true; each argument reads behind the call as it read before'; 0 by the template 'total and deterministic' (their statements: YthanmhcmhmjekaaTotals.lean).
  GIVEN WITH THE SEED: the statements are not yours to turn. If you find one false, say at which input.
  Laid BY PROGRAM, IN A SANDBOX (cutbox-rows.mjs): the forced cells as the released guide's own fill.sh prints them over the translation a178e632571e08cc… (all of the seat's roots in one cut). By AI agents, Wed Nov 11 2026. No macro, syntax, notation, axiom, sorry.
-/
import Derived.Test.YthanmhcmhmjekaaChecked
import GoSem.Claim
import GoSem.ClaimJoined
import GoSem.ClaimMapViews
import Derived.JoinedTies
import Derived.KernelRfl
namespace Go.Proofs.Ythanmhcmhmjekaa
/- THE CELL 'sum', in the pinned program and in every row, IS THE sha256 OF THE DUMP (.gsa) THAT YthanmhcmhmjekaaProg.lean LOADS. Nothing in Lean hashes anything: it is a label: what it is worth is what the hold of that sum in a sandbox is worth. -/
noncomputable def Try.pinned : Pinned := { name := "ythanmhcmhmjekaa", sum := "a178e632571e08cc042082276aef90e211c475cc90712cf544957101e71c1601", checked := Try.checked }
namespace Rows
def none {H : Type} : Left H := { results := [], args := [] }

/-- 'laws.FnExactConstants': WHATEVER THE INPUT: true; the input reads as it did. -/
def fnExactConstantsSpec : ChangeSpec := { name := "fnExactConstants", fn := fun _ => fun
  | [] => { results := [.lit (.bool true)], args := [] }
  | _ => none }
def fnExactConstantsRow : OpenClaim := { program := "ythanmhcmhmjekaa", sum := "a178e632571e08cc042082276aef90e211c475cc90712cf544957101e71c1601", func := "loop.example/stint/laws.FnExactConstants", spec := "fnExactConstants", apart := false }
def FnExactConstantsSaid : Prop := fnExactConstantsRow.holds Try.pinned (OpenSpec.ofChange fnExactConstantsSpec)

/-- ITS FALSE NEIGHBOUR: 'it returns false'. Refute it at one input. -/
def fnExactConstantsWrong : ChangeSpec := { name := "fnExactConstants", fn := fun _ => fun
  | [] => { results := [.lit (.bool false)], args := [] }
  | _ => none }
def FnExactConstantsWrongFalsely : Prop := fnExactConstantsRow.holds Try.pinned (OpenSpec.ofChange fnExactConstantsWrong)

/-- 'laws.FnExactMaskOk': WHATEVER THE INPUT: true; the input reads as it did. -/
def fnExactMaskOkSpec : ChangeSpec := { name := "fnExactMaskOk", fn := fun _ => fun
  | [d] => { results := [.lit (.bool true)], args := [d] }
  | _ => none }
def fnExactMaskOkRow : OpenClaim := { program := "ythanmhcmhmjekaa", sum := "a178e632571e08cc042082276aef90e211c475cc90712cf544957101e71c1601", func := "loop.example/stint/laws.FnExactMaskOk", spec := "fnExactMaskOk", apart := false }
def FnExactMaskOkSaid : Prop := fnExactMaskOkRow.holds Try.pinned (OpenSpec.ofChange fnExactMaskOkSpec)

/-- ITS FALSE NEIGHBOUR: 'it returns false'. Refute it at one input. -/
def fnExactMaskOkWrong : ChangeSpec := { name := "fnExactMaskOk", fn := fun _ => fun
  | [d] => { results := [.lit (.bool false)], args := [d] }
  | _ => none }
def FnExactMaskOkWrongFalsely : Prop := fnExactMaskOkRow.holds Try.pinned (OpenSpec.ofChange fnExactMaskOkWrong)

/-- 'laws.FnExactMaskHas': WHATEVER THE INPUT: true; the input reads as it did. -/
def fnExactMaskHasSpec : ChangeSpec := { name := "fnExactMaskHas", fn := fun _ => fun
  | [d1, d2] => { results := [.lit (.bool true)], args := [d1, d2] }
  | _ => none }
def fnExactMaskHasRow : OpenClaim := { program := "ythanmhcmhmjekaa", sum := "a178e632571e08cc042082276aef90e211c475cc90712cf544957101e71c1601", func := "loop.example/stint/laws.FnExactMaskHas", spec := "fnExactMaskHas", apart := false }
def FnExactMaskHasSaid : Prop := fnExactMaskHasRow.holds Try.pinned (OpenSpec.ofChange fnExactMaskHasSpec)

/-- ITS FALSE NEIGHBOUR: 'it returns false'. Refute it at one input. -/
def fnExactMaskHasWrong : ChangeSpec := { name := "fnExactMaskHas", fn := fun _ => fun
  | [d1, d2] => { results := [.lit (.bool false)], args := [d1, d2] }
  | _ => none }
def FnExactMaskHasWrongFalsely : Prop := fnExactMaskHasRow.holds Try.pinned (OpenSpec.ofChange fnExactMaskHasWrong)

/-- 'laws.FnExactDecayTop': WHATEVER THE INPUT: true; the input reads as it did. -/
def fnExactDecayTopSpec : ChangeSpec := { name := "fnExactDecayTop", fn := fun _ => fun
  | [d] => { results := [.lit (.bool true)], args := [d] }
  | _ => none }
def fnExactDecayTopRow : OpenClaim := { program := "ythanmhcmhmjekaa", sum := "a178e632571e08cc042082276aef90e211c475cc90712cf544957101e71c1601", func := "loop.example/stint/laws.FnExactDecayTop", spec := "fnExactDecayTop", apart := false }
def FnExactDecayTopSaid : Prop := fnExactDecayTopRow.holds Try.pinned (OpenSpec.ofChange fnExactDecayTopSpec)

/-- ITS FALSE NEIGHBOUR: 'it returns false'. Refute it at one input. -/
def fnExactDecayTopWrong : ChangeSpec := { name := "fnExactDecayTop", fn := fun _ => fun
  | [d] => { results := [.lit (.bool false)], args := [d] }
  | _ => none }
def FnExactDecayTopWrongFalsely : Prop := fnExactDecayTopRow.holds Try.pinned (OpenSpec.ofChange fnExactDecayTopWrong)

/-- 'laws.FnExactWeightOf': WHATEVER THE INPUT: true; the input reads as it did. -/
def fnExactWeightOfSpec : ChangeSpec := { name := "fnExactWeightOf", fn := fun _ => fun
  | [d] => { results := [.lit (.bool true)], args := [d] }
  | _ => none }
def fnExactWeightOfRow : OpenClaim := { program := "ythanmhcmhmjekaa", sum := "a178e632571e08cc042082276aef90e211c475cc90712cf544957101e71c1601", func := "loop.example/stint/laws.FnExactWeightOf", spec := "fnExactWeightOf", apart := false }
def FnExactWeightOfSaid : Prop := fnExactWeightOfRow.holds Try.pinned (OpenSpec.ofChange fnExactWeightOfSpec)

/-- ITS FALSE NEIGHBOUR: 'it returns false'. Refute it at one input. -/
def fnExactWeightOfWrong : ChangeSpec := { name := "fnExactWeightOf", fn := fun _ => fun
  | [d] => { results := [.lit (.bool false)], args := [d] }
  | _ => none }
def FnExactWeightOfWrongFalsely : Prop := fnExactWeightOfRow.holds Try.pinned (OpenSpec.ofChange fnExactWeightOfWrong)

/-- 'laws.FnExactDecayBeat': WHATEVER THE INPUT: true; the input reads as it did. -/
def fnExactDecayBeatSpec : ChangeSpec := { name := "fnExactDecayBeat", fn := fun _ => fun
  | [d1, d2] => { results := [.lit (.bool true)], args := [d1, d2] }
  | _ => none }
def fnExactDecayBeatRow : OpenClaim := { program := "ythanmhcmhmjekaa", sum := "a178e632571e08cc042082276aef90e211c475cc90712cf544957101e71c1601", func := "loop.example/stint/laws.FnExactDecayBeat", spec := "fnExactDecayBeat", apart := false }
def FnExactDecayBeatSaid : Prop := fnExactDecayBeatRow.holds Try.pinned (OpenSpec.ofChange fnExactDecayBeatSpec)

/-- ITS FALSE NEIGHBOUR: 'it returns false'. Refute it at one input. -/
def fnExactDecayBeatWrong : ChangeSpec := { name := "fnExactDecayBeat", fn := fun _ => fun
  | [d1, d2] => { results := [.lit (.bool false)], args := [d1, d2] }
  | _ => none }
def FnExactDecayBeatWrongFalsely : Prop := fnExactDecayBeatRow.holds Try.pinned (OpenSpec.ofChange fnExactDecayBeatWrong)

/- THE SECOND FORM. 'bulk': how many values and letters a reading holds, each counted each time it is reached (what is shared counts as often as it is met; a slice's spare places count too). A statement '..UptoSaid' is the law's where the arguments, and the package variables that the reading takes, are together of bulk at most 1048576: NARROWER than '..Said'. Prove '..Said' where nothing that the law and all that it calls make is longer than what came in: it says more and counts as full. Else prove '..UptoSaid'. A law counts once. -/
mutual
def uptoBulk {H : Type} : DataW H → Nat
  | .lit (.string bytes) => bytes.length + 1
  | .lit _ => 1
  | .nil => 1
  | .ptr d => uptoBulk d + 1
  | .slice elems spare => uptoBulkAll elems + uptoBulkAll spare + 1
  | .agg parts => uptoBulkAll parts + 1
  | .iface _ d => uptoBulk d + 1
  | .map entries => uptoBulkEntries entries + 1
  | .held _ => 1
def uptoBulkAll {H : Type} : List (DataW H) → Nat
  | [] => 0
  | d :: r => uptoBulk d + uptoBulkAll r
def uptoBulkEntries {H : Type} : List (Lit × DataW H) → Nat
  | [] => 0
  | x :: r => uptoBulkEntry x + uptoBulkEntries r
def uptoBulkEntry {H : Type} : Lit × DataW H → Nat
  | (.string bytes, d) => bytes.length + uptoBulk d + 1
  | (_, d) => uptoBulk d + 1
 end
def uptoSmall : (H : Type) → List (DataW H) → Bool := fun _ ds => decide (uptoBulkAll ds ≤ 1048576)
def OpenSpec.upto (s : _root_.Go.ChangeSpec) : _root_.Go.OpenSpec := { _root_.Go.OpenSpec.ofChange s with cond := some uptoSmall }

/-- 'laws.FnExactConstants', WHERE WHAT IT READS IS OF BULK AT MOST 1048576: true; the input reads as it did. -/
def fnExactConstantsUptoRow : OpenClaim := { program := "ythanmhcmhmjekaa", sum := "a178e632571e08cc042082276aef90e211c475cc90712cf544957101e71c1601", func := "loop.example/stint/laws.FnExactConstants", spec := "fnExactConstants", apart := false, narrowed := true }
def FnExactConstantsUptoSaid : Prop := fnExactConstantsUptoRow.holds Try.pinned (OpenSpec.upto fnExactConstantsSpec)

/-- 'laws.FnExactMaskOk', WHERE WHAT IT READS IS OF BULK AT MOST 1048576: true; the input reads as it did. -/
def fnExactMaskOkUptoRow : OpenClaim := { program := "ythanmhcmhmjekaa", sum := "a178e632571e08cc042082276aef90e211c475cc90712cf544957101e71c1601", func := "loop.example/stint/laws.FnExactMaskOk", spec := "fnExactMaskOk", apart := false, narrowed := true }
def FnExactMaskOkUptoSaid : Prop := fnExactMaskOkUptoRow.holds Try.pinned (OpenSpec.upto fnExactMaskOkSpec)

/-- 'laws.FnExactMaskHas', WHERE WHAT IT READS IS OF BULK AT MOST 1048576: true; the input reads as it did. -/
def fnExactMaskHasUptoRow : OpenClaim := { program := "ythanmhcmhmjekaa", sum := "a178e632571e08cc042082276aef90e211c475cc90712cf544957101e71c1601", func := "loop.example/stint/laws.FnExactMaskHas", spec := "fnExactMaskHas", apart := false, narrowed := true }
def FnExactMaskHasUptoSaid : Prop := fnExactMaskHasUptoRow.holds Try.pinned (OpenSpec.upto fnExactMaskHasSpec)

/-- 'laws.FnExactDecayTop', WHERE WHAT IT READS IS OF BULK AT MOST 1048576: true; the input reads as it did. -/
def fnExactDecayTopUptoRow : OpenClaim := { program := "ythanmhcmhmjekaa", sum := "a178e632571e08cc042082276aef90e211c475cc90712cf544957101e71c1601", func := "loop.example/stint/laws.FnExactDecayTop", spec := "fnExactDecayTop", apart := false, narrowed := true }
def FnExactDecayTopUptoSaid : Prop := fnExactDecayTopUptoRow.holds Try.pinned (OpenSpec.upto fnExactDecayTopSpec)

/-- 'laws.FnExactWeightOf', WHERE WHAT IT READS IS OF BULK AT MOST 1048576: true; the input reads as it did. -/
def fnExactWeightOfUptoRow : OpenClaim := { program := "ythanmhcmhmjekaa", sum := "a178e632571e08cc042082276aef90e211c475cc90712cf544957101e71c1601", func := "loop.example/stint/laws.FnExactWeightOf", spec := "fnExactWeightOf", apart := false, narrowed := true }
def FnExactWeightOfUptoSaid : Prop := fnExactWeightOfUptoRow.holds Try.pinned (OpenSpec.upto fnExactWeightOfSpec)

/-- 'laws.FnExactDecayBeat', WHERE WHAT IT READS IS OF BULK AT MOST 1048576: true; the input reads as it did. -/
def fnExactDecayBeatUptoRow : OpenClaim := { program := "ythanmhcmhmjekaa", sum := "a178e632571e08cc042082276aef90e211c475cc90712cf544957101e71c1601", func := "loop.example/stint/laws.FnExactDecayBeat", spec := "fnExactDecayBeat", apart := false, narrowed := true }
def FnExactDecayBeatUptoSaid : Prop := fnExactDecayBeatUptoRow.holds Try.pinned (OpenSpec.upto fnExactDecayBeatSpec)

end Rows
end Go.Proofs.Ythanmhcmhmjekaa

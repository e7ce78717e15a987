/-
  No cell of these rows narrows 'for every input' (looked for: loops, veiled, ifaces, maps, wideKeys, modest, calm, conditions, laid).
  DERIVED. THE GIVEN ROWS OF THIS SEAT. 6 by the template 'for every input the law returns true; each argument reads behind the call as it read before'; 0 by the template 'total and deterministic' (their statements: YtbgmjcfnehnicaaTotals.lean).
  GIVEN WITH THE SEED: the statements are not yours to turn. If you find one false, say at which input.
  Laid BY PROGRAM, IN A SANDBOX (cutbox-rows.mjs): the forced cells as the released guide's own fill.sh prints them over the translation ca64c5e7fcf57f59… (all of the seat's roots in one cut). By AI agents, Wed Nov 11 2026. No macro, syntax, notation, axiom, sorry.
-/
import Derived.Test.YtbgmjcfnehnicaaChecked
import GoSem.Claim
import GoSem.ClaimJoined
import GoSem.ClaimMapViews
import Derived.JoinedTies
import Derived.KernelRfl
namespace Go.Proofs.Ytbgmjcfnehnicaa
/- THE CELL 'sum', in the pinned program and in every row, IS THE sha256 OF THE DUMP (.gsa) THAT YtbgmjcfnehnicaaProg.lean LOADS. Nothing in Lean hashes anything: it is a label: what it is worth is what the hold of that sum in a sandbox is worth. -/
noncomputable def Try.pinned : Pinned := { name := "ytbgmjcfnehnicaa", sum := "ca64c5e7fcf57f594a0da9c3b22b954fe36b80db9612990a6ebf204b4d63ae93", checked := Try.checked }
namespace Rows
def none {H : Type} : Left H := { results := [], args := [] }

/-- 'laws.FnExactBandNew': WHATEVER THE INPUT: true; the input reads as it did. -/
def fnExactBandNewSpec : ChangeSpec := { name := "fnExactBandNew", fn := fun _ => fun
  | [d1, d2] => { results := [.lit (.bool true)], args := [d1, d2] }
  | _ => none }
def fnExactBandNewRow : OpenClaim := { program := "ytbgmjcfnehnicaa", sum := "ca64c5e7fcf57f594a0da9c3b22b954fe36b80db9612990a6ebf204b4d63ae93", func := "loop.example/stint/laws.FnExactBandNew", spec := "fnExactBandNew", apart := false }
def FnExactBandNewSaid : Prop := fnExactBandNewRow.holds Try.pinned (OpenSpec.ofChange fnExactBandNewSpec)

/-- ITS FALSE NEIGHBOUR: 'it returns false'. Refute it at one input. -/
def fnExactBandNewWrong : ChangeSpec := { name := "fnExactBandNew", fn := fun _ => fun
  | [d1, d2] => { results := [.lit (.bool false)], args := [d1, d2] }
  | _ => none }
def FnExactBandNewWrongFalsely : Prop := fnExactBandNewRow.holds Try.pinned (OpenSpec.ofChange fnExactBandNewWrong)

/-- 'laws.FnExactBandOk': WHATEVER THE INPUT: true; the input reads as it did. -/
def fnExactBandOkSpec : ChangeSpec := { name := "fnExactBandOk", fn := fun _ => fun
  | [d] => { results := [.lit (.bool true)], args := [d] }
  | _ => none }
def fnExactBandOkRow : OpenClaim := { program := "ytbgmjcfnehnicaa", sum := "ca64c5e7fcf57f594a0da9c3b22b954fe36b80db9612990a6ebf204b4d63ae93", func := "loop.example/stint/laws.FnExactBandOk", spec := "fnExactBandOk", apart := false }
def FnExactBandOkSaid : Prop := fnExactBandOkRow.holds Try.pinned (OpenSpec.ofChange fnExactBandOkSpec)

/-- ITS FALSE NEIGHBOUR: 'it returns false'. Refute it at one input. -/
def fnExactBandOkWrong : ChangeSpec := { name := "fnExactBandOk", fn := fun _ => fun
  | [d] => { results := [.lit (.bool false)], args := [d] }
  | _ => none }
def FnExactBandOkWrongFalsely : Prop := fnExactBandOkRow.holds Try.pinned (OpenSpec.ofChange fnExactBandOkWrong)

/-- 'laws.FnExactBandFree': WHATEVER THE INPUT: true; the input reads as it did. -/
def fnExactBandFreeSpec : ChangeSpec := { name := "fnExactBandFree", fn := fun _ => fun
  | [d1, d2] => { results := [.lit (.bool true)], args := [d1, d2] }
  | _ => none }
def fnExactBandFreeRow : OpenClaim := { program := "ytbgmjcfnehnicaa", sum := "ca64c5e7fcf57f594a0da9c3b22b954fe36b80db9612990a6ebf204b4d63ae93", func := "loop.example/stint/laws.FnExactBandFree", spec := "fnExactBandFree", apart := false }
def FnExactBandFreeSaid : Prop := fnExactBandFreeRow.holds Try.pinned (OpenSpec.ofChange fnExactBandFreeSpec)

/-- ITS FALSE NEIGHBOUR: 'it returns false'. Refute it at one input. -/
def fnExactBandFreeWrong : ChangeSpec := { name := "fnExactBandFree", fn := fun _ => fun
  | [d1, d2] => { results := [.lit (.bool false)], args := [d1, d2] }
  | _ => none }
def FnExactBandFreeWrongFalsely : Prop := fnExactBandFreeRow.holds Try.pinned (OpenSpec.ofChange fnExactBandFreeWrong)

/-- 'laws.FnBandTop': WHATEVER THE INPUT: true; the input reads as it did. -/
def fnBandTopSpec : ChangeSpec := { name := "fnBandTop", fn := fun _ => fun
  | [d] => { results := [.lit (.bool true)], args := [d] }
  | _ => none }
def fnBandTopRow : OpenClaim := { program := "ytbgmjcfnehnicaa", sum := "ca64c5e7fcf57f594a0da9c3b22b954fe36b80db9612990a6ebf204b4d63ae93", func := "loop.example/stint/laws.FnBandTop", spec := "fnBandTop", apart := false }
def FnBandTopSaid : Prop := fnBandTopRow.holds Try.pinned (OpenSpec.ofChange fnBandTopSpec)

/-- ITS FALSE NEIGHBOUR: 'it returns false'. Refute it at one input. -/
def fnBandTopWrong : ChangeSpec := { name := "fnBandTop", fn := fun _ => fun
  | [d] => { results := [.lit (.bool false)], args := [d] }
  | _ => none }
def FnBandTopWrongFalsely : Prop := fnBandTopRow.holds Try.pinned (OpenSpec.ofChange fnBandTopWrong)

/-- 'laws.FnBandFree': WHATEVER THE INPUT: true; the input reads as it did. -/
def fnBandFreeSpec : ChangeSpec := { name := "fnBandFree", fn := fun _ => fun
  | [d] => { results := [.lit (.bool true)], args := [d] }
  | _ => none }
def fnBandFreeRow : OpenClaim := { program := "ytbgmjcfnehnicaa", sum := "ca64c5e7fcf57f594a0da9c3b22b954fe36b80db9612990a6ebf204b4d63ae93", func := "loop.example/stint/laws.FnBandFree", spec := "fnBandFree", apart := false }
def FnBandFreeSaid : Prop := fnBandFreeRow.holds Try.pinned (OpenSpec.ofChange fnBandFreeSpec)

/-- ITS FALSE NEIGHBOUR: 'it returns false'. Refute it at one input. -/
def fnBandFreeWrong : ChangeSpec := { name := "fnBandFree", fn := fun _ => fun
  | [d] => { results := [.lit (.bool false)], args := [d] }
  | _ => none }
def FnBandFreeWrongFalsely : Prop := fnBandFreeRow.holds Try.pinned (OpenSpec.ofChange fnBandFreeWrong)

/-- 'laws.FnExactBandDo': WHATEVER THE INPUT: true; the input reads as it did. -/
def fnExactBandDoSpec : ChangeSpec := { name := "fnExactBandDo", fn := fun _ => fun
  | [d1, d2] => { results := [.lit (.bool true)], args := [d1, d2] }
  | _ => none }
def fnExactBandDoRow : OpenClaim := { program := "ytbgmjcfnehnicaa", sum := "ca64c5e7fcf57f594a0da9c3b22b954fe36b80db9612990a6ebf204b4d63ae93", func := "loop.example/stint/laws.FnExactBandDo", spec := "fnExactBandDo", apart := false }
def FnExactBandDoSaid : Prop := fnExactBandDoRow.holds Try.pinned (OpenSpec.ofChange fnExactBandDoSpec)

/-- ITS FALSE NEIGHBOUR: 'it returns false'. Refute it at one input. -/
def fnExactBandDoWrong : ChangeSpec := { name := "fnExactBandDo", fn := fun _ => fun
  | [d1, d2] => { results := [.lit (.bool false)], args := [d1, d2] }
  | _ => none }
def FnExactBandDoWrongFalsely : Prop := fnExactBandDoRow.holds Try.pinned (OpenSpec.ofChange fnExactBandDoWrong)

/- THE SECOND FORM. 'bulk': how many values and letters a reading holds, each counted each time it is reached (what is shared counts as often as it is met; a slice's spare places count too). A statement '..UptoSaid' is the law's where the arguments, and the package variables that the reading takes, are together of bulk at most 1048576: NARROWER than '..Said'. Prove '..Said' where nothing that the law and all that it calls make is longer than what came in: it says more and counts as full. Else prove '..UptoSaid'. A law counts once. -/
mutual
def uptoBulk {H : Type} : DataW H → Nat
  | .lit (.string bytes) => bytes.length + 1
  | .lit _ => 1
  | .nil => 1
  | .ptr d => uptoBulk d + 1
  | .slice elems spare => uptoBulkAll elems + uptoBulkAll spare + 1
  | .agg parts => uptoBulkAll parts + 1
  | .iface _ d => uptoBulk d + 1
  | .map entries => uptoBulkEntries entries + 1
  | .held _ => 1
def uptoBulkAll {H : Type} : List (DataW H) → Nat
  | [] => 0
  | d :: r => uptoBulk d + uptoBulkAll r
def uptoBulkEntries {H : Type} : List (Lit × DataW H) → Nat
  | [] => 0
  | x :: r => uptoBulkEntry x + uptoBulkEntries r
def uptoBulkEntry {H : Type} : Lit × DataW H → Nat
  | (.string bytes, d) => bytes.length + uptoBulk d + 1
  | (_, d) => uptoBulk d + 1
 end
def uptoSmall : (H : Type) → List (DataW H) → Bool := fun _ ds => decide (uptoBulkAll ds ≤ 1048576)
def OpenSpec.upto (s : _root_.Go.ChangeSpec) : _root_.Go.OpenSpec := { _root_.Go.OpenSpec.ofChange s with cond := some uptoSmall }

/-- 'laws.FnExactBandNew', WHERE WHAT IT READS IS OF BULK AT MOST 1048576: true; the input reads as it did. -/
def fnExactBandNewUptoRow : OpenClaim := { program := "ytbgmjcfnehnicaa", sum := "ca64c5e7fcf57f594a0da9c3b22b954fe36b80db9612990a6ebf204b4d63ae93", func := "loop.example/stint/laws.FnExactBandNew", spec := "fnExactBandNew", apart := false, narrowed := true }
def FnExactBandNewUptoSaid : Prop := fnExactBandNewUptoRow.holds Try.pinned (OpenSpec.upto fnExactBandNewSpec)

/-- 'laws.FnExactBandOk', WHERE WHAT IT READS IS OF BULK AT MOST 1048576: true; the input reads as it did. -/
def fnExactBandOkUptoRow : OpenClaim := { program := "ytbgmjcfnehnicaa", sum := "ca64c5e7fcf57f594a0da9c3b22b954fe36b80db9612990a6ebf204b4d63ae93", func := "loop.example/stint/laws.FnExactBandOk", spec := "fnExactBandOk", apart := false, narrowed := true }
def FnExactBandOkUptoSaid : Prop := fnExactBandOkUptoRow.holds Try.pinned (OpenSpec.upto fnExactBandOkSpec)

/-- 'laws.FnExactBandFree', WHERE WHAT IT READS IS OF BULK AT MOST 1048576: true; the input reads as it did. -/
def fnExactBandFreeUptoRow : OpenClaim := { program := "ytbgmjcfnehnicaa", sum := "ca64c5e7fcf57f594a0da9c3b22b954fe36b80db9612990a6ebf204b4d63ae93", func := "loop.example/stint/laws.FnExactBandFree", spec := "fnExactBandFree", apart := false, narrowed := true }
def FnExactBandFreeUptoSaid : Prop := fnExactBandFreeUptoRow.holds Try.pinned (OpenSpec.upto fnExactBandFreeSpec)

/-- 'laws.FnBandTop', WHERE WHAT IT READS IS OF BULK AT MOST 1048576: true; the input reads as it did. -/
def fnBandTopUptoRow : OpenClaim := { program := "ytbgmjcfnehnicaa", sum := "ca64c5e7fcf57f594a0da9c3b22b954fe36b80db9612990a6ebf204b4d63ae93", func := "loop.example/stint/laws.FnBandTop", spec := "fnBandTop", apart := false, narrowed := true }
def FnBandTopUptoSaid : Prop := fnBandTopUptoRow.holds Try.pinned (OpenSpec.upto fnBandTopSpec)

/-- 'laws.FnBandFree', WHERE WHAT IT READS IS OF BULK AT MOST 1048576: true; the input reads as it did. -/
def fnBandFreeUptoRow : OpenClaim := { program := "ytbgmjcfnehnicaa", sum := "ca64c5e7fcf57f594a0da9c3b22b954fe36b80db9612990a6ebf204b4d63ae93", func := "loop.example/stint/laws.FnBandFree", spec := "fnBandFree", apart := false, narrowed := true }
def FnBandFreeUptoSaid : Prop := fnBandFreeUptoRow.holds Try.pinned (OpenSpec.upto fnBandFreeSpec)

/-- 'laws.FnExactBandDo', WHERE WHAT IT READS IS OF BULK AT MOST 1048576: true; the input reads as it did. -/
def fnExactBandDoUptoRow : OpenClaim := { program := "ytbgmjcfnehnicaa", sum := "ca64c5e7fcf57f594a0da9c3b22b954fe36b80db9612990a6ebf204b4d63ae93", func := "loop.example/stint/laws.FnExactBandDo", spec := "fnExactBandDo", apart := false, narrowed := true }
def FnExactBandDoUptoSaid : Prop := fnExactBandDoUptoRow.holds Try.pinned (OpenSpec.upto fnExactBandDoSpec)

end Rows
end Go.Proofs.Ytbgmjcfnehnicaa

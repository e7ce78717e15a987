/-
  No cell of these rows narrows 'for every input' (looked for: loops, veiled, ifaces, maps, wideKeys, modest, calm, conditions, laid).
  DERIVED. THE GIVEN ROWS OF THIS SEAT. 4 by the template 'for every input the law returns true; each argument reads behind the call as it read before'; 0 by the template 'total and deterministic' (their statements: YtjdlfldeoinbiaaTotals.lean).
  GIVEN WITH THE SEED: the statements are not yours to turn. If you find one false, say at which input.
  Laid BY PROGRAM, IN A SANDBOX (cutbox-rows.mjs): the forced cells as the released guide's own fill.sh prints them over the translation bc4b81569c5a28f2… (all of the seat's roots in one cut). By AI agents, Wed Nov 11 2026. No macro, syntax, notation, axiom, sorry.
-/
import Derived.Test.YtjdlfldeoinbiaaChecked
import GoSem.Claim
import GoSem.ClaimJoined
import GoSem.ClaimMapViews
import Derived.JoinedTies
import Derived.KernelRfl
namespace Go.Proofs.Ytjdlfldeoinbiaa
/- THE CELL 'sum', in the pinned program and in every row, IS THE sha256 OF THE DUMP (.gsa) THAT YtjdlfldeoinbiaaProg.lean LOADS. Nothing in Lean hashes anything: it is a label: what it is worth is what the hold of that sum in a sandbox is worth. -/
noncomputable def Try.pinned : Pinned := { name := "ytjdlfldeoinbiaa", sum := "bc4b81569c5a28f2fe7e3fbb58f8213df365ad26924901d537de9d02e595a86c", checked := Try.checked }
namespace Rows
def none {H : Type} : Left H := { results := [], args := [] }

/-- 'laws.FnExactQueueOk': WHATEVER THE INPUT: true; the input reads as it did. -/
def fnExactQueueOkSpec : ChangeSpec := { name := "fnExactQueueOk", fn := fun _ => fun
  | [d] => { results := [.lit (.bool true)], args := [d] }
  | _ => none }
def fnExactQueueOkRow : OpenClaim := { program := "ytjdlfldeoinbiaa", sum := "bc4b81569c5a28f2fe7e3fbb58f8213df365ad26924901d537de9d02e595a86c", func := "loop.example/stint/laws.FnExactQueueOk", spec := "fnExactQueueOk", apart := false }
def FnExactQueueOkSaid : Prop := fnExactQueueOkRow.holds Try.pinned (OpenSpec.ofChange fnExactQueueOkSpec)

/-- ITS FALSE NEIGHBOUR: 'it returns false'. Refute it at one input. -/
def fnExactQueueOkWrong : ChangeSpec := { name := "fnExactQueueOk", fn := fun _ => fun
  | [d] => { results := [.lit (.bool false)], args := [d] }
  | _ => none }
def FnExactQueueOkWrongFalsely : Prop := fnExactQueueOkRow.holds Try.pinned (OpenSpec.ofChange fnExactQueueOkWrong)

/-- 'laws.FnExactQueueWait': WHATEVER THE INPUT: true; the input reads as it did. -/
def fnExactQueueWaitSpec : ChangeSpec := { name := "fnExactQueueWait", fn := fun _ => fun
  | [d1, d2, d3] => { results := [.lit (.bool true)], args := [d1, d2, d3] }
  | _ => none }
def fnExactQueueWaitRow : OpenClaim := { program := "ytjdlfldeoinbiaa", sum := "bc4b81569c5a28f2fe7e3fbb58f8213df365ad26924901d537de9d02e595a86c", func := "loop.example/stint/laws.FnExactQueueWait", spec := "fnExactQueueWait", apart := false }
def FnExactQueueWaitSaid : Prop := fnExactQueueWaitRow.holds Try.pinned (OpenSpec.ofChange fnExactQueueWaitSpec)

/-- ITS FALSE NEIGHBOUR: 'it returns false'. Refute it at one input. -/
def fnExactQueueWaitWrong : ChangeSpec := { name := "fnExactQueueWait", fn := fun _ => fun
  | [d1, d2, d3] => { results := [.lit (.bool false)], args := [d1, d2, d3] }
  | _ => none }
def FnExactQueueWaitWrongFalsely : Prop := fnExactQueueWaitRow.holds Try.pinned (OpenSpec.ofChange fnExactQueueWaitWrong)

/-- 'laws.FnExactQueueNew': WHATEVER THE INPUT: true; the input reads as it did. -/
def fnExactQueueNewSpec : ChangeSpec := { name := "fnExactQueueNew", fn := fun _ => fun
  | [d] => { results := [.lit (.bool true)], args := [d] }
  | _ => none }
def fnExactQueueNewRow : OpenClaim := { program := "ytjdlfldeoinbiaa", sum := "bc4b81569c5a28f2fe7e3fbb58f8213df365ad26924901d537de9d02e595a86c", func := "loop.example/stint/laws.FnExactQueueNew", spec := "fnExactQueueNew", apart := false }
def FnExactQueueNewSaid : Prop := fnExactQueueNewRow.holds Try.pinned (OpenSpec.ofChange fnExactQueueNewSpec)

/-- ITS FALSE NEIGHBOUR: 'it returns false'. Refute it at one input. -/
def fnExactQueueNewWrong : ChangeSpec := { name := "fnExactQueueNew", fn := fun _ => fun
  | [d] => { results := [.lit (.bool false)], args := [d] }
  | _ => none }
def FnExactQueueNewWrongFalsely : Prop := fnExactQueueNewRow.holds Try.pinned (OpenSpec.ofChange fnExactQueueNewWrong)

/-- 'laws.FnExactQueuePick': WHATEVER THE INPUT: true; the input reads as it did. -/
def fnExactQueuePickSpec : ChangeSpec := { name := "fnExactQueuePick", fn := fun _ => fun
  | [d] => { results := [.lit (.bool true)], args := [d] }
  | _ => none }
def fnExactQueuePickRow : OpenClaim := { program := "ytjdlfldeoinbiaa", sum := "bc4b81569c5a28f2fe7e3fbb58f8213df365ad26924901d537de9d02e595a86c", func := "loop.example/stint/laws.FnExactQueuePick", spec := "fnExactQueuePick", unfollowed := true, recurses := true, apart := false }
def FnExactQueuePickSaid : Prop := fnExactQueuePickRow.holds Try.pinned (OpenSpec.ofChange fnExactQueuePickSpec)

/-- ITS FALSE NEIGHBOUR: 'it returns false'. Refute it at one input. -/
def fnExactQueuePickWrong : ChangeSpec := { name := "fnExactQueuePick", fn := fun _ => fun
  | [d] => { results := [.lit (.bool false)], args := [d] }
  | _ => none }
def FnExactQueuePickWrongFalsely : Prop := fnExactQueuePickRow.holds Try.pinned (OpenSpec.ofChange fnExactQueuePickWrong)

/- THE SECOND FORM. 'bulk': how many values and letters a reading holds, each counted each time it is reached (what is shared counts as often as it is met; a slice's spare places count too). A statement '..UptoSaid' is the law's where the arguments, and the package variables that the reading takes, are together of bulk at most 1048576: NARROWER than '..Said'. Prove '..Said' where nothing that the law and all that it calls make is longer than what came in: it says more and counts as full. Else prove '..UptoSaid'. A law counts once. -/
mutual
def uptoBulk {H : Type} : DataW H → Nat
  | .lit (.string bytes) => bytes.length + 1
  | .lit _ => 1
  | .nil => 1
  | .ptr d => uptoBulk d + 1
  | .slice elems spare => uptoBulkAll elems + uptoBulkAll spare + 1
  | .agg parts => uptoBulkAll parts + 1
  | .iface _ d => uptoBulk d + 1
  | .map entries => uptoBulkEntries entries + 1
  | .held _ => 1
def uptoBulkAll {H : Type} : List (DataW H) → Nat
  | [] => 0
  | d :: r => uptoBulk d + uptoBulkAll r
def uptoBulkEntries {H : Type} : List (Lit × DataW H) → Nat
  | [] => 0
  | x :: r => uptoBulkEntry x + uptoBulkEntries r
def uptoBulkEntry {H : Type} : Lit × DataW H → Nat
  | (.string bytes, d) => bytes.length + uptoBulk d + 1
  | (_, d) => uptoBulk d + 1
 end
def uptoSmall : (H : Type) → List (DataW H) → Bool := fun _ ds => decide (uptoBulkAll ds ≤ 1048576)
def OpenSpec.upto (s : _root_.Go.ChangeSpec) : _root_.Go.OpenSpec := { _root_.Go.OpenSpec.ofChange s with cond := some uptoSmall }

/-- 'laws.FnExactQueueOk', WHERE WHAT IT READS IS OF BULK AT MOST 1048576: true; the input reads as it did. -/
def fnExactQueueOkUptoRow : OpenClaim := { program := "ytjdlfldeoinbiaa", sum := "bc4b81569c5a28f2fe7e3fbb58f8213df365ad26924901d537de9d02e595a86c", func := "loop.example/stint/laws.FnExactQueueOk", spec := "fnExactQueueOk", apart := false, narrowed := true }
def FnExactQueueOkUptoSaid : Prop := fnExactQueueOkUptoRow.holds Try.pinned (OpenSpec.upto fnExactQueueOkSpec)

/-- 'laws.FnExactQueueWait', WHERE WHAT IT READS IS OF BULK AT MOST 1048576: true; the input reads as it did. -/
def fnExactQueueWaitUptoRow : OpenClaim := { program := "ytjdlfldeoinbiaa", sum := "bc4b81569c5a28f2fe7e3fbb58f8213df365ad26924901d537de9d02e595a86c", func := "loop.example/stint/laws.FnExactQueueWait", spec := "fnExactQueueWait", apart := false, narrowed := true }
def FnExactQueueWaitUptoSaid : Prop := fnExactQueueWaitUptoRow.holds Try.pinned (OpenSpec.upto fnExactQueueWaitSpec)

/-- 'laws.FnExactQueueNew', WHERE WHAT IT READS IS OF BULK AT MOST 1048576: true; the input reads as it did. -/
def fnExactQueueNewUptoRow : OpenClaim := { program := "ytjdlfldeoinbiaa", sum := "bc4b81569c5a28f2fe7e3fbb58f8213df365ad26924901d537de9d02e595a86c", func := "loop.example/stint/laws.FnExactQueueNew", spec := "fnExactQueueNew", apart := false, narrowed := true }
def FnExactQueueNewUptoSaid : Prop := fnExactQueueNewUptoRow.holds Try.pinned (OpenSpec.upto fnExactQueueNewSpec)

/-- 'laws.FnExactQueuePick', WHERE WHAT IT READS IS OF BULK AT MOST 1048576: true; the input reads as it did. -/
def fnExactQueuePickUptoRow : OpenClaim := { program := "ytjdlfldeoinbiaa", sum := "bc4b81569c5a28f2fe7e3fbb58f8213df365ad26924901d537de9d02e595a86c", func := "loop.example/stint/laws.FnExactQueuePick", spec := "fnExactQueuePick", unfollowed := true, recurses := true, apart := false, narrowed := true }
def FnExactQueuePickUptoSaid : Prop := fnExactQueuePickUptoRow.holds Try.pinned (OpenSpec.upto fnExactQueuePickSpec)

end Rows
end Go.Proofs.Ytjdlfldeoinbiaa

/-
  No cell of these rows narrows 'for every input' (looked for: loops, veiled, ifaces, maps, wideKeys, modest, calm, conditions, laid).
  DERIVED. THE GIVEN ROWS OF THIS SEAT. 5 by the template 'for every input the law returns true; each argument reads behind the call as it read before'; 0 by the template 'total and deterministic' (their statements: YtclloljigdmdnaaTotals.lean).
  GIVEN WITH THE SEED: the statements are not yours to turn. If you find one false, say at which input.
  Laid BY PROGRAM, IN A SANDBOX (cutbox-rows.mjs): the forced cells as the released guide's own fill.sh prints them over the translation 81338cc59ebf3551… (all of the seat's roots in one cut). By AI agents, Wed Nov 11 2026. No macro, syntax, notation, axiom, sorry.
-/
import Derived.Test.YtclloljigdmdnaaChecked
import GoSem.Claim
import GoSem.ClaimJoined
import GoSem.ClaimMapViews
import Derived.JoinedTies
import Derived.KernelRfl
namespace Go.Proofs.Ytclloljigdmdnaa
/- THE CELL 'sum', in the pinned program and in every row, IS THE sha256 OF THE DUMP (.gsa) THAT YtclloljigdmdnaaProg.lean LOADS. Nothing in Lean hashes anything: it is a label: what it is worth is what the hold of that sum in a sandbox is worth. -/
noncomputable def Try.pinned : Pinned := { name := "ytclloljigdmdnaa", sum := "81338cc59ebf35515cdd487e720464c23c35d901e0867954d274b0c15a3e4445", checked := Try.checked }
namespace Rows
def none {H : Type} : Left H := { results := [], args := [] }

/-- 'laws.FnExactTreeOk': WHATEVER THE INPUT: true; the input reads as it did. -/
def fnExactTreeOkSpec : ChangeSpec := { name := "fnExactTreeOk", fn := fun _ => fun
  | [d] => { results := [.lit (.bool true)], args := [d] }
  | _ => none }
def fnExactTreeOkRow : OpenClaim := { program := "ytclloljigdmdnaa", sum := "81338cc59ebf35515cdd487e720464c23c35d901e0867954d274b0c15a3e4445", func := "loop.example/stint/laws.FnExactTreeOk", spec := "fnExactTreeOk", plainKeys := false, apart := false }
def FnExactTreeOkSaid : Prop := fnExactTreeOkRow.holds Try.pinned (OpenSpec.ofChange fnExactTreeOkSpec)

/-- ITS FALSE NEIGHBOUR: 'it returns false'. Refute it at one input. -/
def fnExactTreeOkWrong : ChangeSpec := { name := "fnExactTreeOk", fn := fun _ => fun
  | [d] => { results := [.lit (.bool false)], args := [d] }
  | _ => none }
def FnExactTreeOkWrongFalsely : Prop := fnExactTreeOkRow.holds Try.pinned (OpenSpec.ofChange fnExactTreeOkWrong)

/-- 'laws.FnExactTreeDepth': WHATEVER THE INPUT: true; the input reads as it did. -/
def fnExactTreeDepthSpec : ChangeSpec := { name := "fnExactTreeDepth", fn := fun _ => fun
  | [d1, d2] => { results := [.lit (.bool true)], args := [d1, d2] }
  | _ => none }
def fnExactTreeDepthRow : OpenClaim := { program := "ytclloljigdmdnaa", sum := "81338cc59ebf35515cdd487e720464c23c35d901e0867954d274b0c15a3e4445", func := "loop.example/stint/laws.FnExactTreeDepth", spec := "fnExactTreeDepth", plainKeys := false, apart := false }
def FnExactTreeDepthSaid : Prop := fnExactTreeDepthRow.holds Try.pinned (OpenSpec.ofChange fnExactTreeDepthSpec)

/-- ITS FALSE NEIGHBOUR: 'it returns false'. Refute it at one input. -/
def fnExactTreeDepthWrong : ChangeSpec := { name := "fnExactTreeDepth", fn := fun _ => fun
  | [d1, d2] => { results := [.lit (.bool false)], args := [d1, d2] }
  | _ => none }
def FnExactTreeDepthWrongFalsely : Prop := fnExactTreeDepthRow.holds Try.pinned (OpenSpec.ofChange fnExactTreeDepthWrong)

/-- 'laws.FnExactTreePath': WHATEVER THE INPUT: true; the input reads as it did. -/
def fnExactTreePathSpec : ChangeSpec := { name := "fnExactTreePath", fn := fun _ => fun
  | [d1, d2] => { results := [.lit (.bool true)], args := [d1, d2] }
  | _ => none }
def fnExactTreePathRow : OpenClaim := { program := "ytclloljigdmdnaa", sum := "81338cc59ebf35515cdd487e720464c23c35d901e0867954d274b0c15a3e4445", func := "loop.example/stint/laws.FnExactTreePath", spec := "fnExactTreePath", recurses := true, plainKeys := false, apart := false }
def FnExactTreePathSaid : Prop := fnExactTreePathRow.holds Try.pinned (OpenSpec.ofChange fnExactTreePathSpec)

/-- ITS FALSE NEIGHBOUR: 'it returns false'. Refute it at one input. -/
def fnExactTreePathWrong : ChangeSpec := { name := "fnExactTreePath", fn := fun _ => fun
  | [d1, d2] => { results := [.lit (.bool false)], args := [d1, d2] }
  | _ => none }
def FnExactTreePathWrongFalsely : Prop := fnExactTreePathRow.holds Try.pinned (OpenSpec.ofChange fnExactTreePathWrong)

/-- 'laws.FnExactTreeFind': WHATEVER THE INPUT: true; the input reads as it did. -/
def fnExactTreeFindSpec : ChangeSpec := { name := "fnExactTreeFind", fn := fun _ => fun
  | [d1, d2] => { results := [.lit (.bool true)], args := [d1, d2] }
  | _ => none }
def fnExactTreeFindRow : OpenClaim := { program := "ytclloljigdmdnaa", sum := "81338cc59ebf35515cdd487e720464c23c35d901e0867954d274b0c15a3e4445", func := "loop.example/stint/laws.FnExactTreeFind", spec := "fnExactTreeFind", recurses := true, plainKeys := false, apart := false }
def FnExactTreeFindSaid : Prop := fnExactTreeFindRow.holds Try.pinned (OpenSpec.ofChange fnExactTreeFindSpec)

/-- ITS FALSE NEIGHBOUR: 'it returns false'. Refute it at one input. -/
def fnExactTreeFindWrong : ChangeSpec := { name := "fnExactTreeFind", fn := fun _ => fun
  | [d1, d2] => { results := [.lit (.bool false)], args := [d1, d2] }
  | _ => none }
def FnExactTreeFindWrongFalsely : Prop := fnExactTreeFindRow.holds Try.pinned (OpenSpec.ofChange fnExactTreeFindWrong)

/-- 'laws.FnExactTreeKids': WHATEVER THE INPUT: true; the input reads as it did. -/
def fnExactTreeKidsSpec : ChangeSpec := { name := "fnExactTreeKids", fn := fun _ => fun
  | [d1, d2] => { results := [.lit (.bool true)], args := [d1, d2] }
  | _ => none }
def fnExactTreeKidsRow : OpenClaim := { program := "ytclloljigdmdnaa", sum := "81338cc59ebf35515cdd487e720464c23c35d901e0867954d274b0c15a3e4445", func := "loop.example/stint/laws.FnExactTreeKids", spec := "fnExactTreeKids", plainKeys := false, apart := false }
def FnExactTreeKidsSaid : Prop := fnExactTreeKidsRow.holds Try.pinned (OpenSpec.ofChange fnExactTreeKidsSpec)

/-- ITS FALSE NEIGHBOUR: 'it returns false'. Refute it at one input. -/
def fnExactTreeKidsWrong : ChangeSpec := { name := "fnExactTreeKids", fn := fun _ => fun
  | [d1, d2] => { results := [.lit (.bool false)], args := [d1, d2] }
  | _ => none }
def FnExactTreeKidsWrongFalsely : Prop := fnExactTreeKidsRow.holds Try.pinned (OpenSpec.ofChange fnExactTreeKidsWrong)

/- THE SECOND FORM. 'bulk': how many values and letters a reading holds, each counted each time it is reached (what is shared counts as often as it is met; a slice's spare places count too). A statement '..UptoSaid' is the law's where the arguments, and the package variables that the reading takes, are together of bulk at most 1048576: NARROWER than '..Said'. Prove '..Said' where nothing that the law and all that it calls make is longer than what came in: it says more and counts as full. Else prove '..UptoSaid'. A law counts once. -/
mutual
def uptoBulk {H : Type} : DataW H → Nat
  | .lit (.string bytes) => bytes.length + 1
  | .lit _ => 1
  | .nil => 1
  | .ptr d => uptoBulk d + 1
  | .slice elems spare => uptoBulkAll elems + uptoBulkAll spare + 1
  | .agg parts => uptoBulkAll parts + 1
  | .iface _ d => uptoBulk d + 1
  | .map entries => uptoBulkEntries entries + 1
  | .held _ => 1
def uptoBulkAll {H : Type} : List (DataW H) → Nat
  | [] => 0
  | d :: r => uptoBulk d + uptoBulkAll r
def uptoBulkEntries {H : Type} : List (Lit × DataW H) → Nat
  | [] => 0
  | x :: r => uptoBulkEntry x + uptoBulkEntries r
def uptoBulkEntry {H : Type} : Lit × DataW H → Nat
  | (.string bytes, d) => bytes.length + uptoBulk d + 1
  | (_, d) => uptoBulk d + 1
 end
def uptoSmall : (H : Type) → List (DataW H) → Bool := fun _ ds => decide (uptoBulkAll ds ≤ 1048576)
def OpenSpec.upto (s : _root_.Go.ChangeSpec) : _root_.Go.OpenSpec := { _root_.Go.OpenSpec.ofChange s with cond := some uptoSmall }

/-- 'laws.FnExactTreeOk', WHERE WHAT IT READS IS OF BULK AT MOST 1048576: true; the input reads as it did. -/
def fnExactTreeOkUptoRow : OpenClaim := { program := "ytclloljigdmdnaa", sum := "81338cc59ebf35515cdd487e720464c23c35d901e0867954d274b0c15a3e4445", func := "loop.example/stint/laws.FnExactTreeOk", spec := "fnExactTreeOk", plainKeys := false, apart := false, narrowed := true }
def FnExactTreeOkUptoSaid : Prop := fnExactTreeOkUptoRow.holds Try.pinned (OpenSpec.upto fnExactTreeOkSpec)

/-- 'laws.FnExactTreeDepth', WHERE WHAT IT READS IS OF BULK AT MOST 1048576: true; the input reads as it did. -/
def fnExactTreeDepthUptoRow : OpenClaim := { program := "ytclloljigdmdnaa", sum := "81338cc59ebf35515cdd487e720464c23c35d901e0867954d274b0c15a3e4445", func := "loop.example/stint/laws.FnExactTreeDepth", spec := "fnExactTreeDepth", plainKeys := false, apart := false, narrowed := true }
def FnExactTreeDepthUptoSaid : Prop := fnExactTreeDepthUptoRow.holds Try.pinned (OpenSpec.upto fnExactTreeDepthSpec)

/-- 'laws.FnExactTreePath', WHERE WHAT IT READS IS OF BULK AT MOST 1048576: true; the input reads as it did. -/
def fnExactTreePathUptoRow : OpenClaim := { program := "ytclloljigdmdnaa", sum := "81338cc59ebf35515cdd487e720464c23c35d901e0867954d274b0c15a3e4445", func := "loop.example/stint/laws.FnExactTreePath", spec := "fnExactTreePath", recurses := true, plainKeys := false, apart := false, narrowed := true }
def FnExactTreePathUptoSaid : Prop := fnExactTreePathUptoRow.holds Try.pinned (OpenSpec.upto fnExactTreePathSpec)

/-- 'laws.FnExactTreeFind', WHERE WHAT IT READS IS OF BULK AT MOST 1048576: true; the input reads as it did. -/
def fnExactTreeFindUptoRow : OpenClaim := { program := "ytclloljigdmdnaa", sum := "81338cc59ebf35515cdd487e720464c23c35d901e0867954d274b0c15a3e4445", func := "loop.example/stint/laws.FnExactTreeFind", spec := "fnExactTreeFind", recurses := true, plainKeys := false, apart := false, narrowed := true }
def FnExactTreeFindUptoSaid : Prop := fnExactTreeFindUptoRow.holds Try.pinned (OpenSpec.upto fnExactTreeFindSpec)

/-- 'laws.FnExactTreeKids', WHERE WHAT IT READS IS OF BULK AT MOST 1048576: true; the input reads as it did. -/
def fnExactTreeKidsUptoRow : OpenClaim := { program := "ytclloljigdmdnaa", sum := "81338cc59ebf35515cdd487e720464c23c35d901e0867954d274b0c15a3e4445", func := "loop.example/stint/laws.FnExactTreeKids", spec := "fnExactTreeKids", plainKeys := false, apart := false, narrowed := true }
def FnExactTreeKidsUptoSaid : Prop := fnExactTreeKidsUptoRow.holds Try.pinned (OpenSpec.upto fnExactTreeKidsSpec)

end Rows
end Go.Proofs.Ytclloljigdmdnaa

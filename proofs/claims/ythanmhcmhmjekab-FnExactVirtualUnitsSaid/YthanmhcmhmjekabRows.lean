/-
  No cell of these rows narrows 'for every input' (looked for: loops, veiled, ifaces, maps, wideKeys, modest, calm, conditions, laid).
  DERIVED. THE GIVEN ROWS OF THIS SEAT. 6 by the template 'for every input the law returns true; each argument reads behind the call as it read before'; 0 by the template 'total and deterministic' (their statements: YthanmhcmhmjekabTotals.lean).
  GIVEN WITH THE SEED: the statements are not yours to turn. If you find one false, say at which input.
  Laid BY PROGRAM, IN A SANDBOX (cutbox-rows.mjs): the forced cells as the released guide's own fill.sh prints them over the translation 3c35bf3e51c518b9… (all of the seat's roots in one cut). By AI agents, Wed Nov 11 2026. No macro, syntax, notation, axiom, sorry.
-/
import Derived.Test.YthanmhcmhmjekabChecked
import GoSem.Claim
import GoSem.ClaimJoined
import GoSem.ClaimMapViews
import Derived.JoinedTies
import Derived.KernelRfl
namespace Go.Proofs.Ythanmhcmhmjekab
/- THE CELL 'sum', in the pinned program and in every row, IS THE sha256 OF THE DUMP (.gsa) THAT YthanmhcmhmjekabProg.lean LOADS. Nothing in Lean hashes anything: it is a label: what it is worth is what the hold of that sum in a sandbox is worth. -/
noncomputable def Try.pinned : Pinned := { name := "ythanmhcmhmjekab", sum := "3c35bf3e51c518b9eedc532fa950d0b318d902aa44c766e5faec620e6cb50c06", checked := Try.checked }
namespace Rows
def none {H : Type} : Left H := { results := [], args := [] }

/-- 'laws.FnExactNiceOf': WHATEVER THE INPUT: true; the input reads as it did. -/
def fnExactNiceOfSpec : ChangeSpec := { name := "fnExactNiceOf", fn := fun _ => fun
  | [d] => { results := [.lit (.bool true)], args := [d] }
  | _ => none }
def fnExactNiceOfRow : OpenClaim := { program := "ythanmhcmhmjekab", sum := "3c35bf3e51c518b9eedc532fa950d0b318d902aa44c766e5faec620e6cb50c06", func := "loop.example/stint/laws.FnExactNiceOf", spec := "fnExactNiceOf", apart := false }
def FnExactNiceOfSaid : Prop := fnExactNiceOfRow.holds Try.pinned (OpenSpec.ofChange fnExactNiceOfSpec)

/-- ITS FALSE NEIGHBOUR: 'it returns false'. Refute it at one input. -/
def fnExactNiceOfWrong : ChangeSpec := { name := "fnExactNiceOf", fn := fun _ => fun
  | [d] => { results := [.lit (.bool false)], args := [d] }
  | _ => none }
def FnExactNiceOfWrongFalsely : Prop := fnExactNiceOfRow.holds Try.pinned (OpenSpec.ofChange fnExactNiceOfWrong)

/-- 'laws.FnExactQueueApart': WHATEVER THE INPUT: true; the input reads as it did. -/
def fnExactQueueApartSpec : ChangeSpec := { name := "fnExactQueueApart", fn := fun _ => fun
  | [d1, d2] => { results := [.lit (.bool true)], args := [d1, d2] }
  | _ => none }
def fnExactQueueApartRow : OpenClaim := { program := "ythanmhcmhmjekab", sum := "3c35bf3e51c518b9eedc532fa950d0b318d902aa44c766e5faec620e6cb50c06", func := "loop.example/stint/laws.FnExactQueueApart", spec := "fnExactQueueApart", apart := false }
def FnExactQueueApartSaid : Prop := fnExactQueueApartRow.holds Try.pinned (OpenSpec.ofChange fnExactQueueApartSpec)

/-- ITS FALSE NEIGHBOUR: 'it returns false'. Refute it at one input. -/
def fnExactQueueApartWrong : ChangeSpec := { name := "fnExactQueueApart", fn := fun _ => fun
  | [d1, d2] => { results := [.lit (.bool false)], args := [d1, d2] }
  | _ => none }
def FnExactQueueApartWrongFalsely : Prop := fnExactQueueApartRow.holds Try.pinned (OpenSpec.ofChange fnExactQueueApartWrong)

/-- 'laws.FnExactDomainLevels': WHATEVER THE INPUT: true; the input reads as it did. -/
def fnExactDomainLevelsSpec : ChangeSpec := { name := "fnExactDomainLevels", fn := fun _ => fun
  | [d] => { results := [.lit (.bool true)], args := [d] }
  | _ => none }
def fnExactDomainLevelsRow : OpenClaim := { program := "ythanmhcmhmjekab", sum := "3c35bf3e51c518b9eedc532fa950d0b318d902aa44c766e5faec620e6cb50c06", func := "loop.example/stint/laws.FnExactDomainLevels", spec := "fnExactDomainLevels", apart := false }
def FnExactDomainLevelsSaid : Prop := fnExactDomainLevelsRow.holds Try.pinned (OpenSpec.ofChange fnExactDomainLevelsSpec)

/-- ITS FALSE NEIGHBOUR: 'it returns false'. Refute it at one input. -/
def fnExactDomainLevelsWrong : ChangeSpec := { name := "fnExactDomainLevels", fn := fun _ => fun
  | [d] => { results := [.lit (.bool false)], args := [d] }
  | _ => none }
def FnExactDomainLevelsWrongFalsely : Prop := fnExactDomainLevelsRow.holds Try.pinned (OpenSpec.ofChange fnExactDomainLevelsWrong)

/-- 'laws.FnExactVirtualStep': WHATEVER THE INPUT: true; the input reads as it did. -/
def fnExactVirtualStepSpec : ChangeSpec := { name := "fnExactVirtualStep", fn := fun _ => fun
  | [d1, d2] => { results := [.lit (.bool true)], args := [d1, d2] }
  | _ => none }
def fnExactVirtualStepRow : OpenClaim := { program := "ythanmhcmhmjekab", sum := "3c35bf3e51c518b9eedc532fa950d0b318d902aa44c766e5faec620e6cb50c06", func := "loop.example/stint/laws.FnExactVirtualStep", spec := "fnExactVirtualStep", apart := false }
def FnExactVirtualStepSaid : Prop := fnExactVirtualStepRow.holds Try.pinned (OpenSpec.ofChange fnExactVirtualStepSpec)

/-- ITS FALSE NEIGHBOUR: 'it returns false'. Refute it at one input. -/
def fnExactVirtualStepWrong : ChangeSpec := { name := "fnExactVirtualStep", fn := fun _ => fun
  | [d1, d2] => { results := [.lit (.bool false)], args := [d1, d2] }
  | _ => none }
def FnExactVirtualStepWrongFalsely : Prop := fnExactVirtualStepRow.holds Try.pinned (OpenSpec.ofChange fnExactVirtualStepWrong)

/-- 'laws.FnExactMaskAnd': WHATEVER THE INPUT: true; the input reads as it did. -/
def fnExactMaskAndSpec : ChangeSpec := { name := "fnExactMaskAnd", fn := fun _ => fun
  | [d1, d2] => { results := [.lit (.bool true)], args := [d1, d2] }
  | _ => none }
def fnExactMaskAndRow : OpenClaim := { program := "ythanmhcmhmjekab", sum := "3c35bf3e51c518b9eedc532fa950d0b318d902aa44c766e5faec620e6cb50c06", func := "loop.example/stint/laws.FnExactMaskAnd", spec := "fnExactMaskAnd", apart := false }
def FnExactMaskAndSaid : Prop := fnExactMaskAndRow.holds Try.pinned (OpenSpec.ofChange fnExactMaskAndSpec)

/-- ITS FALSE NEIGHBOUR: 'it returns false'. Refute it at one input. -/
def fnExactMaskAndWrong : ChangeSpec := { name := "fnExactMaskAnd", fn := fun _ => fun
  | [d1, d2] => { results := [.lit (.bool false)], args := [d1, d2] }
  | _ => none }
def FnExactMaskAndWrongFalsely : Prop := fnExactMaskAndRow.holds Try.pinned (OpenSpec.ofChange fnExactMaskAndWrong)

/-- 'laws.FnExactVirtualUnits': WHATEVER THE INPUT: true; the input reads as it did. -/
def fnExactVirtualUnitsSpec : ChangeSpec := { name := "fnExactVirtualUnits", fn := fun _ => fun
  | [d1, d2] => { results := [.lit (.bool true)], args := [d1, d2] }
  | _ => none }
def fnExactVirtualUnitsRow : OpenClaim := { program := "ythanmhcmhmjekab", sum := "3c35bf3e51c518b9eedc532fa950d0b318d902aa44c766e5faec620e6cb50c06", func := "loop.example/stint/laws.FnExactVirtualUnits", spec := "fnExactVirtualUnits", apart := false }
def FnExactVirtualUnitsSaid : Prop := fnExactVirtualUnitsRow.holds Try.pinned (OpenSpec.ofChange fnExactVirtualUnitsSpec)

/-- ITS FALSE NEIGHBOUR: 'it returns false'. Refute it at one input. -/
def fnExactVirtualUnitsWrong : ChangeSpec := { name := "fnExactVirtualUnits", fn := fun _ => fun
  | [d1, d2] => { results := [.lit (.bool false)], args := [d1, d2] }
  | _ => none }
def FnExactVirtualUnitsWrongFalsely : Prop := fnExactVirtualUnitsRow.holds Try.pinned (OpenSpec.ofChange fnExactVirtualUnitsWrong)

/- THE SECOND FORM. 'bulk': how many values and letters a reading holds, each counted each time it is reached (what is shared counts as often as it is met; a slice's spare places count too). A statement '..UptoSaid' is the law's where the arguments, and the package variables that the reading takes, are together of bulk at most 1048576: NARROWER than '..Said'. Prove '..Said' where nothing that the law and all that it calls make is longer than what came in: it says more and counts as full. Else prove '..UptoSaid'. A law counts once. -/
mutual
def uptoBulk {H : Type} : DataW H → Nat
  | .lit (.string bytes) => bytes.length + 1
  | .lit _ => 1
  | .nil => 1
  | .ptr d => uptoBulk d + 1
  | .slice elems spare => uptoBulkAll elems + uptoBulkAll spare + 1
  | .agg parts => uptoBulkAll parts + 1
  | .iface _ d => uptoBulk d + 1
  | .map entries => uptoBulkEntries entries + 1
  | .held _ => 1
def uptoBulkAll {H : Type} : List (DataW H) → Nat
  | [] => 0
  | d :: r => uptoBulk d + uptoBulkAll r
def uptoBulkEntries {H : Type} : List (Lit × DataW H) → Nat
  | [] => 0
  | x :: r => uptoBulkEntry x + uptoBulkEntries r
def uptoBulkEntry {H : Type} : Lit × DataW H → Nat
  | (.string bytes, d) => bytes.length + uptoBulk d + 1
  | (_, d) => uptoBulk d + 1
 end
def uptoSmall : (H : Type) → List (DataW H) → Bool := fun _ ds => decide (uptoBulkAll ds ≤ 1048576)
def OpenSpec.upto (s : _root_.Go.ChangeSpec) : _root_.Go.OpenSpec := { _root_.Go.OpenSpec.ofChange s with cond := some uptoSmall }

/-- 'laws.FnExactNiceOf', WHERE WHAT IT READS IS OF BULK AT MOST 1048576: true; the input reads as it did. -/
def fnExactNiceOfUptoRow : OpenClaim := { program := "ythanmhcmhmjekab", sum := "3c35bf3e51c518b9eedc532fa950d0b318d902aa44c766e5faec620e6cb50c06", func := "loop.example/stint/laws.FnExactNiceOf", spec := "fnExactNiceOf", apart := false, narrowed := true }
def FnExactNiceOfUptoSaid : Prop := fnExactNiceOfUptoRow.holds Try.pinned (OpenSpec.upto fnExactNiceOfSpec)

/-- 'laws.FnExactQueueApart', WHERE WHAT IT READS IS OF BULK AT MOST 1048576: true; the input reads as it did. -/
def fnExactQueueApartUptoRow : OpenClaim := { program := "ythanmhcmhmjekab", sum := "3c35bf3e51c518b9eedc532fa950d0b318d902aa44c766e5faec620e6cb50c06", func := "loop.example/stint/laws.FnExactQueueApart", spec := "fnExactQueueApart", apart := false, narrowed := true }
def FnExactQueueApartUptoSaid : Prop := fnExactQueueApartUptoRow.holds Try.pinned (OpenSpec.upto fnExactQueueApartSpec)

/-- 'laws.FnExactDomainLevels', WHERE WHAT IT READS IS OF BULK AT MOST 1048576: true; the input reads as it did. -/
def fnExactDomainLevelsUptoRow : OpenClaim := { program := "ythanmhcmhmjekab", sum := "3c35bf3e51c518b9eedc532fa950d0b318d902aa44c766e5faec620e6cb50c06", func := "loop.example/stint/laws.FnExactDomainLevels", spec := "fnExactDomainLevels", apart := false, narrowed := true }
def FnExactDomainLevelsUptoSaid : Prop := fnExactDomainLevelsUptoRow.holds Try.pinned (OpenSpec.upto fnExactDomainLevelsSpec)

/-- 'laws.FnExactVirtualStep', WHERE WHAT IT READS IS OF BULK AT MOST 1048576: true; the input reads as it did. -/
def fnExactVirtualStepUptoRow : OpenClaim := { program := "ythanmhcmhmjekab", sum := "3c35bf3e51c518b9eedc532fa950d0b318d902aa44c766e5faec620e6cb50c06", func := "loop.example/stint/laws.FnExactVirtualStep", spec := "fnExactVirtualStep", apart := false, narrowed := true }
def FnExactVirtualStepUptoSaid : Prop := fnExactVirtualStepUptoRow.holds Try.pinned (OpenSpec.upto fnExactVirtualStepSpec)

/-- 'laws.FnExactMaskAnd', WHERE WHAT IT READS IS OF BULK AT MOST 1048576: true; the input reads as it did. -/
def fnExactMaskAndUptoRow : OpenClaim := { program := "ythanmhcmhmjekab", sum := "3c35bf3e51c518b9eedc532fa950d0b318d902aa44c766e5faec620e6cb50c06", func := "loop.example/stint/laws.FnExactMaskAnd", spec := "fnExactMaskAnd", apart := false, narrowed := true }
def FnExactMaskAndUptoSaid : Prop := fnExactMaskAndUptoRow.holds Try.pinned (OpenSpec.upto fnExactMaskAndSpec)

/-- 'laws.FnExactVirtualUnits', WHERE WHAT IT READS IS OF BULK AT MOST 1048576: true; the input reads as it did. -/
def fnExactVirtualUnitsUptoRow : OpenClaim := { program := "ythanmhcmhmjekab", sum := "3c35bf3e51c518b9eedc532fa950d0b318d902aa44c766e5faec620e6cb50c06", func := "loop.example/stint/laws.FnExactVirtualUnits", spec := "fnExactVirtualUnits", apart := false, narrowed := true }
def FnExactVirtualUnitsUptoSaid : Prop := fnExactVirtualUnitsUptoRow.holds Try.pinned (OpenSpec.upto fnExactVirtualUnitsSpec)

end Rows
end Go.Proofs.Ythanmhcmhmjekab

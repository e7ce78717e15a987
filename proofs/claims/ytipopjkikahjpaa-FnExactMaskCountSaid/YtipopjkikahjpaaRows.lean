/-
  No cell of these rows narrows 'for every input' (looked for: loops, veiled, ifaces, maps, wideKeys, modest, calm, conditions, laid).
  DERIVED. THE GIVEN ROWS OF THIS SEAT. 6 by the template 'for every input the law returns true; each argument reads behind the call as it read before'; 0 by the template 'total and deterministic' (their statements: YtipopjkikahjpaaTotals.lean).
  GIVEN WITH THE SEED: the statements are not yours to turn. If you find one false, say at which input.
  Laid BY PROGRAM, IN A SANDBOX (cutbox-rows.mjs): the forced cells as the released guide's own fill.sh prints them over the translation 664fa43a70371cd2… (all of the seat's roots in one cut). By AI agents, Wed Nov 11 2026. No macro, syntax, notation, axiom, sorry.
-/
import Derived.Test.YtipopjkikahjpaaChecked
import GoSem.Claim
import GoSem.ClaimJoined
import GoSem.ClaimMapViews
import Derived.JoinedTies
import Derived.KernelRfl
namespace Go.Proofs.Ytipopjkikahjpaa
/- THE CELL 'sum', in the pinned program and in every row, IS THE sha256 OF THE DUMP (.gsa) THAT YtipopjkikahjpaaProg.lean LOADS. Nothing in Lean hashes anything: it is a label: what it is worth is what the hold of that sum in a sandbox is worth. -/
noncomputable def Try.pinned : Pinned := { name := "ytipopjkikahjpaa", sum := "664fa43a70371cd27c922db8a2b002c304878c750b210fff9a557e980f0a934f", checked := Try.checked }
namespace Rows
def none {H : Type} : Left H := { results := [], args := [] }

/-- 'laws.FnExactLagMost': WHATEVER THE INPUT: true; the input reads as it did. -/
def fnExactLagMostSpec : ChangeSpec := { name := "fnExactLagMost", fn := fun _ => fun
  | [d] => { results := [.lit (.bool true)], args := [d] }
  | _ => none }
def fnExactLagMostRow : OpenClaim := { program := "ytipopjkikahjpaa", sum := "664fa43a70371cd27c922db8a2b002c304878c750b210fff9a557e980f0a934f", func := "loop.example/stint/laws.FnExactLagMost", spec := "fnExactLagMost", apart := false }
def FnExactLagMostSaid : Prop := fnExactLagMostRow.holds Try.pinned (OpenSpec.ofChange fnExactLagMostSpec)

/-- ITS FALSE NEIGHBOUR: 'it returns false'. Refute it at one input. -/
def fnExactLagMostWrong : ChangeSpec := { name := "fnExactLagMost", fn := fun _ => fun
  | [d] => { results := [.lit (.bool false)], args := [d] }
  | _ => none }
def FnExactLagMostWrongFalsely : Prop := fnExactLagMostRow.holds Try.pinned (OpenSpec.ofChange fnExactLagMostWrong)

/-- 'laws.FnExactNameOk': WHATEVER THE INPUT: true; the input reads as it did. -/
def fnExactNameOkSpec : ChangeSpec := { name := "fnExactNameOk", fn := fun _ => fun
  | [d] => { results := [.lit (.bool true)], args := [d] }
  | _ => none }
def fnExactNameOkRow : OpenClaim := { program := "ytipopjkikahjpaa", sum := "664fa43a70371cd27c922db8a2b002c304878c750b210fff9a557e980f0a934f", func := "loop.example/stint/laws.FnExactNameOk", spec := "fnExactNameOk", apart := false }
def FnExactNameOkSaid : Prop := fnExactNameOkRow.holds Try.pinned (OpenSpec.ofChange fnExactNameOkSpec)

/-- ITS FALSE NEIGHBOUR: 'it returns false'. Refute it at one input. -/
def fnExactNameOkWrong : ChangeSpec := { name := "fnExactNameOk", fn := fun _ => fun
  | [d] => { results := [.lit (.bool false)], args := [d] }
  | _ => none }
def FnExactNameOkWrongFalsely : Prop := fnExactNameOkRow.holds Try.pinned (OpenSpec.ofChange fnExactNameOkWrong)

/-- 'laws.FnExactMaskFirst': WHATEVER THE INPUT: true; the input reads as it did. -/
def fnExactMaskFirstSpec : ChangeSpec := { name := "fnExactMaskFirst", fn := fun _ => fun
  | [d] => { results := [.lit (.bool true)], args := [d] }
  | _ => none }
def fnExactMaskFirstRow : OpenClaim := { program := "ytipopjkikahjpaa", sum := "664fa43a70371cd27c922db8a2b002c304878c750b210fff9a557e980f0a934f", func := "loop.example/stint/laws.FnExactMaskFirst", spec := "fnExactMaskFirst", unfollowed := true, recurses := true, apart := false }
def FnExactMaskFirstSaid : Prop := fnExactMaskFirstRow.holds Try.pinned (OpenSpec.ofChange fnExactMaskFirstSpec)

/-- ITS FALSE NEIGHBOUR: 'it returns false'. Refute it at one input. -/
def fnExactMaskFirstWrong : ChangeSpec := { name := "fnExactMaskFirst", fn := fun _ => fun
  | [d] => { results := [.lit (.bool false)], args := [d] }
  | _ => none }
def FnExactMaskFirstWrongFalsely : Prop := fnExactMaskFirstRow.holds Try.pinned (OpenSpec.ofChange fnExactMaskFirstWrong)

/-- 'laws.FnExactDecayBeats': WHATEVER THE INPUT: true; the input reads as it did. -/
def fnExactDecayBeatsSpec : ChangeSpec := { name := "fnExactDecayBeats", fn := fun _ => fun
  | [d1, d2, d3] => { results := [.lit (.bool true)], args := [d1, d2, d3] }
  | _ => none }
def fnExactDecayBeatsRow : OpenClaim := { program := "ytipopjkikahjpaa", sum := "664fa43a70371cd27c922db8a2b002c304878c750b210fff9a557e980f0a934f", func := "loop.example/stint/laws.FnExactDecayBeats", spec := "fnExactDecayBeats", apart := false }
def FnExactDecayBeatsSaid : Prop := fnExactDecayBeatsRow.holds Try.pinned (OpenSpec.ofChange fnExactDecayBeatsSpec)

/-- ITS FALSE NEIGHBOUR: 'it returns false'. Refute it at one input. -/
def fnExactDecayBeatsWrong : ChangeSpec := { name := "fnExactDecayBeats", fn := fun _ => fun
  | [d1, d2, d3] => { results := [.lit (.bool false)], args := [d1, d2, d3] }
  | _ => none }
def FnExactDecayBeatsWrongFalsely : Prop := fnExactDecayBeatsRow.holds Try.pinned (OpenSpec.ofChange fnExactDecayBeatsWrong)

/-- 'laws.FnExactMaskCount': WHATEVER THE INPUT: true; the input reads as it did. -/
def fnExactMaskCountSpec : ChangeSpec := { name := "fnExactMaskCount", fn := fun _ => fun
  | [d] => { results := [.lit (.bool true)], args := [d] }
  | _ => none }
def fnExactMaskCountRow : OpenClaim := { program := "ytipopjkikahjpaa", sum := "664fa43a70371cd27c922db8a2b002c304878c750b210fff9a557e980f0a934f", func := "loop.example/stint/laws.FnExactMaskCount", spec := "fnExactMaskCount", unfollowed := true, recurses := true, apart := false }
def FnExactMaskCountSaid : Prop := fnExactMaskCountRow.holds Try.pinned (OpenSpec.ofChange fnExactMaskCountSpec)

/-- ITS FALSE NEIGHBOUR: 'it returns false'. Refute it at one input. -/
def fnExactMaskCountWrong : ChangeSpec := { name := "fnExactMaskCount", fn := fun _ => fun
  | [d] => { results := [.lit (.bool false)], args := [d] }
  | _ => none }
def FnExactMaskCountWrongFalsely : Prop := fnExactMaskCountRow.holds Try.pinned (OpenSpec.ofChange fnExactMaskCountWrong)

/-- 'laws.FnExactLagCut': WHATEVER THE INPUT: true; the input reads as it did. -/
def fnExactLagCutSpec : ChangeSpec := { name := "fnExactLagCut", fn := fun _ => fun
  | [d1, d2] => { results := [.lit (.bool true)], args := [d1, d2] }
  | _ => none }
def fnExactLagCutRow : OpenClaim := { program := "ytipopjkikahjpaa", sum := "664fa43a70371cd27c922db8a2b002c304878c750b210fff9a557e980f0a934f", func := "loop.example/stint/laws.FnExactLagCut", spec := "fnExactLagCut", apart := false }
def FnExactLagCutSaid : Prop := fnExactLagCutRow.holds Try.pinned (OpenSpec.ofChange fnExactLagCutSpec)

/-- ITS FALSE NEIGHBOUR: 'it returns false'. Refute it at one input. -/
def fnExactLagCutWrong : ChangeSpec := { name := "fnExactLagCut", fn := fun _ => fun
  | [d1, d2] => { results := [.lit (.bool false)], args := [d1, d2] }
  | _ => none }
def FnExactLagCutWrongFalsely : Prop := fnExactLagCutRow.holds Try.pinned (OpenSpec.ofChange fnExactLagCutWrong)

/- THE SECOND FORM. 'bulk': how many values and letters a reading holds, each counted each time it is reached (what is shared counts as often as it is met; a slice's spare places count too). A statement '..UptoSaid' is the law's where the arguments, and the package variables that the reading takes, are together of bulk at most 1048576: NARROWER than '..Said'. Prove '..Said' where nothing that the law and all that it calls make is longer than what came in: it says more and counts as full. Else prove '..UptoSaid'. A law counts once. -/
mutual
def uptoBulk {H : Type} : DataW H → Nat
  | .lit (.string bytes) => bytes.length + 1
  | .lit _ => 1
  | .nil => 1
  | .ptr d => uptoBulk d + 1
  | .slice elems spare => uptoBulkAll elems + uptoBulkAll spare + 1
  | .agg parts => uptoBulkAll parts + 1
  | .iface _ d => uptoBulk d + 1
  | .map entries => uptoBulkEntries entries + 1
  | .held _ => 1
def uptoBulkAll {H : Type} : List (DataW H) → Nat
  | [] => 0
  | d :: r => uptoBulk d + uptoBulkAll r
def uptoBulkEntries {H : Type} : List (Lit × DataW H) → Nat
  | [] => 0
  | x :: r => uptoBulkEntry x + uptoBulkEntries r
def uptoBulkEntry {H : Type} : Lit × DataW H → Nat
  | (.string bytes, d) => bytes.length + uptoBulk d + 1
  | (_, d) => uptoBulk d + 1
 end
def uptoSmall : (H : Type) → List (DataW H) → Bool := fun _ ds => decide (uptoBulkAll ds ≤ 1048576)
def OpenSpec.upto (s : _root_.Go.ChangeSpec) : _root_.Go.OpenSpec := { _root_.Go.OpenSpec.ofChange s with cond := some uptoSmall }

/-- 'laws.FnExactLagMost', WHERE WHAT IT READS IS OF BULK AT MOST 1048576: true; the input reads as it did. -/
def fnExactLagMostUptoRow : OpenClaim := { program := "ytipopjkikahjpaa", sum := "664fa43a70371cd27c922db8a2b002c304878c750b210fff9a557e980f0a934f", func := "loop.example/stint/laws.FnExactLagMost", spec := "fnExactLagMost", apart := false, narrowed := true }
def FnExactLagMostUptoSaid : Prop := fnExactLagMostUptoRow.holds Try.pinned (OpenSpec.upto fnExactLagMostSpec)

/-- 'laws.FnExactNameOk', WHERE WHAT IT READS IS OF BULK AT MOST 1048576: true; the input reads as it did. -/
def fnExactNameOkUptoRow : OpenClaim := { program := "ytipopjkikahjpaa", sum := "664fa43a70371cd27c922db8a2b002c304878c750b210fff9a557e980f0a934f", func := "loop.example/stint/laws.FnExactNameOk", spec := "fnExactNameOk", apart := false, narrowed := true }
def FnExactNameOkUptoSaid : Prop := fnExactNameOkUptoRow.holds Try.pinned (OpenSpec.upto fnExactNameOkSpec)

/-- 'laws.FnExactMaskFirst', WHERE WHAT IT READS IS OF BULK AT MOST 1048576: true; the input reads as it did. -/
def fnExactMaskFirstUptoRow : OpenClaim := { program := "ytipopjkikahjpaa", sum := "664fa43a70371cd27c922db8a2b002c304878c750b210fff9a557e980f0a934f", func := "loop.example/stint/laws.FnExactMaskFirst", spec := "fnExactMaskFirst", unfollowed := true, recurses := true, apart := false, narrowed := true }
def FnExactMaskFirstUptoSaid : Prop := fnExactMaskFirstUptoRow.holds Try.pinned (OpenSpec.upto fnExactMaskFirstSpec)

/-- 'laws.FnExactDecayBeats', WHERE WHAT IT READS IS OF BULK AT MOST 1048576: true; the input reads as it did. -/
def fnExactDecayBeatsUptoRow : OpenClaim := { program := "ytipopjkikahjpaa", sum := "664fa43a70371cd27c922db8a2b002c304878c750b210fff9a557e980f0a934f", func := "loop.example/stint/laws.FnExactDecayBeats", spec := "fnExactDecayBeats", apart := false, narrowed := true }
def FnExactDecayBeatsUptoSaid : Prop := fnExactDecayBeatsUptoRow.holds Try.pinned (OpenSpec.upto fnExactDecayBeatsSpec)

/-- 'laws.FnExactMaskCount', WHERE WHAT IT READS IS OF BULK AT MOST 1048576: true; the input reads as it did. -/
def fnExactMaskCountUptoRow : OpenClaim := { program := "ytipopjkikahjpaa", sum := "664fa43a70371cd27c922db8a2b002c304878c750b210fff9a557e980f0a934f", func := "loop.example/stint/laws.FnExactMaskCount", spec := "fnExactMaskCount", unfollowed := true, recurses := true, apart := false, narrowed := true }
def FnExactMaskCountUptoSaid : Prop := fnExactMaskCountUptoRow.holds Try.pinned (OpenSpec.upto fnExactMaskCountSpec)

/-- 'laws.FnExactLagCut', WHERE WHAT IT READS IS OF BULK AT MOST 1048576: true; the input reads as it did. -/
def fnExactLagCutUptoRow : OpenClaim := { program := "ytipopjkikahjpaa", sum := "664fa43a70371cd27c922db8a2b002c304878c750b210fff9a557e980f0a934f", func := "loop.example/stint/laws.FnExactLagCut", spec := "fnExactLagCut", apart := false, narrowed := true }
def FnExactLagCutUptoSaid : Prop := fnExactLagCutUptoRow.holds Try.pinned (OpenSpec.upto fnExactLagCutSpec)

end Rows
end Go.Proofs.Ytipopjkikahjpaa

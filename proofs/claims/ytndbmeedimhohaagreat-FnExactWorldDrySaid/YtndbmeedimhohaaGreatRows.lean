/-
  No cell of these rows narrows 'for every input' (looked for: loops, veiled, ifaces, maps, wideKeys, modest, calm, conditions, laid).
  DERIVED. THE GIVEN ROWS OF THIS SEAT. 5 by the template 'for every input the law returns true; each argument reads behind the call as it read before'; 0 by the template 'total and deterministic' (their statements: YtndbmeedimhohaaGreatTotals.lean).
  GIVEN WITH THE SEED: the statements are not yours to turn. If you find one false, say at which input.
  Laid BY PROGRAM, IN A SANDBOX (cutbox-rows.mjs): the forced cells as the released guide's own fill.sh prints them over the translation bf79ce478af0193f… (all of the seat's roots in one cut). By AI agents, Wed Nov 11 2026. No macro, syntax, notation, axiom, sorry.
-/
import Derived.Test.YtndbmeedimhohaaGreatChecked
import GoSem.Claim
import GoSem.ClaimJoined
import GoSem.ClaimMapViews
import Derived.JoinedTies
import Derived.KernelRfl
namespace Go.Proofs.YtndbmeedimhohaaGreat
/- THE CELL 'sum', in the pinned program and in every row, IS THE sha256 OF THE DUMP (.gsa) THAT YtndbmeedimhohaaGreatProg.lean LOADS. Nothing in Lean hashes anything: it is a label: what it is worth is what the hold of that sum in a sandbox is worth. -/
noncomputable def Tryz.pinned : Pinned := { name := "ytndbmeedimhohaagreat", sum := "bf79ce478af0193f9bbe8d21264512f425b71fa40dc6fd1478686dba6fff9680", checked := Tryz.checked }
namespace Rows
def none {H : Type} : Left H := { results := [], args := [] }

/-- 'laws.FnExactWorldLine': WHATEVER THE INPUT: true; the input reads as it did. -/
def fnExactWorldLineSpec : ChangeSpec := { name := "fnExactWorldLine", fn := fun _ => fun
  | [d1, d2] => { results := [.lit (.bool true)], args := [d1, d2] }
  | _ => none }
def fnExactWorldLineRow : OpenClaim := { program := "ytndbmeedimhohaagreat", sum := "bf79ce478af0193f9bbe8d21264512f425b71fa40dc6fd1478686dba6fff9680", func := "loop.example/stint/laws.FnExactWorldLine", spec := "fnExactWorldLine", unfollowed := true, recurses := true, plainKeys := false, apart := false }
def FnExactWorldLineSaid : Prop := fnExactWorldLineRow.holds Tryz.pinned (OpenSpec.ofChange fnExactWorldLineSpec)

/-- ITS FALSE NEIGHBOUR: 'it returns false'. Refute it at one input. -/
def fnExactWorldLineWrong : ChangeSpec := { name := "fnExactWorldLine", fn := fun _ => fun
  | [d1, d2] => { results := [.lit (.bool false)], args := [d1, d2] }
  | _ => none }
def FnExactWorldLineWrongFalsely : Prop := fnExactWorldLineRow.holds Tryz.pinned (OpenSpec.ofChange fnExactWorldLineWrong)

/-- 'laws.FnExactWorldMask': WHATEVER THE INPUT: true; the input reads as it did. -/
def fnExactWorldMaskSpec : ChangeSpec := { name := "fnExactWorldMask", fn := fun _ => fun
  | [d1, d2] => { results := [.lit (.bool true)], args := [d1, d2] }
  | _ => none }
def fnExactWorldMaskRow : OpenClaim := { program := "ytndbmeedimhohaagreat", sum := "bf79ce478af0193f9bbe8d21264512f425b71fa40dc6fd1478686dba6fff9680", func := "loop.example/stint/laws.FnExactWorldMask", spec := "fnExactWorldMask", unfollowed := true, recurses := true, plainKeys := false, apart := false }
def FnExactWorldMaskSaid : Prop := fnExactWorldMaskRow.holds Tryz.pinned (OpenSpec.ofChange fnExactWorldMaskSpec)

/-- ITS FALSE NEIGHBOUR: 'it returns false'. Refute it at one input. -/
def fnExactWorldMaskWrong : ChangeSpec := { name := "fnExactWorldMask", fn := fun _ => fun
  | [d1, d2] => { results := [.lit (.bool false)], args := [d1, d2] }
  | _ => none }
def FnExactWorldMaskWrongFalsely : Prop := fnExactWorldMaskRow.holds Tryz.pinned (OpenSpec.ofChange fnExactWorldMaskWrong)

/-- 'laws.FnExactWorldRoom': WHATEVER THE INPUT: true; the input reads as it did. -/
def fnExactWorldRoomSpec : ChangeSpec := { name := "fnExactWorldRoom", fn := fun _ => fun
  | [d] => { results := [.lit (.bool true)], args := [d] }
  | _ => none }
def fnExactWorldRoomRow : OpenClaim := { program := "ytndbmeedimhohaagreat", sum := "bf79ce478af0193f9bbe8d21264512f425b71fa40dc6fd1478686dba6fff9680", func := "loop.example/stint/laws.FnExactWorldRoom", spec := "fnExactWorldRoom", unfollowed := true, recurses := true, plainKeys := false, apart := false }
def FnExactWorldRoomSaid : Prop := fnExactWorldRoomRow.holds Tryz.pinned (OpenSpec.ofChange fnExactWorldRoomSpec)

/-- ITS FALSE NEIGHBOUR: 'it returns false'. Refute it at one input. -/
def fnExactWorldRoomWrong : ChangeSpec := { name := "fnExactWorldRoom", fn := fun _ => fun
  | [d] => { results := [.lit (.bool false)], args := [d] }
  | _ => none }
def FnExactWorldRoomWrongFalsely : Prop := fnExactWorldRoomRow.holds Tryz.pinned (OpenSpec.ofChange fnExactWorldRoomWrong)

/-- 'laws.FnExactWorldOk': WHATEVER THE INPUT: true; the input reads as it did. -/
def fnExactWorldOkSpec : ChangeSpec := { name := "fnExactWorldOk", fn := fun _ => fun
  | [d] => { results := [.lit (.bool true)], args := [d] }
  | _ => none }
def fnExactWorldOkRow : OpenClaim := { program := "ytndbmeedimhohaagreat", sum := "bf79ce478af0193f9bbe8d21264512f425b71fa40dc6fd1478686dba6fff9680", func := "loop.example/stint/laws.FnExactWorldOk", spec := "fnExactWorldOk", unfollowed := true, recurses := true, plainKeys := false, apart := false }
def FnExactWorldOkSaid : Prop := fnExactWorldOkRow.holds Tryz.pinned (OpenSpec.ofChange fnExactWorldOkSpec)

/-- ITS FALSE NEIGHBOUR: 'it returns false'. Refute it at one input. -/
def fnExactWorldOkWrong : ChangeSpec := { name := "fnExactWorldOk", fn := fun _ => fun
  | [d] => { results := [.lit (.bool false)], args := [d] }
  | _ => none }
def FnExactWorldOkWrongFalsely : Prop := fnExactWorldOkRow.holds Tryz.pinned (OpenSpec.ofChange fnExactWorldOkWrong)

/-- 'laws.FnExactWorldDry': WHATEVER THE INPUT: true; the input reads as it did. -/
def fnExactWorldDrySpec : ChangeSpec := { name := "fnExactWorldDry", fn := fun _ => fun
  | [d1, d2, d3] => { results := [.lit (.bool true)], args := [d1, d2, d3] }
  | _ => none }
def fnExactWorldDryRow : OpenClaim := { program := "ytndbmeedimhohaagreat", sum := "bf79ce478af0193f9bbe8d21264512f425b71fa40dc6fd1478686dba6fff9680", func := "loop.example/stint/laws.FnExactWorldDry", spec := "fnExactWorldDry", unfollowed := true, recurses := true, plainKeys := false, apart := false }
def FnExactWorldDrySaid : Prop := fnExactWorldDryRow.holds Tryz.pinned (OpenSpec.ofChange fnExactWorldDrySpec)

/-- ITS FALSE NEIGHBOUR: 'it returns false'. Refute it at one input. -/
def fnExactWorldDryWrong : ChangeSpec := { name := "fnExactWorldDry", fn := fun _ => fun
  | [d1, d2, d3] => { results := [.lit (.bool false)], args := [d1, d2, d3] }
  | _ => none }
def FnExactWorldDryWrongFalsely : Prop := fnExactWorldDryRow.holds Tryz.pinned (OpenSpec.ofChange fnExactWorldDryWrong)

/- THE SECOND FORM. 'bulk': how many values and letters a reading holds, each counted each time it is reached (what is shared counts as often as it is met; a slice's spare places count too). A statement '..UptoSaid' is the law's where the arguments, and the package variables that the reading takes, are together of bulk at most 1048576: NARROWER than '..Said'. Prove '..Said' where nothing that the law and all that it calls make is longer than what came in: it says more and counts as full. Else prove '..UptoSaid'. A law counts once. -/
mutual
def uptoBulk {H : Type} : DataW H → Nat
  | .lit (.string bytes) => bytes.length + 1
  | .lit _ => 1
  | .nil => 1
  | .ptr d => uptoBulk d + 1
  | .slice elems spare => uptoBulkAll elems + uptoBulkAll spare + 1
  | .agg parts => uptoBulkAll parts + 1
  | .iface _ d => uptoBulk d + 1
  | .map entries => uptoBulkEntries entries + 1
  | .held _ => 1
def uptoBulkAll {H : Type} : List (DataW H) → Nat
  | [] => 0
  | d :: r => uptoBulk d + uptoBulkAll r
def uptoBulkEntries {H : Type} : List (Lit × DataW H) → Nat
  | [] => 0
  | x :: r => uptoBulkEntry x + uptoBulkEntries r
def uptoBulkEntry {H : Type} : Lit × DataW H → Nat
  | (.string bytes, d) => bytes.length + uptoBulk d + 1
  | (_, d) => uptoBulk d + 1
 end
def uptoSmall : (H : Type) → List (DataW H) → Bool := fun _ ds => decide (uptoBulkAll ds ≤ 1048576)
def OpenSpec.upto (s : _root_.Go.ChangeSpec) : _root_.Go.OpenSpec := { _root_.Go.OpenSpec.ofChange s with cond := some uptoSmall }

/-- 'laws.FnExactWorldLine', WHERE WHAT IT READS IS OF BULK AT MOST 1048576: true; the input reads as it did. -/
def fnExactWorldLineUptoRow : OpenClaim := { program := "ytndbmeedimhohaagreat", sum := "bf79ce478af0193f9bbe8d21264512f425b71fa40dc6fd1478686dba6fff9680", func := "loop.example/stint/laws.FnExactWorldLine", spec := "fnExactWorldLine", unfollowed := true, recurses := true, plainKeys := false, apart := false, narrowed := true }
def FnExactWorldLineUptoSaid : Prop := fnExactWorldLineUptoRow.holds Tryz.pinned (OpenSpec.upto fnExactWorldLineSpec)

/-- 'laws.FnExactWorldMask', WHERE WHAT IT READS IS OF BULK AT MOST 1048576: true; the input reads as it did. -/
def fnExactWorldMaskUptoRow : OpenClaim := { program := "ytndbmeedimhohaagreat", sum := "bf79ce478af0193f9bbe8d21264512f425b71fa40dc6fd1478686dba6fff9680", func := "loop.example/stint/laws.FnExactWorldMask", spec := "fnExactWorldMask", unfollowed := true, recurses := true, plainKeys := false, apart := false, narrowed := true }
def FnExactWorldMaskUptoSaid : Prop := fnExactWorldMaskUptoRow.holds Tryz.pinned (OpenSpec.upto fnExactWorldMaskSpec)

/-- 'laws.FnExactWorldRoom', WHERE WHAT IT READS IS OF BULK AT MOST 1048576: true; the input reads as it did. -/
def fnExactWorldRoomUptoRow : OpenClaim := { program := "ytndbmeedimhohaagreat", sum := "bf79ce478af0193f9bbe8d21264512f425b71fa40dc6fd1478686dba6fff9680", func := "loop.example/stint/laws.FnExactWorldRoom", spec := "fnExactWorldRoom", unfollowed := true, recurses := true, plainKeys := false, apart := false, narrowed := true }
def FnExactWorldRoomUptoSaid : Prop := fnExactWorldRoomUptoRow.holds Tryz.pinned (OpenSpec.upto fnExactWorldRoomSpec)

/-- 'laws.FnExactWorldOk', WHERE WHAT IT READS IS OF BULK AT MOST 1048576: true; the input reads as it did. -/
def fnExactWorldOkUptoRow : OpenClaim := { program := "ytndbmeedimhohaagreat", sum := "bf79ce478af0193f9bbe8d21264512f425b71fa40dc6fd1478686dba6fff9680", func := "loop.example/stint/laws.FnExactWorldOk", spec := "fnExactWorldOk", unfollowed := true, recurses := true, plainKeys := false, apart := false, narrowed := true }
def FnExactWorldOkUptoSaid : Prop := fnExactWorldOkUptoRow.holds Tryz.pinned (OpenSpec.upto fnExactWorldOkSpec)

/-- 'laws.FnExactWorldDry', WHERE WHAT IT READS IS OF BULK AT MOST 1048576: true; the input reads as it did. -/
def fnExactWorldDryUptoRow : OpenClaim := { program := "ytndbmeedimhohaagreat", sum := "bf79ce478af0193f9bbe8d21264512f425b71fa40dc6fd1478686dba6fff9680", func := "loop.example/stint/laws.FnExactWorldDry", spec := "fnExactWorldDry", unfollowed := true, recurses := true, plainKeys := false, apart := false, narrowed := true }
def FnExactWorldDryUptoSaid : Prop := fnExactWorldDryUptoRow.holds Tryz.pinned (OpenSpec.upto fnExactWorldDrySpec)

end Rows
end Go.Proofs.YtndbmeedimhohaaGreat

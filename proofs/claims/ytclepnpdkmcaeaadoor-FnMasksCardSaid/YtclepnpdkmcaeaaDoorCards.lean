/-
  DERIVED. GIVEN WITH THE SEED: THE CARDS: each row of YtclepnpdkmcaeaaDoorRows.lean that lists a variable, with what it lists TIED to the program's text (the seventh form; the later family's looks); each row that meets fmt, with fmt's text TOLD by the authors' own Lean function (tested against real Go, not proved from fmt's source: count such statements apart). THE CARD IS WHAT COUNTS. Prove the row's statement (the work); the ties are given (YtclepnpdkmcaeaaDoorTie.lean); close each card by the builder's one call (the guide's Derived/Test/ToyasCard.lean, 'card_holds'). Laid BY PROGRAM, IN A SANDBOX (cutbox-door.mjs). By AI agents, Wed Nov 11 2026. No macro, syntax, notation, axiom, sorry.
-/
import Derived.Test.YtclepnpdkmcaeaaDoorRows
import GoSem.ClaimSeven
namespace Go.Proofs.YtclepnpdkmcaeaaDoor
namespace Rows

/-- THE TIED CARD OF 'laws.FnExactMaskText'. -/
def fnExactMaskTextCard : Claim7 := { stood := { row := fnExactMaskTextRow, standIns := [], harness := (true, "5b8302201ee16a431397f03d77604e8f3405f07e6ad02aab6228c8bb308abbe0"), looks := false }, kinds := [], alts := [], laidByText := true, laidKinds := [.data, .data, .data], laidTests := true, laidLooks := .later }
def FnExactMaskTextCardSaid : Prop := Claim7.holds Tryd.pinned (.plain (OpenSpec.ofChange fnExactMaskTextSpec)) fnExactMaskTextCard

/-- THE TIED CARD OF 'laws.FnExactMaskRead'. -/
def fnExactMaskReadCard : Claim7 := { stood := { row := fnExactMaskReadRow, standIns := [], harness := (true, "5b8302201ee16a431397f03d77604e8f3405f07e6ad02aab6228c8bb308abbe0"), looks := false }, kinds := [], alts := [], laidByText := true, laidKinds := [.data, .data, .data], laidTests := true, laidLooks := .later }
def FnExactMaskReadCardSaid : Prop := Claim7.holds Tryd.pinned (.plain (OpenSpec.ofChange fnExactMaskReadSpec)) fnExactMaskReadCard

/-- THE TIED CARD OF 'laws.FnMasks'. -/
def fnMasksCard : Claim7 := { stood := { row := fnMasksRow, standIns := [], harness := (true, "5b8302201ee16a431397f03d77604e8f3405f07e6ad02aab6228c8bb308abbe0"), looks := false }, kinds := [], alts := [], laidByText := true, laidKinds := [.data, .data, .data], laidTests := true, laidLooks := .later }
def FnMasksCardSaid : Prop := Claim7.holds Tryd.pinned (.plain (OpenSpec.ofChange fnMasksSpec)) fnMasksCard

/-- THE SECOND FORM's CARD OF 'laws.FnExactMaskText'. -/
def fnExactMaskTextUptoCard : Claim7 := { stood := { row := fnExactMaskTextUptoRow, standIns := [], harness := (true, "5b8302201ee16a431397f03d77604e8f3405f07e6ad02aab6228c8bb308abbe0"), looks := false }, kinds := [], alts := [], laidByText := true, laidKinds := [.data, .data, .data], laidTests := true, laidLooks := .later }
def FnExactMaskTextUptoCardSaid : Prop := Claim7.holds Tryd.pinned (.plain (OpenSpec.upto fnExactMaskTextSpec)) fnExactMaskTextUptoCard

/-- THE SECOND FORM's CARD OF 'laws.FnExactMaskRead'. -/
def fnExactMaskReadUptoCard : Claim7 := { stood := { row := fnExactMaskReadUptoRow, standIns := [], harness := (true, "5b8302201ee16a431397f03d77604e8f3405f07e6ad02aab6228c8bb308abbe0"), looks := false }, kinds := [], alts := [], laidByText := true, laidKinds := [.data, .data, .data], laidTests := true, laidLooks := .later }
def FnExactMaskReadUptoCardSaid : Prop := Claim7.holds Tryd.pinned (.plain (OpenSpec.upto fnExactMaskReadSpec)) fnExactMaskReadUptoCard

/-- THE SECOND FORM's CARD OF 'laws.FnMasks'. -/
def fnMasksUptoCard : Claim7 := { stood := { row := fnMasksUptoRow, standIns := [], harness := (true, "5b8302201ee16a431397f03d77604e8f3405f07e6ad02aab6228c8bb308abbe0"), looks := false }, kinds := [], alts := [], laidByText := true, laidKinds := [.data, .data, .data], laidTests := true, laidLooks := .later }
def FnMasksUptoCardSaid : Prop := Claim7.holds Tryd.pinned (.plain (OpenSpec.upto fnMasksSpec)) fnMasksUptoCard
end Rows
end Go.Proofs.YtclepnpdkmcaeaaDoor

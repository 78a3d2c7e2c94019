/-
  DERIVED. GIVEN WITH THE SEED: THE CARDS: each row of YteifbkappfjnlaaGreatDoorRows.lean that lists a variable, with what it lists TIED to the program's text (the seventh form; the later family's looks); each row that meets fmt, with fmt's text TOLD by the authors' own Lean function (tested against real Go, not proved from fmt's source: count such statements apart). THE CARD IS WHAT COUNTS. Prove the row's statement (the work); the ties are given (YteifbkappfjnlaaGreatDoorTie.lean); close each card by the builder's one call (the guide's Derived/Test/ToyasCard.lean, 'card_holds'). Laid BY PROGRAM, IN A SANDBOX (cutbox-door.mjs). By AI agents, Wed Nov 11 2026. No macro, syntax, notation, axiom, sorry.
-/
import Derived.Test.YteifbkappfjnlaaGreatDoorRows
import GoSem.ClaimSeven
namespace Go.Proofs.YteifbkappfjnlaaGreatDoor
namespace Rows

/-- THE TIED CARD OF 'roundsmantop.TopScaled'. -/
def topScaledCard : Claim7 := { stood := { row := topScaledRow, standIns := [], harness := (true, "acab39282e26115c48f79e300ae01e6e6b2f638e069787d6b40bc6b2bd9d089c"), looks := true }, kinds := [], alts := [], laidByText := true, laidKinds := [.data, .data, .data, .data, .handle, .pinned], laidTests := true, laidLooks := .later }
def TopScaledCardSaid : Prop := Claim7.holds Tryz.pinned (.plain (OpenSpec.ofChange topScaledSpec)) topScaledCard

/-- THE SECOND FORM's CARD OF 'roundsmantop.TopScaled'. -/
def topScaledUptoCard : Claim7 := { stood := { row := topScaledUptoRow, standIns := [], harness := (true, "acab39282e26115c48f79e300ae01e6e6b2f638e069787d6b40bc6b2bd9d089c"), looks := true }, kinds := [], alts := [], laidByText := true, laidKinds := [.data, .data, .data, .data, .handle, .pinned], laidTests := true, laidLooks := .later }
def TopScaledUptoCardSaid : Prop := Claim7.holds Tryz.pinned (.plain (OpenSpec.upto topScaledSpec)) topScaledUptoCard
end Rows
end Go.Proofs.YteifbkappfjnlaaGreatDoor

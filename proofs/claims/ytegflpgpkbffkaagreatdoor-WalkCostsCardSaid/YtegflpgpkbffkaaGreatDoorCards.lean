/-
  DERIVED. GIVEN WITH THE SEED: THE CARDS: each row of YtegflpgpkbffkaaGreatDoorRows.lean that lists a variable, with what it lists TIED to the program's text (the seventh form; the later family's looks); each row that meets fmt, with fmt's text TOLD by the authors' own Lean function (tested against real Go, not proved from fmt's source: count such statements apart). THE CARD IS WHAT COUNTS. Prove the row's statement (the work); the ties are given (YtegflpgpkbffkaaGreatDoorTie.lean); close each card by the builder's one call (the guide's Derived/Test/ToyasCard.lean, 'card_holds'). Laid BY PROGRAM, IN A SANDBOX (cutbox-door.mjs). By AI agents, Wed Nov 11 2026. No macro, syntax, notation, axiom, sorry.
-/
import Derived.Test.YtegflpgpkbffkaaGreatDoorRows
import GoSem.ClaimSeven
namespace Go.Proofs.YtegflpgpkbffkaaGreatDoor
namespace Rows

/-- THE TIED CARD OF 'roundsmanlaw8.WalkCosts'. -/
def walkCostsCard : Claim7 := { stood := { row := walkCostsRow, standIns := [], harness := (true, "8b8746358c4d76373e5b9d04e1c13e28efb796dbeaf40e5033a3fed760db0614"), looks := true }, kinds := [], alts := [], laidByText := true, laidKinds := [.handle], laidTests := true, laidLooks := .later }
def WalkCostsCardSaid : Prop := Claim7.holds Tryz.pinned (.plain (OpenSpec.ofChange walkCostsSpec)) walkCostsCard

/-- THE SECOND FORM's CARD OF 'roundsmanlaw8.WalkCosts'. -/
def walkCostsUptoCard : Claim7 := { stood := { row := walkCostsUptoRow, standIns := [], harness := (true, "8b8746358c4d76373e5b9d04e1c13e28efb796dbeaf40e5033a3fed760db0614"), looks := true }, kinds := [], alts := [], laidByText := true, laidKinds := [.handle], laidTests := true, laidLooks := .later }
def WalkCostsUptoCardSaid : Prop := Claim7.holds Tryz.pinned (.plain (OpenSpec.upto walkCostsSpec)) walkCostsUptoCard
end Rows
end Go.Proofs.YtegflpgpkbffkaaGreatDoor

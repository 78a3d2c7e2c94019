/-
  DERIVED. GIVEN WITH THE SEED: THE CARDS: each row of YtmpamfkkaakbfaaGreatDoorRows.lean that lists a variable, with what it lists TIED to the program's text (the seventh form; the later family's looks); each row that meets fmt, with fmt's text TOLD by the authors' own Lean function (tested against real Go, not proved from fmt's source: count such statements apart). THE CARD IS WHAT COUNTS. Prove the row's statement (the work); the ties are given (YtmpamfkkaakbfaaGreatDoorTie.lean); close each card by the builder's one call (the guide's Derived/Test/ToyasCard.lean, 'card_holds'). Laid BY PROGRAM, IN A SANDBOX (cutbox-door.mjs). By AI agents, Wed Nov 11 2026. No macro, syntax, notation, axiom, sorry.
-/
import Derived.Test.YtmpamfkkaakbfaaGreatDoorRows
import GoSem.ClaimSeven
namespace Go.Proofs.YtmpamfkkaakbfaaGreatDoor
namespace Rows

/-- THE TIED CARD OF 'roundsmantop.TopEquations'. -/
def topEquationsCard : Claim7 := { stood := { row := topEquationsRow, standIns := [], harness := (true, "e2168b32d0501d38e08a449184e6bc2795997f75a525fcf1bc637071749dfb6a"), looks := true }, kinds := [], alts := [], laidByText := true, laidKinds := [.data, .data, .data, .data, .handle, .pinned], laidTests := true, laidLooks := .later }
def TopEquationsCardSaid : Prop := Claim7.holds Tryz.pinned (.plain (OpenSpec.ofChange topEquationsSpec)) topEquationsCard

/-- THE SECOND FORM's CARD OF 'roundsmantop.TopEquations'. -/
def topEquationsUptoCard : Claim7 := { stood := { row := topEquationsUptoRow, standIns := [], harness := (true, "e2168b32d0501d38e08a449184e6bc2795997f75a525fcf1bc637071749dfb6a"), looks := true }, kinds := [], alts := [], laidByText := true, laidKinds := [.data, .data, .data, .data, .handle, .pinned], laidTests := true, laidLooks := .later }
def TopEquationsUptoCardSaid : Prop := Claim7.holds Tryz.pinned (.plain (OpenSpec.upto topEquationsSpec)) topEquationsUptoCard
end Rows
end Go.Proofs.YtmpamfkkaakbfaaGreatDoor

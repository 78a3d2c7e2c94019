/-
  DERIVED. GIVEN WITH THE SEED: THE CARDS: each row of YtmacmgjnmaajdaaGreatDoorRows.lean that lists a variable, with what it lists TIED to the program's text (the seventh form; the later family's looks); each row that meets fmt, with fmt's text TOLD by the authors' own Lean function (tested against real Go, not proved from fmt's source: count such statements apart). THE CARD IS WHAT COUNTS. Prove the row's statement (the work); the ties are given (YtmacmgjnmaajdaaGreatDoorTie.lean); close each card by the builder's one call (the guide's Derived/Test/ToyasCard.lean, 'card_holds'). Laid BY PROGRAM, IN A SANDBOX (cutbox-door.mjs). By AI agents, Wed Nov 11 2026. No macro, syntax, notation, axiom, sorry.
-/
import Derived.Test.YtmacmgjnmaajdaaGreatDoorRows
import GoSem.ClaimSeven
namespace Go.Proofs.YtmacmgjnmaajdaaGreatDoor
namespace Rows

/-- THE TIED CARD OF 'roundsmantop.TopMoved'. -/
def topMovedCard : Claim7 := { stood := { row := topMovedRow, standIns := [], harness := (true, "5c524205875a18443580f446cf229104c2e3236a74ca56f7a4748c128a338fd5"), looks := true }, kinds := [], alts := [], laidByText := true, laidKinds := [.data, .data, .data, .data, .handle, .pinned], laidTests := true, laidLooks := .later }
def TopMovedCardSaid : Prop := Claim7.holds Tryz.pinned (.plain (OpenSpec.ofChange topMovedSpec)) topMovedCard

/-- THE SECOND FORM's CARD OF 'roundsmantop.TopMoved'. -/
def topMovedUptoCard : Claim7 := { stood := { row := topMovedUptoRow, standIns := [], harness := (true, "5c524205875a18443580f446cf229104c2e3236a74ca56f7a4748c128a338fd5"), looks := true }, kinds := [], alts := [], laidByText := true, laidKinds := [.data, .data, .data, .data, .handle, .pinned], laidTests := true, laidLooks := .later }
def TopMovedUptoCardSaid : Prop := Claim7.holds Tryz.pinned (.plain (OpenSpec.upto topMovedSpec)) topMovedUptoCard
end Rows
end Go.Proofs.YtmacmgjnmaajdaaGreatDoor

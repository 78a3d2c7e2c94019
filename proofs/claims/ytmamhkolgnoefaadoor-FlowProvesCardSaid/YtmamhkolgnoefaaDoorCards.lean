/-
  DERIVED. GIVEN WITH THE SEED: THE CARDS: each row of YtmamhkolgnoefaaDoorRows.lean that lists a variable, with what it lists TIED to the program's text (the seventh form; the later family's looks); each row that meets fmt, with fmt's text TOLD by the authors' own Lean function (tested against real Go, not proved from fmt's source: count such statements apart). THE CARD IS WHAT COUNTS. Prove the row's statement (the work); the ties are given (YtmamhkolgnoefaaDoorTie.lean); close each card by the builder's one call (the guide's Derived/Test/ToyasCard.lean, 'card_holds'). Laid BY PROGRAM, IN A SANDBOX (cutbox-door.mjs). By AI agents, Wed Nov 11 2026. No macro, syntax, notation, axiom, sorry.
-/
import Derived.Test.YtmamhkolgnoefaaDoorRows
import GoSem.ClaimSeven
namespace Go.Proofs.YtmamhkolgnoefaaDoor
namespace Rows

/-- THE TIED CARD OF 'roundsmanlaw9.FlowProves'. -/
def flowProvesCard : Claim7 := { stood := { row := flowProvesRow, standIns := [], harness := (true, "6c6971676ddac85cb608a267c5c6fc87d5017f5f1b7b86897629fedf05a45212"), looks := true }, kinds := [], alts := [], laidByText := true, laidKinds := [.handle], laidTests := true, laidLooks := .later }
def FlowProvesCardSaid : Prop := Claim7.holds Tryd.pinned (.plain (OpenSpec.ofChange flowProvesSpec)) flowProvesCard

/-- THE TIED CARD OF 'roundsmanlaw9.FlowCuts'. -/
def flowCutsCard : Claim7 := { stood := { row := flowCutsRow, standIns := [], harness := (true, "6c6971676ddac85cb608a267c5c6fc87d5017f5f1b7b86897629fedf05a45212"), looks := true }, kinds := [], alts := [], laidByText := true, laidKinds := [.handle], laidTests := true, laidLooks := .later }
def FlowCutsCardSaid : Prop := Claim7.holds Tryd.pinned (.plain (OpenSpec.ofChange flowCutsSpec)) flowCutsCard

/-- THE TIED CARD OF 'roundsmanlaw9.FlowTurned'. -/
def flowTurnedCard : Claim7 := { stood := { row := flowTurnedRow, standIns := [], harness := (true, "6c6971676ddac85cb608a267c5c6fc87d5017f5f1b7b86897629fedf05a45212"), looks := true }, kinds := [], alts := [], laidByText := true, laidKinds := [.handle], laidTests := true, laidLooks := .later }
def FlowTurnedCardSaid : Prop := Claim7.holds Tryd.pinned (.plain (OpenSpec.ofChange flowTurnedSpec)) flowTurnedCard

/-- THE TIED CARD OF 'roundsmanlaw9.FlowRows'. -/
def flowRowsCard : Claim7 := { stood := { row := flowRowsRow, standIns := [], harness := (true, "6c6971676ddac85cb608a267c5c6fc87d5017f5f1b7b86897629fedf05a45212"), looks := true }, kinds := [], alts := [], laidByText := true, laidKinds := [.handle], laidTests := true, laidLooks := .later }
def FlowRowsCardSaid : Prop := Claim7.holds Tryd.pinned (.plain (OpenSpec.ofChange flowRowsSpec)) flowRowsCard

/-- THE TIED CARD OF 'roundsmanlaw9.FlowMore'. -/
def flowMoreCard : Claim7 := { stood := { row := flowMoreRow, standIns := [], harness := (true, "6c6971676ddac85cb608a267c5c6fc87d5017f5f1b7b86897629fedf05a45212"), looks := true }, kinds := [], alts := [], laidByText := true, laidKinds := [.handle], laidTests := true, laidLooks := .later }
def FlowMoreCardSaid : Prop := Claim7.holds Tryd.pinned (.plain (OpenSpec.ofChange flowMoreSpec)) flowMoreCard

/-- THE SECOND FORM's CARD OF 'roundsmanlaw9.FlowProves'. -/
def flowProvesUptoCard : Claim7 := { stood := { row := flowProvesUptoRow, standIns := [], harness := (true, "6c6971676ddac85cb608a267c5c6fc87d5017f5f1b7b86897629fedf05a45212"), looks := true }, kinds := [], alts := [], laidByText := true, laidKinds := [.handle], laidTests := true, laidLooks := .later }
def FlowProvesUptoCardSaid : Prop := Claim7.holds Tryd.pinned (.plain (OpenSpec.upto flowProvesSpec)) flowProvesUptoCard

/-- THE SECOND FORM's CARD OF 'roundsmanlaw9.FlowCuts'. -/
def flowCutsUptoCard : Claim7 := { stood := { row := flowCutsUptoRow, standIns := [], harness := (true, "6c6971676ddac85cb608a267c5c6fc87d5017f5f1b7b86897629fedf05a45212"), looks := true }, kinds := [], alts := [], laidByText := true, laidKinds := [.handle], laidTests := true, laidLooks := .later }
def FlowCutsUptoCardSaid : Prop := Claim7.holds Tryd.pinned (.plain (OpenSpec.upto flowCutsSpec)) flowCutsUptoCard

/-- THE SECOND FORM's CARD OF 'roundsmanlaw9.FlowTurned'. -/
def flowTurnedUptoCard : Claim7 := { stood := { row := flowTurnedUptoRow, standIns := [], harness := (true, "6c6971676ddac85cb608a267c5c6fc87d5017f5f1b7b86897629fedf05a45212"), looks := true }, kinds := [], alts := [], laidByText := true, laidKinds := [.handle], laidTests := true, laidLooks := .later }
def FlowTurnedUptoCardSaid : Prop := Claim7.holds Tryd.pinned (.plain (OpenSpec.upto flowTurnedSpec)) flowTurnedUptoCard

/-- THE SECOND FORM's CARD OF 'roundsmanlaw9.FlowRows'. -/
def flowRowsUptoCard : Claim7 := { stood := { row := flowRowsUptoRow, standIns := [], harness := (true, "6c6971676ddac85cb608a267c5c6fc87d5017f5f1b7b86897629fedf05a45212"), looks := true }, kinds := [], alts := [], laidByText := true, laidKinds := [.handle], laidTests := true, laidLooks := .later }
def FlowRowsUptoCardSaid : Prop := Claim7.holds Tryd.pinned (.plain (OpenSpec.upto flowRowsSpec)) flowRowsUptoCard

/-- THE SECOND FORM's CARD OF 'roundsmanlaw9.FlowMore'. -/
def flowMoreUptoCard : Claim7 := { stood := { row := flowMoreUptoRow, standIns := [], harness := (true, "6c6971676ddac85cb608a267c5c6fc87d5017f5f1b7b86897629fedf05a45212"), looks := true }, kinds := [], alts := [], laidByText := true, laidKinds := [.handle], laidTests := true, laidLooks := .later }
def FlowMoreUptoCardSaid : Prop := Claim7.holds Tryd.pinned (.plain (OpenSpec.upto flowMoreSpec)) flowMoreUptoCard
end Rows
end Go.Proofs.YtmamhkolgnoefaaDoor

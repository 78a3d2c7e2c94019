/-
  DERIVED. GIVEN WITH THE SEED: THE CARDS: each row of YtojpokpdfbgelaaDoorRows.lean that lists a variable, with what it lists TIED to the program's text (the seventh form; the later family's looks); each row that meets fmt, with fmt's text TOLD by the authors' own Lean function (tested against real Go, not proved from fmt's source: count such statements apart). THE CARD IS WHAT COUNTS. Prove the row's statement (the work); the ties are given (YtojpokpdfbgelaaDoorTie.lean); close each card by the builder's one call (the guide's Derived/Test/ToyasCard.lean, 'card_holds'). Laid BY PROGRAM, IN A SANDBOX (cutbox-door.mjs). By AI agents, Wed Nov 11 2026. No macro, syntax, notation, axiom, sorry.
-/
import Derived.Test.YtojpokpdfbgelaaDoorRows
import GoSem.ClaimSeven
namespace Go.Proofs.YtojpokpdfbgelaaDoor
namespace Rows

/-- THE TIED CARD OF 'roundsmanlaw6.GraphPlays'. -/
def graphPlaysCard : Claim7 := { stood := { row := graphPlaysRow, standIns := [], harness := (true, "4cdee80ff24b8d9d427b73fe3fb8f099f71c5b08f0fbd6dd5d05b8cc0e528104"), looks := true }, kinds := [], alts := [], laidByText := true, laidKinds := [.handle], laidTests := true, laidLooks := .later }
def GraphPlaysCardSaid : Prop := Claim7.holds Tryd.pinned (.plain (OpenSpec.ofChange graphPlaysSpec)) graphPlaysCard

/-- THE TIED CARD OF 'roundsmanlaw6.GraphBack'. -/
def graphBackCard : Claim7 := { stood := { row := graphBackRow, standIns := [], harness := (true, "4cdee80ff24b8d9d427b73fe3fb8f099f71c5b08f0fbd6dd5d05b8cc0e528104"), looks := true }, kinds := [], alts := [], laidByText := true, laidKinds := [.handle], laidTests := true, laidLooks := .later }
def GraphBackCardSaid : Prop := Claim7.holds Tryd.pinned (.plain (OpenSpec.ofChange graphBackSpec)) graphBackCard

/-- THE TIED CARD OF 'roundsmanlaw6.GraphTwins'. -/
def graphTwinsCard : Claim7 := { stood := { row := graphTwinsRow, standIns := [], harness := (true, "4cdee80ff24b8d9d427b73fe3fb8f099f71c5b08f0fbd6dd5d05b8cc0e528104"), looks := true }, kinds := [], alts := [], laidByText := true, laidKinds := [.handle], laidTests := true, laidLooks := .later }
def GraphTwinsCardSaid : Prop := Claim7.holds Tryd.pinned (.plain (OpenSpec.ofChange graphTwinsSpec)) graphTwinsCard

/-- THE TIED CARD OF 'roundsmanlaw6.GraphTypes'. -/
def graphTypesCard : Claim7 := { stood := { row := graphTypesRow, standIns := [], harness := (true, "4cdee80ff24b8d9d427b73fe3fb8f099f71c5b08f0fbd6dd5d05b8cc0e528104"), looks := true }, kinds := [], alts := [], laidByText := true, laidKinds := [.handle], laidTests := true, laidLooks := .later }
def GraphTypesCardSaid : Prop := Claim7.holds Tryd.pinned (.plain (OpenSpec.ofChange graphTypesSpec)) graphTypesCard

/-- THE TIED CARD OF 'roundsmanlaw6.GraphTells'. -/
def graphTellsCard : Claim7 := { stood := { row := graphTellsRow, standIns := [], harness := (true, "4cdee80ff24b8d9d427b73fe3fb8f099f71c5b08f0fbd6dd5d05b8cc0e528104"), looks := true }, kinds := [], alts := [], laidByText := true, laidKinds := [.handle], laidTests := true, laidLooks := .later }
def GraphTellsCardSaid : Prop := Claim7.holds Tryd.pinned (.plain (OpenSpec.ofChange graphTellsSpec)) graphTellsCard

/-- THE SECOND FORM's CARD OF 'roundsmanlaw6.GraphPlays'. -/
def graphPlaysUptoCard : Claim7 := { stood := { row := graphPlaysUptoRow, standIns := [], harness := (true, "4cdee80ff24b8d9d427b73fe3fb8f099f71c5b08f0fbd6dd5d05b8cc0e528104"), looks := true }, kinds := [], alts := [], laidByText := true, laidKinds := [.handle], laidTests := true, laidLooks := .later }
def GraphPlaysUptoCardSaid : Prop := Claim7.holds Tryd.pinned (.plain (OpenSpec.upto graphPlaysSpec)) graphPlaysUptoCard

/-- THE SECOND FORM's CARD OF 'roundsmanlaw6.GraphBack'. -/
def graphBackUptoCard : Claim7 := { stood := { row := graphBackUptoRow, standIns := [], harness := (true, "4cdee80ff24b8d9d427b73fe3fb8f099f71c5b08f0fbd6dd5d05b8cc0e528104"), looks := true }, kinds := [], alts := [], laidByText := true, laidKinds := [.handle], laidTests := true, laidLooks := .later }
def GraphBackUptoCardSaid : Prop := Claim7.holds Tryd.pinned (.plain (OpenSpec.upto graphBackSpec)) graphBackUptoCard

/-- THE SECOND FORM's CARD OF 'roundsmanlaw6.GraphTwins'. -/
def graphTwinsUptoCard : Claim7 := { stood := { row := graphTwinsUptoRow, standIns := [], harness := (true, "4cdee80ff24b8d9d427b73fe3fb8f099f71c5b08f0fbd6dd5d05b8cc0e528104"), looks := true }, kinds := [], alts := [], laidByText := true, laidKinds := [.handle], laidTests := true, laidLooks := .later }
def GraphTwinsUptoCardSaid : Prop := Claim7.holds Tryd.pinned (.plain (OpenSpec.upto graphTwinsSpec)) graphTwinsUptoCard

/-- THE SECOND FORM's CARD OF 'roundsmanlaw6.GraphTypes'. -/
def graphTypesUptoCard : Claim7 := { stood := { row := graphTypesUptoRow, standIns := [], harness := (true, "4cdee80ff24b8d9d427b73fe3fb8f099f71c5b08f0fbd6dd5d05b8cc0e528104"), looks := true }, kinds := [], alts := [], laidByText := true, laidKinds := [.handle], laidTests := true, laidLooks := .later }
def GraphTypesUptoCardSaid : Prop := Claim7.holds Tryd.pinned (.plain (OpenSpec.upto graphTypesSpec)) graphTypesUptoCard

/-- THE SECOND FORM's CARD OF 'roundsmanlaw6.GraphTells'. -/
def graphTellsUptoCard : Claim7 := { stood := { row := graphTellsUptoRow, standIns := [], harness := (true, "4cdee80ff24b8d9d427b73fe3fb8f099f71c5b08f0fbd6dd5d05b8cc0e528104"), looks := true }, kinds := [], alts := [], laidByText := true, laidKinds := [.handle], laidTests := true, laidLooks := .later }
def GraphTellsUptoCardSaid : Prop := Claim7.holds Tryd.pinned (.plain (OpenSpec.upto graphTellsSpec)) graphTellsUptoCard
end Rows
end Go.Proofs.YtojpokpdfbgelaaDoor

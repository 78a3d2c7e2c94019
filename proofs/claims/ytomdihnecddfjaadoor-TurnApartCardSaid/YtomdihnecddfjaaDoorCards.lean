/-
  DERIVED. GIVEN WITH THE SEED: THE CARDS: each row of YtomdihnecddfjaaDoorRows.lean that lists a variable, with what it lists TIED to the program's text (the seventh form; the later family's looks); each row that meets fmt, with fmt's text TOLD by the authors' own Lean function (tested against real Go, not proved from fmt's source: count such statements apart). THE CARD IS WHAT COUNTS. Prove the row's statement (the work); the ties are given (YtomdihnecddfjaaDoorTie.lean); close each card by the builder's one call (the guide's Derived/Test/ToyasCard.lean, 'card_holds'). Laid BY PROGRAM, IN A SANDBOX (cutbox-door.mjs). By AI agents, Wed Nov 11 2026. No macro, syntax, notation, axiom, sorry.
-/
import Derived.Test.YtomdihnecddfjaaDoorRows
import GoSem.ClaimSeven
namespace Go.Proofs.YtomdihnecddfjaaDoor
namespace Rows

/-- THE TIED CARD OF 'roundsmanlaw2.TurnAny'. -/
def turnAnyCard : Claim7 := { stood := { row := turnAnyRow, standIns := [], harness := (true, "841b9146c61c9a44d56880fc9910a9560cb8ad1eeafed6fcb0b73ac22e63085d"), looks := true }, kinds := [], alts := [], laidByText := true, laidKinds := [.handle], laidTests := true, laidLooks := .later }
def TurnAnyCardSaid : Prop := Claim7.holds Tryd.pinned (.plain (OpenSpec.ofChange turnAnySpec)) turnAnyCard

/-- THE TIED CARD OF 'roundsmanlaw2.TurnMakes'. -/
def turnMakesCard : Claim7 := { stood := { row := turnMakesRow, standIns := [], harness := (true, "841b9146c61c9a44d56880fc9910a9560cb8ad1eeafed6fcb0b73ac22e63085d"), looks := true }, kinds := [], alts := [], laidByText := true, laidKinds := [.handle], laidTests := true, laidLooks := .later }
def TurnMakesCardSaid : Prop := Claim7.holds Tryd.pinned (.plain (OpenSpec.ofChange turnMakesSpec)) turnMakesCard

/-- THE TIED CARD OF 'roundsmanlaw2.TurnSets'. -/
def turnSetsCard : Claim7 := { stood := { row := turnSetsRow, standIns := [], harness := (true, "841b9146c61c9a44d56880fc9910a9560cb8ad1eeafed6fcb0b73ac22e63085d"), looks := true }, kinds := [], alts := [], laidByText := true, laidKinds := [.handle], laidTests := true, laidLooks := .later }
def TurnSetsCardSaid : Prop := Claim7.holds Tryd.pinned (.plain (OpenSpec.ofChange turnSetsSpec)) turnSetsCard

/-- THE TIED CARD OF 'roundsmanlaw2.TurnBans'. -/
def turnBansCard : Claim7 := { stood := { row := turnBansRow, standIns := [], harness := (true, "841b9146c61c9a44d56880fc9910a9560cb8ad1eeafed6fcb0b73ac22e63085d"), looks := true }, kinds := [], alts := [], laidByText := true, laidKinds := [.handle], laidTests := true, laidLooks := .later }
def TurnBansCardSaid : Prop := Claim7.holds Tryd.pinned (.plain (OpenSpec.ofChange turnBansSpec)) turnBansCard

/-- THE TIED CARD OF 'roundsmanlaw2.TurnApart'. -/
def turnApartCard : Claim7 := { stood := { row := turnApartRow, standIns := [], harness := (true, "841b9146c61c9a44d56880fc9910a9560cb8ad1eeafed6fcb0b73ac22e63085d"), looks := true }, kinds := [], alts := [], laidByText := true, laidKinds := [.handle], laidTests := true, laidLooks := .later }
def TurnApartCardSaid : Prop := Claim7.holds Tryd.pinned (.plain (OpenSpec.ofChange turnApartSpec)) turnApartCard

/-- THE SECOND FORM's CARD OF 'roundsmanlaw2.TurnAny'. -/
def turnAnyUptoCard : Claim7 := { stood := { row := turnAnyUptoRow, standIns := [], harness := (true, "841b9146c61c9a44d56880fc9910a9560cb8ad1eeafed6fcb0b73ac22e63085d"), looks := true }, kinds := [], alts := [], laidByText := true, laidKinds := [.handle], laidTests := true, laidLooks := .later }
def TurnAnyUptoCardSaid : Prop := Claim7.holds Tryd.pinned (.plain (OpenSpec.upto turnAnySpec)) turnAnyUptoCard

/-- THE SECOND FORM's CARD OF 'roundsmanlaw2.TurnMakes'. -/
def turnMakesUptoCard : Claim7 := { stood := { row := turnMakesUptoRow, standIns := [], harness := (true, "841b9146c61c9a44d56880fc9910a9560cb8ad1eeafed6fcb0b73ac22e63085d"), looks := true }, kinds := [], alts := [], laidByText := true, laidKinds := [.handle], laidTests := true, laidLooks := .later }
def TurnMakesUptoCardSaid : Prop := Claim7.holds Tryd.pinned (.plain (OpenSpec.upto turnMakesSpec)) turnMakesUptoCard

/-- THE SECOND FORM's CARD OF 'roundsmanlaw2.TurnSets'. -/
def turnSetsUptoCard : Claim7 := { stood := { row := turnSetsUptoRow, standIns := [], harness := (true, "841b9146c61c9a44d56880fc9910a9560cb8ad1eeafed6fcb0b73ac22e63085d"), looks := true }, kinds := [], alts := [], laidByText := true, laidKinds := [.handle], laidTests := true, laidLooks := .later }
def TurnSetsUptoCardSaid : Prop := Claim7.holds Tryd.pinned (.plain (OpenSpec.upto turnSetsSpec)) turnSetsUptoCard

/-- THE SECOND FORM's CARD OF 'roundsmanlaw2.TurnBans'. -/
def turnBansUptoCard : Claim7 := { stood := { row := turnBansUptoRow, standIns := [], harness := (true, "841b9146c61c9a44d56880fc9910a9560cb8ad1eeafed6fcb0b73ac22e63085d"), looks := true }, kinds := [], alts := [], laidByText := true, laidKinds := [.handle], laidTests := true, laidLooks := .later }
def TurnBansUptoCardSaid : Prop := Claim7.holds Tryd.pinned (.plain (OpenSpec.upto turnBansSpec)) turnBansUptoCard

/-- THE SECOND FORM's CARD OF 'roundsmanlaw2.TurnApart'. -/
def turnApartUptoCard : Claim7 := { stood := { row := turnApartUptoRow, standIns := [], harness := (true, "841b9146c61c9a44d56880fc9910a9560cb8ad1eeafed6fcb0b73ac22e63085d"), looks := true }, kinds := [], alts := [], laidByText := true, laidKinds := [.handle], laidTests := true, laidLooks := .later }
def TurnApartUptoCardSaid : Prop := Claim7.holds Tryd.pinned (.plain (OpenSpec.upto turnApartSpec)) turnApartUptoCard
end Rows
end Go.Proofs.YtomdihnecddfjaaDoor

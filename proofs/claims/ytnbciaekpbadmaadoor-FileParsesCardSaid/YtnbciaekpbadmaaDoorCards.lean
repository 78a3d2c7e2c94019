/-
  DERIVED. GIVEN WITH THE SEED: THE CARDS: each row of YtnbciaekpbadmaaDoorRows.lean that lists a variable, with what it lists TIED to the program's text (the seventh form; the later family's looks); each row that meets fmt, with fmt's text TOLD by the authors' own Lean function (tested against real Go, not proved from fmt's source: count such statements apart). THE CARD IS WHAT COUNTS. Prove the row's statement (the work); the ties are given (YtnbciaekpbadmaaDoorTie.lean); close each card by the builder's one call (the guide's Derived/Test/ToyasCard.lean, 'card_holds'). Laid BY PROGRAM, IN A SANDBOX (cutbox-door.mjs). By AI agents, Wed Nov 11 2026. No macro, syntax, notation, axiom, sorry.
-/
import Derived.Test.YtnbciaekpbadmaaDoorRows
import GoSem.ClaimSeven
namespace Go.Proofs.YtnbciaekpbadmaaDoor
namespace Rows

/-- THE TIED CARD OF 'roundsmanlaw5.FileParses'. -/
def fileParsesCard : Claim7 := { stood := { row := fileParsesRow, standIns := [], harness := (true, "6d30b8d5d393782eb666b80d7757990e63d6dc3f393aaeb9a5ed3e2752d18bdd"), looks := true }, kinds := [], alts := [], laidByText := true, laidKinds := [.handle], laidTests := true, laidLooks := .later }
def FileParsesCardSaid : Prop := Claim7.holds Tryd.pinned (.plain (OpenSpec.ofChange fileParsesSpec)) fileParsesCard

/-- THE TIED CARD OF 'roundsmanlaw5.FileEncodes'. -/
def fileEncodesCard : Claim7 := { stood := { row := fileEncodesRow, standIns := [], harness := (true, "6d30b8d5d393782eb666b80d7757990e63d6dc3f393aaeb9a5ed3e2752d18bdd"), looks := true }, kinds := [], alts := [], laidByText := true, laidKinds := [.handle], laidTests := true, laidLooks := .later }
def FileEncodesCardSaid : Prop := Claim7.holds Tryd.pinned (.plain (OpenSpec.ofChange fileEncodesSpec)) fileEncodesCard

/-- THE TIED CARD OF 'roundsmanlaw5.FileTurned'. -/
def fileTurnedCard : Claim7 := { stood := { row := fileTurnedRow, standIns := [], harness := (true, "6d30b8d5d393782eb666b80d7757990e63d6dc3f393aaeb9a5ed3e2752d18bdd"), looks := true }, kinds := [], alts := [], laidByText := true, laidKinds := [.handle], laidTests := true, laidLooks := .later }
def FileTurnedCardSaid : Prop := Claim7.holds Tryd.pinned (.plain (OpenSpec.ofChange fileTurnedSpec)) fileTurnedCard

/-- THE TIED CARD OF 'roundsmanlaw5.FileInner'. -/
def fileInnerCard : Claim7 := { stood := { row := fileInnerRow, standIns := [], harness := (true, "6d30b8d5d393782eb666b80d7757990e63d6dc3f393aaeb9a5ed3e2752d18bdd"), looks := true }, kinds := [], alts := [], laidByText := true, laidKinds := [.handle], laidTests := true, laidLooks := .later }
def FileInnerCardSaid : Prop := Claim7.holds Tryd.pinned (.plain (OpenSpec.ofChange fileInnerSpec)) fileInnerCard

/-- THE TIED CARD OF 'roundsmanlaw5.FileApart'. -/
def fileApartCard : Claim7 := { stood := { row := fileApartRow, standIns := [], harness := (true, "6d30b8d5d393782eb666b80d7757990e63d6dc3f393aaeb9a5ed3e2752d18bdd"), looks := true }, kinds := [], alts := [], laidByText := true, laidKinds := [.handle], laidTests := true, laidLooks := .later }
def FileApartCardSaid : Prop := Claim7.holds Tryd.pinned (.plain (OpenSpec.ofChange fileApartSpec)) fileApartCard

/-- THE SECOND FORM's CARD OF 'roundsmanlaw5.FileParses'. -/
def fileParsesUptoCard : Claim7 := { stood := { row := fileParsesUptoRow, standIns := [], harness := (true, "6d30b8d5d393782eb666b80d7757990e63d6dc3f393aaeb9a5ed3e2752d18bdd"), looks := true }, kinds := [], alts := [], laidByText := true, laidKinds := [.handle], laidTests := true, laidLooks := .later }
def FileParsesUptoCardSaid : Prop := Claim7.holds Tryd.pinned (.plain (OpenSpec.upto fileParsesSpec)) fileParsesUptoCard

/-- THE SECOND FORM's CARD OF 'roundsmanlaw5.FileEncodes'. -/
def fileEncodesUptoCard : Claim7 := { stood := { row := fileEncodesUptoRow, standIns := [], harness := (true, "6d30b8d5d393782eb666b80d7757990e63d6dc3f393aaeb9a5ed3e2752d18bdd"), looks := true }, kinds := [], alts := [], laidByText := true, laidKinds := [.handle], laidTests := true, laidLooks := .later }
def FileEncodesUptoCardSaid : Prop := Claim7.holds Tryd.pinned (.plain (OpenSpec.upto fileEncodesSpec)) fileEncodesUptoCard

/-- THE SECOND FORM's CARD OF 'roundsmanlaw5.FileTurned'. -/
def fileTurnedUptoCard : Claim7 := { stood := { row := fileTurnedUptoRow, standIns := [], harness := (true, "6d30b8d5d393782eb666b80d7757990e63d6dc3f393aaeb9a5ed3e2752d18bdd"), looks := true }, kinds := [], alts := [], laidByText := true, laidKinds := [.handle], laidTests := true, laidLooks := .later }
def FileTurnedUptoCardSaid : Prop := Claim7.holds Tryd.pinned (.plain (OpenSpec.upto fileTurnedSpec)) fileTurnedUptoCard

/-- THE SECOND FORM's CARD OF 'roundsmanlaw5.FileInner'. -/
def fileInnerUptoCard : Claim7 := { stood := { row := fileInnerUptoRow, standIns := [], harness := (true, "6d30b8d5d393782eb666b80d7757990e63d6dc3f393aaeb9a5ed3e2752d18bdd"), looks := true }, kinds := [], alts := [], laidByText := true, laidKinds := [.handle], laidTests := true, laidLooks := .later }
def FileInnerUptoCardSaid : Prop := Claim7.holds Tryd.pinned (.plain (OpenSpec.upto fileInnerSpec)) fileInnerUptoCard

/-- THE SECOND FORM's CARD OF 'roundsmanlaw5.FileApart'. -/
def fileApartUptoCard : Claim7 := { stood := { row := fileApartUptoRow, standIns := [], harness := (true, "6d30b8d5d393782eb666b80d7757990e63d6dc3f393aaeb9a5ed3e2752d18bdd"), looks := true }, kinds := [], alts := [], laidByText := true, laidKinds := [.handle], laidTests := true, laidLooks := .later }
def FileApartUptoCardSaid : Prop := Claim7.holds Tryd.pinned (.plain (OpenSpec.upto fileApartSpec)) fileApartUptoCard
end Rows
end Go.Proofs.YtnbciaekpbadmaaDoor

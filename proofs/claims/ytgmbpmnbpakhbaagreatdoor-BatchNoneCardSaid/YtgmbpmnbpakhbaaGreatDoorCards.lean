/-
  DERIVED. GIVEN WITH THE SEED: THE CARDS: each row of YtgmbpmnbpakhbaaGreatDoorRows.lean that lists a variable, with what it lists TIED to the program's text (the seventh form; the later family's looks); each row that meets fmt, with fmt's text TOLD by the authors' own Lean function (tested against real Go, not proved from fmt's source: count such statements apart). THE CARD IS WHAT COUNTS. Prove the row's statement (the work); the ties are given (YtgmbpmnbpakhbaaGreatDoorTie.lean); close each card by the builder's one call (the guide's Derived/Test/ToyasCard.lean, 'card_holds'). Laid BY PROGRAM, IN A SANDBOX (cutbox-door.mjs). By AI agents, Wed Nov 11 2026. No macro, syntax, notation, axiom, sorry.
-/
import Derived.Test.YtgmbpmnbpakhbaaGreatDoorRows
import GoSem.ClaimSeven
namespace Go.Proofs.YtgmbpmnbpakhbaaGreatDoor
namespace Rows

/-- THE TIED CARD OF 'roundsmanlaw19.BatchAny'. -/
def batchAnyCard : Claim7 := { stood := { row := batchAnyRow, standIns := [], harness := (true, "5edbd36fe2aa8eda9a40a86a26571075151fe9f072b8af7ef3d6dfdd4f2eb6ff"), looks := true }, kinds := [], alts := [], laidByText := true, laidKinds := [.handle], laidTests := true, laidLooks := .later }
def BatchAnyCardSaid : Prop := Claim7.holds Tryz.pinned (.plain (OpenSpec.ofChange batchAnySpec)) batchAnyCard

/-- THE TIED CARD OF 'roundsmanlaw19.BatchTouches'. -/
def batchTouchesCard : Claim7 := { stood := { row := batchTouchesRow, standIns := [], harness := (true, "5edbd36fe2aa8eda9a40a86a26571075151fe9f072b8af7ef3d6dfdd4f2eb6ff"), looks := true }, kinds := [], alts := [], laidByText := true, laidKinds := [.handle], laidTests := true, laidLooks := .later }
def BatchTouchesCardSaid : Prop := Claim7.holds Tryz.pinned (.plain (OpenSpec.ofChange batchTouchesSpec)) batchTouchesCard

/-- THE TIED CARD OF 'roundsmanlaw19.BatchWhole'. -/
def batchWholeCard : Claim7 := { stood := { row := batchWholeRow, standIns := [], harness := (true, "5edbd36fe2aa8eda9a40a86a26571075151fe9f072b8af7ef3d6dfdd4f2eb6ff"), looks := true }, kinds := [], alts := [], laidByText := true, laidKinds := [.handle], laidTests := true, laidLooks := .later }
def BatchWholeCardSaid : Prop := Claim7.holds Tryz.pinned (.plain (OpenSpec.ofChange batchWholeSpec)) batchWholeCard

/-- THE TIED CARD OF 'roundsmanlaw19.BatchNone'. -/
def batchNoneCard : Claim7 := { stood := { row := batchNoneRow, standIns := [], harness := (true, "5edbd36fe2aa8eda9a40a86a26571075151fe9f072b8af7ef3d6dfdd4f2eb6ff"), looks := true }, kinds := [], alts := [], laidByText := true, laidKinds := [.handle], laidTests := true, laidLooks := .later }
def BatchNoneCardSaid : Prop := Claim7.holds Tryz.pinned (.plain (OpenSpec.ofChange batchNoneSpec)) batchNoneCard

/-- THE TIED CARD OF 'roundsmanlaw19.BatchOne'. -/
def batchOneCard : Claim7 := { stood := { row := batchOneRow, standIns := [], harness := (true, "5edbd36fe2aa8eda9a40a86a26571075151fe9f072b8af7ef3d6dfdd4f2eb6ff"), looks := true }, kinds := [], alts := [], laidByText := true, laidKinds := [.handle], laidTests := true, laidLooks := .later }
def BatchOneCardSaid : Prop := Claim7.holds Tryz.pinned (.plain (OpenSpec.ofChange batchOneSpec)) batchOneCard

/-- THE TIED CARD OF 'roundsmanlaw19.BatchMany'. -/
def batchManyCard : Claim7 := { stood := { row := batchManyRow, standIns := [], harness := (true, "5edbd36fe2aa8eda9a40a86a26571075151fe9f072b8af7ef3d6dfdd4f2eb6ff"), looks := true }, kinds := [], alts := [], laidByText := true, laidKinds := [.handle], laidTests := true, laidLooks := .later }
def BatchManyCardSaid : Prop := Claim7.holds Tryz.pinned (.plain (OpenSpec.ofChange batchManySpec)) batchManyCard

/-- THE SECOND FORM's CARD OF 'roundsmanlaw19.BatchAny'. -/
def batchAnyUptoCard : Claim7 := { stood := { row := batchAnyUptoRow, standIns := [], harness := (true, "5edbd36fe2aa8eda9a40a86a26571075151fe9f072b8af7ef3d6dfdd4f2eb6ff"), looks := true }, kinds := [], alts := [], laidByText := true, laidKinds := [.handle], laidTests := true, laidLooks := .later }
def BatchAnyUptoCardSaid : Prop := Claim7.holds Tryz.pinned (.plain (OpenSpec.upto batchAnySpec)) batchAnyUptoCard

/-- THE SECOND FORM's CARD OF 'roundsmanlaw19.BatchTouches'. -/
def batchTouchesUptoCard : Claim7 := { stood := { row := batchTouchesUptoRow, standIns := [], harness := (true, "5edbd36fe2aa8eda9a40a86a26571075151fe9f072b8af7ef3d6dfdd4f2eb6ff"), looks := true }, kinds := [], alts := [], laidByText := true, laidKinds := [.handle], laidTests := true, laidLooks := .later }
def BatchTouchesUptoCardSaid : Prop := Claim7.holds Tryz.pinned (.plain (OpenSpec.upto batchTouchesSpec)) batchTouchesUptoCard

/-- THE SECOND FORM's CARD OF 'roundsmanlaw19.BatchWhole'. -/
def batchWholeUptoCard : Claim7 := { stood := { row := batchWholeUptoRow, standIns := [], harness := (true, "5edbd36fe2aa8eda9a40a86a26571075151fe9f072b8af7ef3d6dfdd4f2eb6ff"), looks := true }, kinds := [], alts := [], laidByText := true, laidKinds := [.handle], laidTests := true, laidLooks := .later }
def BatchWholeUptoCardSaid : Prop := Claim7.holds Tryz.pinned (.plain (OpenSpec.upto batchWholeSpec)) batchWholeUptoCard

/-- THE SECOND FORM's CARD OF 'roundsmanlaw19.BatchNone'. -/
def batchNoneUptoCard : Claim7 := { stood := { row := batchNoneUptoRow, standIns := [], harness := (true, "5edbd36fe2aa8eda9a40a86a26571075151fe9f072b8af7ef3d6dfdd4f2eb6ff"), looks := true }, kinds := [], alts := [], laidByText := true, laidKinds := [.handle], laidTests := true, laidLooks := .later }
def BatchNoneUptoCardSaid : Prop := Claim7.holds Tryz.pinned (.plain (OpenSpec.upto batchNoneSpec)) batchNoneUptoCard

/-- THE SECOND FORM's CARD OF 'roundsmanlaw19.BatchOne'. -/
def batchOneUptoCard : Claim7 := { stood := { row := batchOneUptoRow, standIns := [], harness := (true, "5edbd36fe2aa8eda9a40a86a26571075151fe9f072b8af7ef3d6dfdd4f2eb6ff"), looks := true }, kinds := [], alts := [], laidByText := true, laidKinds := [.handle], laidTests := true, laidLooks := .later }
def BatchOneUptoCardSaid : Prop := Claim7.holds Tryz.pinned (.plain (OpenSpec.upto batchOneSpec)) batchOneUptoCard

/-- THE SECOND FORM's CARD OF 'roundsmanlaw19.BatchMany'. -/
def batchManyUptoCard : Claim7 := { stood := { row := batchManyUptoRow, standIns := [], harness := (true, "5edbd36fe2aa8eda9a40a86a26571075151fe9f072b8af7ef3d6dfdd4f2eb6ff"), looks := true }, kinds := [], alts := [], laidByText := true, laidKinds := [.handle], laidTests := true, laidLooks := .later }
def BatchManyUptoCardSaid : Prop := Claim7.holds Tryz.pinned (.plain (OpenSpec.upto batchManySpec)) batchManyUptoCard
end Rows
end Go.Proofs.YtgmbpmnbpakhbaaGreatDoor

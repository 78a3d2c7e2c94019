/-
  DERIVED. GIVEN WITH THE SEED: THE CARDS: each row of YtghpbaebbljppaaDoorRows.lean that lists a variable, with what it lists TIED to the program's text (the seventh form; the later family's looks); each row that meets fmt, with fmt's text TOLD by the authors' own Lean function (tested against real Go, not proved from fmt's source: count such statements apart). THE CARD IS WHAT COUNTS. Prove the row's statement (the work); the ties are given (YtghpbaebbljppaaDoorTie.lean); close each card by the builder's one call (the guide's Derived/Test/ToyasCard.lean, 'card_holds'). Laid BY PROGRAM, IN A SANDBOX (cutbox-door.mjs). By AI agents, Wed Nov 11 2026. No macro, syntax, notation, axiom, sorry.
-/
import Derived.Test.YtghpbaebbljppaaDoorRows
import GoSem.ClaimSeven
namespace Go.Proofs.YtghpbaebbljppaaDoor
namespace Rows

/-- THE TIED CARD OF 'roundsmanlaw4.WireNums'. -/
def wireNumsCard : Claim7 := { stood := { row := wireNumsRow, standIns := [], harness := (true, "774d4ea270e0911f07430c2b18c5d798a9291130a1a34336e3e67cfff6c24572"), looks := true }, kinds := [], alts := [], laidByText := true, laidKinds := [.handle], laidTests := true, laidLooks := .later }
def WireNumsCardSaid : Prop := Claim7.holds Tryd.pinned (.plain (OpenSpec.ofChange wireNumsSpec)) wireNumsCard

/-- THE TIED CARD OF 'roundsmanlaw4.WireSums'. -/
def wireSumsCard : Claim7 := { stood := { row := wireSumsRow, standIns := [], harness := (true, "774d4ea270e0911f07430c2b18c5d798a9291130a1a34336e3e67cfff6c24572"), looks := true }, kinds := [], alts := [], laidByText := true, laidKinds := [.handle], laidTests := true, laidLooks := .later }
def WireSumsCardSaid : Prop := Claim7.holds Tryd.pinned (.plain (OpenSpec.ofChange wireSumsSpec)) wireSumsCard

/-- THE TIED CARD OF 'roundsmanlaw4.WireMost'. -/
def wireMostCard : Claim7 := { stood := { row := wireMostRow, standIns := [], harness := (true, "774d4ea270e0911f07430c2b18c5d798a9291130a1a34336e3e67cfff6c24572"), looks := true }, kinds := [], alts := [], laidByText := true, laidKinds := [.handle], laidTests := true, laidLooks := .later }
def WireMostCardSaid : Prop := Claim7.holds Tryd.pinned (.plain (OpenSpec.ofChange wireMostSpec)) wireMostCard

/-- THE TIED CARD OF 'roundsmanlaw4.WireOnce'. -/
def wireOnceCard : Claim7 := { stood := { row := wireOnceRow, standIns := [], harness := (true, "774d4ea270e0911f07430c2b18c5d798a9291130a1a34336e3e67cfff6c24572"), looks := true }, kinds := [], alts := [], laidByText := true, laidKinds := [.handle], laidTests := true, laidLooks := .later }
def WireOnceCardSaid : Prop := Claim7.holds Tryd.pinned (.plain (OpenSpec.ofChange wireOnceSpec)) wireOnceCard

/-- THE TIED CARD OF 'roundsmanlaw4.WireParts'. -/
def wirePartsCard : Claim7 := { stood := { row := wirePartsRow, standIns := [], harness := (true, "774d4ea270e0911f07430c2b18c5d798a9291130a1a34336e3e67cfff6c24572"), looks := true }, kinds := [], alts := [], laidByText := true, laidKinds := [.handle], laidTests := true, laidLooks := .later }
def WirePartsCardSaid : Prop := Claim7.holds Tryd.pinned (.plain (OpenSpec.ofChange wirePartsSpec)) wirePartsCard

/-- THE SECOND FORM's CARD OF 'roundsmanlaw4.WireNums'. -/
def wireNumsUptoCard : Claim7 := { stood := { row := wireNumsUptoRow, standIns := [], harness := (true, "774d4ea270e0911f07430c2b18c5d798a9291130a1a34336e3e67cfff6c24572"), looks := true }, kinds := [], alts := [], laidByText := true, laidKinds := [.handle], laidTests := true, laidLooks := .later }
def WireNumsUptoCardSaid : Prop := Claim7.holds Tryd.pinned (.plain (OpenSpec.upto wireNumsSpec)) wireNumsUptoCard

/-- THE SECOND FORM's CARD OF 'roundsmanlaw4.WireSums'. -/
def wireSumsUptoCard : Claim7 := { stood := { row := wireSumsUptoRow, standIns := [], harness := (true, "774d4ea270e0911f07430c2b18c5d798a9291130a1a34336e3e67cfff6c24572"), looks := true }, kinds := [], alts := [], laidByText := true, laidKinds := [.handle], laidTests := true, laidLooks := .later }
def WireSumsUptoCardSaid : Prop := Claim7.holds Tryd.pinned (.plain (OpenSpec.upto wireSumsSpec)) wireSumsUptoCard

/-- THE SECOND FORM's CARD OF 'roundsmanlaw4.WireMost'. -/
def wireMostUptoCard : Claim7 := { stood := { row := wireMostUptoRow, standIns := [], harness := (true, "774d4ea270e0911f07430c2b18c5d798a9291130a1a34336e3e67cfff6c24572"), looks := true }, kinds := [], alts := [], laidByText := true, laidKinds := [.handle], laidTests := true, laidLooks := .later }
def WireMostUptoCardSaid : Prop := Claim7.holds Tryd.pinned (.plain (OpenSpec.upto wireMostSpec)) wireMostUptoCard

/-- THE SECOND FORM's CARD OF 'roundsmanlaw4.WireOnce'. -/
def wireOnceUptoCard : Claim7 := { stood := { row := wireOnceUptoRow, standIns := [], harness := (true, "774d4ea270e0911f07430c2b18c5d798a9291130a1a34336e3e67cfff6c24572"), looks := true }, kinds := [], alts := [], laidByText := true, laidKinds := [.handle], laidTests := true, laidLooks := .later }
def WireOnceUptoCardSaid : Prop := Claim7.holds Tryd.pinned (.plain (OpenSpec.upto wireOnceSpec)) wireOnceUptoCard

/-- THE SECOND FORM's CARD OF 'roundsmanlaw4.WireParts'. -/
def wirePartsUptoCard : Claim7 := { stood := { row := wirePartsUptoRow, standIns := [], harness := (true, "774d4ea270e0911f07430c2b18c5d798a9291130a1a34336e3e67cfff6c24572"), looks := true }, kinds := [], alts := [], laidByText := true, laidKinds := [.handle], laidTests := true, laidLooks := .later }
def WirePartsUptoCardSaid : Prop := Claim7.holds Tryd.pinned (.plain (OpenSpec.upto wirePartsSpec)) wirePartsUptoCard
end Rows
end Go.Proofs.YtghpbaebbljppaaDoor

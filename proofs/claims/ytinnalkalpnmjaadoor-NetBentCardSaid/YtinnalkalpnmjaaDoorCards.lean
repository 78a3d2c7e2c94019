/-
  DERIVED. GIVEN WITH THE SEED: THE CARDS: each row of YtinnalkalpnmjaaDoorRows.lean that lists a variable, with what it lists TIED to the program's text (the seventh form; the later family's looks); each row that meets fmt, with fmt's text TOLD by the authors' own Lean function (tested against real Go, not proved from fmt's source: count such statements apart). THE CARD IS WHAT COUNTS. Prove the row's statement (the work); the ties are given (YtinnalkalpnmjaaDoorTie.lean); close each card by the builder's one call (the guide's Derived/Test/ToyasCard.lean, 'card_holds'). Laid BY PROGRAM, IN A SANDBOX (cutbox-door.mjs). By AI agents, Wed Nov 11 2026. No macro, syntax, notation, axiom, sorry.
-/
import Derived.Test.YtinnalkalpnmjaaDoorRows
import GoSem.ClaimSeven
namespace Go.Proofs.YtinnalkalpnmjaaDoor
namespace Rows

/-- THE TIED CARD OF 'roundsmanlaw3.NetAny'. -/
def netAnyCard : Claim7 := { stood := { row := netAnyRow, standIns := [], harness := (true, "d87e97abe2eaefb05629f4763044e039601e9c9e9c1d0a6b4b13bec7b6218380"), looks := true }, kinds := [], alts := [], laidByText := true, laidKinds := [.handle], laidTests := true, laidLooks := .later }
def NetAnyCardSaid : Prop := Claim7.holds Tryd.pinned (.plain (OpenSpec.ofChange netAnySpec)) netAnyCard

/-- THE TIED CARD OF 'roundsmanlaw3.NetTells'. -/
def netTellsCard : Claim7 := { stood := { row := netTellsRow, standIns := [], harness := (true, "d87e97abe2eaefb05629f4763044e039601e9c9e9c1d0a6b4b13bec7b6218380"), looks := true }, kinds := [], alts := [], laidByText := true, laidKinds := [.handle], laidTests := true, laidLooks := .later }
def NetTellsCardSaid : Prop := Claim7.holds Tryd.pinned (.plain (OpenSpec.ofChange netTellsSpec)) netTellsCard

/-- THE TIED CARD OF 'roundsmanlaw3.NetWalks'. -/
def netWalksCard : Claim7 := { stood := { row := netWalksRow, standIns := [], harness := (true, "d87e97abe2eaefb05629f4763044e039601e9c9e9c1d0a6b4b13bec7b6218380"), looks := true }, kinds := [], alts := [], laidByText := true, laidKinds := [.handle], laidTests := true, laidLooks := .later }
def NetWalksCardSaid : Prop := Claim7.holds Tryd.pinned (.plain (OpenSpec.ofChange netWalksSpec)) netWalksCard

/-- THE TIED CARD OF 'roundsmanlaw3.NetGrid'. -/
def netGridCard : Claim7 := { stood := { row := netGridRow, standIns := [], harness := (true, "d87e97abe2eaefb05629f4763044e039601e9c9e9c1d0a6b4b13bec7b6218380"), looks := true }, kinds := [], alts := [], laidByText := true, laidKinds := [.handle], laidTests := true, laidLooks := .later }
def NetGridCardSaid : Prop := Claim7.holds Tryd.pinned (.plain (OpenSpec.ofChange netGridSpec)) netGridCard

/-- THE TIED CARD OF 'roundsmanlaw3.NetParts'. -/
def netPartsCard : Claim7 := { stood := { row := netPartsRow, standIns := [], harness := (true, "d87e97abe2eaefb05629f4763044e039601e9c9e9c1d0a6b4b13bec7b6218380"), looks := true }, kinds := [], alts := [], laidByText := true, laidKinds := [.handle], laidTests := true, laidLooks := .later }
def NetPartsCardSaid : Prop := Claim7.holds Tryd.pinned (.plain (OpenSpec.ofChange netPartsSpec)) netPartsCard

/-- THE TIED CARD OF 'roundsmanlaw3.NetBent'. -/
def netBentCard : Claim7 := { stood := { row := netBentRow, standIns := [], harness := (true, "d87e97abe2eaefb05629f4763044e039601e9c9e9c1d0a6b4b13bec7b6218380"), looks := true }, kinds := [], alts := [], laidByText := true, laidKinds := [.handle], laidTests := true, laidLooks := .later }
def NetBentCardSaid : Prop := Claim7.holds Tryd.pinned (.plain (OpenSpec.ofChange netBentSpec)) netBentCard

/-- THE TIED CARD OF 'roundsmanlaw3.NetDegrees'. -/
def netDegreesCard : Claim7 := { stood := { row := netDegreesRow, standIns := [], harness := (true, "d87e97abe2eaefb05629f4763044e039601e9c9e9c1d0a6b4b13bec7b6218380"), looks := true }, kinds := [], alts := [], laidByText := true, laidKinds := [.handle], laidTests := true, laidLooks := .later }
def NetDegreesCardSaid : Prop := Claim7.holds Tryd.pinned (.plain (OpenSpec.ofChange netDegreesSpec)) netDegreesCard

/-- THE SECOND FORM's CARD OF 'roundsmanlaw3.NetAny'. -/
def netAnyUptoCard : Claim7 := { stood := { row := netAnyUptoRow, standIns := [], harness := (true, "d87e97abe2eaefb05629f4763044e039601e9c9e9c1d0a6b4b13bec7b6218380"), looks := true }, kinds := [], alts := [], laidByText := true, laidKinds := [.handle], laidTests := true, laidLooks := .later }
def NetAnyUptoCardSaid : Prop := Claim7.holds Tryd.pinned (.plain (OpenSpec.upto netAnySpec)) netAnyUptoCard

/-- THE SECOND FORM's CARD OF 'roundsmanlaw3.NetTells'. -/
def netTellsUptoCard : Claim7 := { stood := { row := netTellsUptoRow, standIns := [], harness := (true, "d87e97abe2eaefb05629f4763044e039601e9c9e9c1d0a6b4b13bec7b6218380"), looks := true }, kinds := [], alts := [], laidByText := true, laidKinds := [.handle], laidTests := true, laidLooks := .later }
def NetTellsUptoCardSaid : Prop := Claim7.holds Tryd.pinned (.plain (OpenSpec.upto netTellsSpec)) netTellsUptoCard

/-- THE SECOND FORM's CARD OF 'roundsmanlaw3.NetWalks'. -/
def netWalksUptoCard : Claim7 := { stood := { row := netWalksUptoRow, standIns := [], harness := (true, "d87e97abe2eaefb05629f4763044e039601e9c9e9c1d0a6b4b13bec7b6218380"), looks := true }, kinds := [], alts := [], laidByText := true, laidKinds := [.handle], laidTests := true, laidLooks := .later }
def NetWalksUptoCardSaid : Prop := Claim7.holds Tryd.pinned (.plain (OpenSpec.upto netWalksSpec)) netWalksUptoCard

/-- THE SECOND FORM's CARD OF 'roundsmanlaw3.NetGrid'. -/
def netGridUptoCard : Claim7 := { stood := { row := netGridUptoRow, standIns := [], harness := (true, "d87e97abe2eaefb05629f4763044e039601e9c9e9c1d0a6b4b13bec7b6218380"), looks := true }, kinds := [], alts := [], laidByText := true, laidKinds := [.handle], laidTests := true, laidLooks := .later }
def NetGridUptoCardSaid : Prop := Claim7.holds Tryd.pinned (.plain (OpenSpec.upto netGridSpec)) netGridUptoCard

/-- THE SECOND FORM's CARD OF 'roundsmanlaw3.NetParts'. -/
def netPartsUptoCard : Claim7 := { stood := { row := netPartsUptoRow, standIns := [], harness := (true, "d87e97abe2eaefb05629f4763044e039601e9c9e9c1d0a6b4b13bec7b6218380"), looks := true }, kinds := [], alts := [], laidByText := true, laidKinds := [.handle], laidTests := true, laidLooks := .later }
def NetPartsUptoCardSaid : Prop := Claim7.holds Tryd.pinned (.plain (OpenSpec.upto netPartsSpec)) netPartsUptoCard

/-- THE SECOND FORM's CARD OF 'roundsmanlaw3.NetBent'. -/
def netBentUptoCard : Claim7 := { stood := { row := netBentUptoRow, standIns := [], harness := (true, "d87e97abe2eaefb05629f4763044e039601e9c9e9c1d0a6b4b13bec7b6218380"), looks := true }, kinds := [], alts := [], laidByText := true, laidKinds := [.handle], laidTests := true, laidLooks := .later }
def NetBentUptoCardSaid : Prop := Claim7.holds Tryd.pinned (.plain (OpenSpec.upto netBentSpec)) netBentUptoCard

/-- THE SECOND FORM's CARD OF 'roundsmanlaw3.NetDegrees'. -/
def netDegreesUptoCard : Claim7 := { stood := { row := netDegreesUptoRow, standIns := [], harness := (true, "d87e97abe2eaefb05629f4763044e039601e9c9e9c1d0a6b4b13bec7b6218380"), looks := true }, kinds := [], alts := [], laidByText := true, laidKinds := [.handle], laidTests := true, laidLooks := .later }
def NetDegreesUptoCardSaid : Prop := Claim7.holds Tryd.pinned (.plain (OpenSpec.upto netDegreesSpec)) netDegreesUptoCard
end Rows
end Go.Proofs.YtinnalkalpnmjaaDoor

/-
  NARROWER THAN 'FOR EVERY INPUT', by the rows' own cells (each row's printed sentence says how): NetAny: laid · NetTells: laid · NetWalks: laid · NetGrid: laid · NetParts: laid · NetBent: laid · NetDegrees: laid.
  DERIVED. THE GIVEN ROWS OF THIS SEAT. 7 by the template 'for every input the law returns true; each argument reads behind the call as it read before'; 0 by the template 'total and deterministic' (their statements: YtinnalkalpnmjaaDoorTotals.lean).
  GIVEN WITH THE SEED: the statements are not yours to turn. If you find one false, say at which input.
  Laid BY PROGRAM, IN A SANDBOX (cutbox-rows.mjs): the forced cells as the released guide's own fill.sh prints them over the translation 4f7dc46ddedeb014… (all of the seat's roots in one cut). By AI agents, Wed Nov 11 2026. No macro, syntax, notation, axiom, sorry.
-/
import Derived.Test.YtinnalkalpnmjaaDoorChecked
import GoSem.Claim
import GoSem.ClaimJoined
import GoSem.ClaimMapViews
import Derived.JoinedTies
import Derived.KernelRfl
namespace Go.Proofs.YtinnalkalpnmjaaDoor
/- THE CELL 'sum', in the pinned program and in every row, IS THE sha256 OF THE DUMP (.gsa) THAT YtinnalkalpnmjaaDoorProg.lean LOADS. Nothing in Lean hashes anything: it is a label: what it is worth is what the hold of that sum in a sandbox is worth. -/
noncomputable def Tryd.pinned : Pinned := { name := "ytinnalkalpnmjaadoor", sum := "4f7dc46ddedeb014059b2e733a2bfe5e8e9c6b0cf241663a3d9ea3610fa5a939", checked := Tryd.checked }
namespace Rows
def none {H : Type} : Left H := { results := [], args := [] }

/- WHAT THE LISTED PACKAGE-LEVEL VARIABLES READ AS WHEN THE CALL BEGINS. Each datum BY PROGRAM (the guide's laid-datum.mjs) off the statement by which the dump's own 'gosem.cut.vars' lays the variable. In a bare row this is a premise. The card (YtinnalkalpnmjaaDoorCards.lean) ties it to the program's text. -/
def laid_errors_errorType {H : Type} : DataW H := .iface "internal/reflectlite.rtype" (.agg [.ptr (.lit (.string [101, 114, 114, 111, 114]))])

/-- 'roundsmanlaw3.NetAny': WHATEVER THE INPUT: true; the input reads as it did. -/
def netAnySpec : ChangeSpec := { name := "netAny", fn := fun _ => fun
  | [d1, d2] => { results := [.lit (.bool true)], args := [d1, d2] }
  | _ => none }
def netAnyRow : OpenClaim := { program := "ytinnalkalpnmjaadoor", sum := "4f7dc46ddedeb014059b2e733a2bfe5e8e9c6b0cf241663a3d9ea3610fa5a939", func := "roundsman/roundsmanlaw3.NetAny", spec := "netAny", inPlace := ["internal/reflectlite.TypeOf", "internal/reflectlite.ValueOf", "(internal/reflectlite.Value).Type", "(internal/reflectlite.Value).IsNil", "(internal/reflectlite.Value).Elem", "(internal/reflectlite.Value).Set"], unfollowed := true, recurses := true, named := ["errors.errorType"], apart := false, laid := [("errors.errorType", laid_errors_errorType)] }
def NetAnySaid : Prop := netAnyRow.holds Tryd.pinned (OpenSpec.ofChange netAnySpec)

/-- ITS FALSE NEIGHBOUR: 'it returns false'. Refute it at one input. -/
def netAnyWrong : ChangeSpec := { name := "netAny", fn := fun _ => fun
  | [d1, d2] => { results := [.lit (.bool false)], args := [d1, d2] }
  | _ => none }
def NetAnyWrongFalsely : Prop := netAnyRow.holds Tryd.pinned (OpenSpec.ofChange netAnyWrong)

/-- 'roundsmanlaw3.NetTells': WHATEVER THE INPUT: true; the input reads as it did. -/
def netTellsSpec : ChangeSpec := { name := "netTells", fn := fun _ => fun
  | [d1, d2, d3, d4] => { results := [.lit (.bool true)], args := [d1, d2, d3, d4] }
  | _ => none }
def netTellsRow : OpenClaim := { program := "ytinnalkalpnmjaadoor", sum := "4f7dc46ddedeb014059b2e733a2bfe5e8e9c6b0cf241663a3d9ea3610fa5a939", func := "roundsman/roundsmanlaw3.NetTells", spec := "netTells", inPlace := ["internal/reflectlite.TypeOf", "internal/reflectlite.ValueOf", "(internal/reflectlite.Value).Type", "(internal/reflectlite.Value).IsNil", "(internal/reflectlite.Value).Elem", "(internal/reflectlite.Value).Set"], unfollowed := true, recurses := true, named := ["errors.errorType"], apart := false, laid := [("errors.errorType", laid_errors_errorType)] }
def NetTellsSaid : Prop := netTellsRow.holds Tryd.pinned (OpenSpec.ofChange netTellsSpec)

/-- ITS FALSE NEIGHBOUR: 'it returns false'. Refute it at one input. -/
def netTellsWrong : ChangeSpec := { name := "netTells", fn := fun _ => fun
  | [d1, d2, d3, d4] => { results := [.lit (.bool false)], args := [d1, d2, d3, d4] }
  | _ => none }
def NetTellsWrongFalsely : Prop := netTellsRow.holds Tryd.pinned (OpenSpec.ofChange netTellsWrong)

/-- 'roundsmanlaw3.NetWalks': WHATEVER THE INPUT: true; the input reads as it did. -/
def netWalksSpec : ChangeSpec := { name := "netWalks", fn := fun _ => fun
  | [d1, d2] => { results := [.lit (.bool true)], args := [d1, d2] }
  | _ => none }
def netWalksRow : OpenClaim := { program := "ytinnalkalpnmjaadoor", sum := "4f7dc46ddedeb014059b2e733a2bfe5e8e9c6b0cf241663a3d9ea3610fa5a939", func := "roundsman/roundsmanlaw3.NetWalks", spec := "netWalks", inPlace := ["internal/reflectlite.TypeOf", "internal/reflectlite.ValueOf", "(internal/reflectlite.Value).Type", "(internal/reflectlite.Value).IsNil", "(internal/reflectlite.Value).Elem", "(internal/reflectlite.Value).Set"], unfollowed := true, recurses := true, named := ["errors.errorType"], apart := false, laid := [("errors.errorType", laid_errors_errorType)] }
def NetWalksSaid : Prop := netWalksRow.holds Tryd.pinned (OpenSpec.ofChange netWalksSpec)

/-- ITS FALSE NEIGHBOUR: 'it returns false'. Refute it at one input. -/
def netWalksWrong : ChangeSpec := { name := "netWalks", fn := fun _ => fun
  | [d1, d2] => { results := [.lit (.bool false)], args := [d1, d2] }
  | _ => none }
def NetWalksWrongFalsely : Prop := netWalksRow.holds Tryd.pinned (OpenSpec.ofChange netWalksWrong)

/-- 'roundsmanlaw3.NetGrid': WHATEVER THE INPUT: true; the input reads as it did. -/
def netGridSpec : ChangeSpec := { name := "netGrid", fn := fun _ => fun
  | [d] => { results := [.lit (.bool true)], args := [d] }
  | _ => none }
def netGridRow : OpenClaim := { program := "ytinnalkalpnmjaadoor", sum := "4f7dc46ddedeb014059b2e733a2bfe5e8e9c6b0cf241663a3d9ea3610fa5a939", func := "roundsman/roundsmanlaw3.NetGrid", spec := "netGrid", inPlace := ["internal/reflectlite.TypeOf", "internal/reflectlite.ValueOf", "(internal/reflectlite.Value).Type", "(internal/reflectlite.Value).IsNil", "(internal/reflectlite.Value).Elem", "(internal/reflectlite.Value).Set"], unfollowed := true, recurses := true, named := ["errors.errorType"], apart := false, laid := [("errors.errorType", laid_errors_errorType)] }
def NetGridSaid : Prop := netGridRow.holds Tryd.pinned (OpenSpec.ofChange netGridSpec)

/-- ITS FALSE NEIGHBOUR: 'it returns false'. Refute it at one input. -/
def netGridWrong : ChangeSpec := { name := "netGrid", fn := fun _ => fun
  | [d] => { results := [.lit (.bool false)], args := [d] }
  | _ => none }
def NetGridWrongFalsely : Prop := netGridRow.holds Tryd.pinned (OpenSpec.ofChange netGridWrong)

/-- 'roundsmanlaw3.NetParts': WHATEVER THE INPUT: true; the input reads as it did. -/
def netPartsSpec : ChangeSpec := { name := "netParts", fn := fun _ => fun
  | [d1, d2, d3] => { results := [.lit (.bool true)], args := [d1, d2, d3] }
  | _ => none }
def netPartsRow : OpenClaim := { program := "ytinnalkalpnmjaadoor", sum := "4f7dc46ddedeb014059b2e733a2bfe5e8e9c6b0cf241663a3d9ea3610fa5a939", func := "roundsman/roundsmanlaw3.NetParts", spec := "netParts", inPlace := ["internal/reflectlite.TypeOf", "internal/reflectlite.ValueOf", "(internal/reflectlite.Value).Type", "(internal/reflectlite.Value).IsNil", "(internal/reflectlite.Value).Elem", "(internal/reflectlite.Value).Set"], unfollowed := true, recurses := true, named := ["errors.errorType"], apart := false, laid := [("errors.errorType", laid_errors_errorType)] }
def NetPartsSaid : Prop := netPartsRow.holds Tryd.pinned (OpenSpec.ofChange netPartsSpec)

/-- ITS FALSE NEIGHBOUR: 'it returns false'. Refute it at one input. -/
def netPartsWrong : ChangeSpec := { name := "netParts", fn := fun _ => fun
  | [d1, d2, d3] => { results := [.lit (.bool false)], args := [d1, d2, d3] }
  | _ => none }
def NetPartsWrongFalsely : Prop := netPartsRow.holds Tryd.pinned (OpenSpec.ofChange netPartsWrong)

/-- 'roundsmanlaw3.NetBent': WHATEVER THE INPUT: true; the input reads as it did. -/
def netBentSpec : ChangeSpec := { name := "netBent", fn := fun _ => fun
  | [d1, d2, d3, d4] => { results := [.lit (.bool true)], args := [d1, d2, d3, d4] }
  | _ => none }
def netBentRow : OpenClaim := { program := "ytinnalkalpnmjaadoor", sum := "4f7dc46ddedeb014059b2e733a2bfe5e8e9c6b0cf241663a3d9ea3610fa5a939", func := "roundsman/roundsmanlaw3.NetBent", spec := "netBent", inPlace := ["internal/reflectlite.TypeOf", "internal/reflectlite.ValueOf", "(internal/reflectlite.Value).Type", "(internal/reflectlite.Value).IsNil", "(internal/reflectlite.Value).Elem", "(internal/reflectlite.Value).Set"], unfollowed := true, recurses := true, named := ["errors.errorType"], apart := false, laid := [("errors.errorType", laid_errors_errorType)] }
def NetBentSaid : Prop := netBentRow.holds Tryd.pinned (OpenSpec.ofChange netBentSpec)

/-- ITS FALSE NEIGHBOUR: 'it returns false'. Refute it at one input. -/
def netBentWrong : ChangeSpec := { name := "netBent", fn := fun _ => fun
  | [d1, d2, d3, d4] => { results := [.lit (.bool false)], args := [d1, d2, d3, d4] }
  | _ => none }
def NetBentWrongFalsely : Prop := netBentRow.holds Tryd.pinned (OpenSpec.ofChange netBentWrong)

/-- 'roundsmanlaw3.NetDegrees': WHATEVER THE INPUT: true; the input reads as it did. -/
def netDegreesSpec : ChangeSpec := { name := "netDegrees", fn := fun _ => fun
  | [d1, d2] => { results := [.lit (.bool true)], args := [d1, d2] }
  | _ => none }
def netDegreesRow : OpenClaim := { program := "ytinnalkalpnmjaadoor", sum := "4f7dc46ddedeb014059b2e733a2bfe5e8e9c6b0cf241663a3d9ea3610fa5a939", func := "roundsman/roundsmanlaw3.NetDegrees", spec := "netDegrees", inPlace := ["internal/reflectlite.TypeOf", "internal/reflectlite.ValueOf", "(internal/reflectlite.Value).Type", "(internal/reflectlite.Value).IsNil", "(internal/reflectlite.Value).Elem", "(internal/reflectlite.Value).Set"], unfollowed := true, recurses := true, named := ["errors.errorType"], apart := false, laid := [("errors.errorType", laid_errors_errorType)] }
def NetDegreesSaid : Prop := netDegreesRow.holds Tryd.pinned (OpenSpec.ofChange netDegreesSpec)

/-- ITS FALSE NEIGHBOUR: 'it returns false'. Refute it at one input. -/
def netDegreesWrong : ChangeSpec := { name := "netDegrees", fn := fun _ => fun
  | [d1, d2] => { results := [.lit (.bool false)], args := [d1, d2] }
  | _ => none }
def NetDegreesWrongFalsely : Prop := netDegreesRow.holds Tryd.pinned (OpenSpec.ofChange netDegreesWrong)

/- THE SECOND FORM. 'bulk': how many values and letters a reading holds, each counted each time it is reached (what is shared counts as often as it is met; a slice's spare places count too). A statement '..UptoSaid' is the law's where the arguments, and the package variables that the reading takes, are together of bulk at most 1048576: NARROWER than '..Said'. Prove '..Said' where nothing that the law and all that it calls make is longer than what came in: it says more and counts as full. Else prove '..UptoSaid'. A law counts once. -/
mutual
def uptoBulk {H : Type} : DataW H → Nat
  | .lit (.string bytes) => bytes.length + 1
  | .lit _ => 1
  | .nil => 1
  | .ptr d => uptoBulk d + 1
  | .slice elems spare => uptoBulkAll elems + uptoBulkAll spare + 1
  | .agg parts => uptoBulkAll parts + 1
  | .iface _ d => uptoBulk d + 1
  | .map entries => uptoBulkEntries entries + 1
  | .held _ => 1
def uptoBulkAll {H : Type} : List (DataW H) → Nat
  | [] => 0
  | d :: r => uptoBulk d + uptoBulkAll r
def uptoBulkEntries {H : Type} : List (Lit × DataW H) → Nat
  | [] => 0
  | x :: r => uptoBulkEntry x + uptoBulkEntries r
def uptoBulkEntry {H : Type} : Lit × DataW H → Nat
  | (.string bytes, d) => bytes.length + uptoBulk d + 1
  | (_, d) => uptoBulk d + 1
 end
def uptoSmall : (H : Type) → List (DataW H) → Bool := fun _ ds => decide (uptoBulkAll ds ≤ 1048576)
def OpenSpec.upto (s : _root_.Go.ChangeSpec) : _root_.Go.OpenSpec := { _root_.Go.OpenSpec.ofChange s with cond := some uptoSmall }

/-- 'roundsmanlaw3.NetAny', WHERE WHAT IT READS IS OF BULK AT MOST 1048576: true; the input reads as it did. -/
def netAnyUptoRow : OpenClaim := { program := "ytinnalkalpnmjaadoor", sum := "4f7dc46ddedeb014059b2e733a2bfe5e8e9c6b0cf241663a3d9ea3610fa5a939", func := "roundsman/roundsmanlaw3.NetAny", spec := "netAny", inPlace := ["internal/reflectlite.TypeOf", "internal/reflectlite.ValueOf", "(internal/reflectlite.Value).Type", "(internal/reflectlite.Value).IsNil", "(internal/reflectlite.Value).Elem", "(internal/reflectlite.Value).Set"], unfollowed := true, recurses := true, named := ["errors.errorType"], apart := false, laid := [("errors.errorType", laid_errors_errorType)], narrowed := true }
def NetAnyUptoSaid : Prop := netAnyUptoRow.holds Tryd.pinned (OpenSpec.upto netAnySpec)

/-- 'roundsmanlaw3.NetTells', WHERE WHAT IT READS IS OF BULK AT MOST 1048576: true; the input reads as it did. -/
def netTellsUptoRow : OpenClaim := { program := "ytinnalkalpnmjaadoor", sum := "4f7dc46ddedeb014059b2e733a2bfe5e8e9c6b0cf241663a3d9ea3610fa5a939", func := "roundsman/roundsmanlaw3.NetTells", spec := "netTells", inPlace := ["internal/reflectlite.TypeOf", "internal/reflectlite.ValueOf", "(internal/reflectlite.Value).Type", "(internal/reflectlite.Value).IsNil", "(internal/reflectlite.Value).Elem", "(internal/reflectlite.Value).Set"], unfollowed := true, recurses := true, named := ["errors.errorType"], apart := false, laid := [("errors.errorType", laid_errors_errorType)], narrowed := true }
def NetTellsUptoSaid : Prop := netTellsUptoRow.holds Tryd.pinned (OpenSpec.upto netTellsSpec)

/-- 'roundsmanlaw3.NetWalks', WHERE WHAT IT READS IS OF BULK AT MOST 1048576: true; the input reads as it did. -/
def netWalksUptoRow : OpenClaim := { program := "ytinnalkalpnmjaadoor", sum := "4f7dc46ddedeb014059b2e733a2bfe5e8e9c6b0cf241663a3d9ea3610fa5a939", func := "roundsman/roundsmanlaw3.NetWalks", spec := "netWalks", inPlace := ["internal/reflectlite.TypeOf", "internal/reflectlite.ValueOf", "(internal/reflectlite.Value).Type", "(internal/reflectlite.Value).IsNil", "(internal/reflectlite.Value).Elem", "(internal/reflectlite.Value).Set"], unfollowed := true, recurses := true, named := ["errors.errorType"], apart := false, laid := [("errors.errorType", laid_errors_errorType)], narrowed := true }
def NetWalksUptoSaid : Prop := netWalksUptoRow.holds Tryd.pinned (OpenSpec.upto netWalksSpec)

/-- 'roundsmanlaw3.NetGrid', WHERE WHAT IT READS IS OF BULK AT MOST 1048576: true; the input reads as it did. -/
def netGridUptoRow : OpenClaim := { program := "ytinnalkalpnmjaadoor", sum := "4f7dc46ddedeb014059b2e733a2bfe5e8e9c6b0cf241663a3d9ea3610fa5a939", func := "roundsman/roundsmanlaw3.NetGrid", spec := "netGrid", inPlace := ["internal/reflectlite.TypeOf", "internal/reflectlite.ValueOf", "(internal/reflectlite.Value).Type", "(internal/reflectlite.Value).IsNil", "(internal/reflectlite.Value).Elem", "(internal/reflectlite.Value).Set"], unfollowed := true, recurses := true, named := ["errors.errorType"], apart := false, laid := [("errors.errorType", laid_errors_errorType)], narrowed := true }
def NetGridUptoSaid : Prop := netGridUptoRow.holds Tryd.pinned (OpenSpec.upto netGridSpec)

/-- 'roundsmanlaw3.NetParts', WHERE WHAT IT READS IS OF BULK AT MOST 1048576: true; the input reads as it did. -/
def netPartsUptoRow : OpenClaim := { program := "ytinnalkalpnmjaadoor", sum := "4f7dc46ddedeb014059b2e733a2bfe5e8e9c6b0cf241663a3d9ea3610fa5a939", func := "roundsman/roundsmanlaw3.NetParts", spec := "netParts", inPlace := ["internal/reflectlite.TypeOf", "internal/reflectlite.ValueOf", "(internal/reflectlite.Value).Type", "(internal/reflectlite.Value).IsNil", "(internal/reflectlite.Value).Elem", "(internal/reflectlite.Value).Set"], unfollowed := true, recurses := true, named := ["errors.errorType"], apart := false, laid := [("errors.errorType", laid_errors_errorType)], narrowed := true }
def NetPartsUptoSaid : Prop := netPartsUptoRow.holds Tryd.pinned (OpenSpec.upto netPartsSpec)

/-- 'roundsmanlaw3.NetBent', WHERE WHAT IT READS IS OF BULK AT MOST 1048576: true; the input reads as it did. -/
def netBentUptoRow : OpenClaim := { program := "ytinnalkalpnmjaadoor", sum := "4f7dc46ddedeb014059b2e733a2bfe5e8e9c6b0cf241663a3d9ea3610fa5a939", func := "roundsman/roundsmanlaw3.NetBent", spec := "netBent", inPlace := ["internal/reflectlite.TypeOf", "internal/reflectlite.ValueOf", "(internal/reflectlite.Value).Type", "(internal/reflectlite.Value).IsNil", "(internal/reflectlite.Value).Elem", "(internal/reflectlite.Value).Set"], unfollowed := true, recurses := true, named := ["errors.errorType"], apart := false, laid := [("errors.errorType", laid_errors_errorType)], narrowed := true }
def NetBentUptoSaid : Prop := netBentUptoRow.holds Tryd.pinned (OpenSpec.upto netBentSpec)

/-- 'roundsmanlaw3.NetDegrees', WHERE WHAT IT READS IS OF BULK AT MOST 1048576: true; the input reads as it did. -/
def netDegreesUptoRow : OpenClaim := { program := "ytinnalkalpnmjaadoor", sum := "4f7dc46ddedeb014059b2e733a2bfe5e8e9c6b0cf241663a3d9ea3610fa5a939", func := "roundsman/roundsmanlaw3.NetDegrees", spec := "netDegrees", inPlace := ["internal/reflectlite.TypeOf", "internal/reflectlite.ValueOf", "(internal/reflectlite.Value).Type", "(internal/reflectlite.Value).IsNil", "(internal/reflectlite.Value).Elem", "(internal/reflectlite.Value).Set"], unfollowed := true, recurses := true, named := ["errors.errorType"], apart := false, laid := [("errors.errorType", laid_errors_errorType)], narrowed := true }
def NetDegreesUptoSaid : Prop := netDegreesUptoRow.holds Tryd.pinned (OpenSpec.upto netDegreesSpec)

end Rows
end Go.Proofs.YtinnalkalpnmjaaDoor

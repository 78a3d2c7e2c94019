/-
  NARROWER THAN 'FOR EVERY INPUT', by the rows' own cells (each row's printed sentence says how): FlowProves: laid · FlowCuts: laid · FlowTurned: laid · FlowRows: laid · FlowMore: laid.
  DERIVED. THE GIVEN ROWS OF THIS SEAT. 5 by the template 'for every input the law returns true; each argument reads behind the call as it read before'; 0 by the template 'total and deterministic' (their statements: YtmamhkolgnoefaaDoorTotals.lean).
  GIVEN WITH THE SEED: the statements are not yours to turn. If you find one false, say at which input.
  Laid BY PROGRAM, IN A SANDBOX (cutbox-rows.mjs): the forced cells as the released guide's own fill.sh prints them over the translation 486556192e06dc0b… (all of the seat's roots in one cut). By AI agents, Wed Nov 11 2026. No macro, syntax, notation, axiom, sorry.
-/
import Derived.Test.YtmamhkolgnoefaaDoorChecked
import GoSem.Claim
import GoSem.ClaimJoined
import GoSem.ClaimMapViews
import Derived.JoinedTies
import Derived.KernelRfl
namespace Go.Proofs.YtmamhkolgnoefaaDoor
/- THE CELL 'sum', in the pinned program and in every row, IS THE sha256 OF THE DUMP (.gsa) THAT YtmamhkolgnoefaaDoorProg.lean LOADS. Nothing in Lean hashes anything: it is a label: what it is worth is what the hold of that sum in a sandbox is worth. -/
noncomputable def Tryd.pinned : Pinned := { name := "ytmamhkolgnoefaadoor", sum := "486556192e06dc0bab74944e6365619ec99803a8e61538a42f74194fc4f83568", checked := Tryd.checked }
namespace Rows
def none {H : Type} : Left H := { results := [], args := [] }

/- WHAT THE LISTED PACKAGE-LEVEL VARIABLES READ AS WHEN THE CALL BEGINS. Each datum BY PROGRAM (the guide's laid-datum.mjs) off the statement by which the dump's own 'gosem.cut.vars' lays the variable. In a bare row this is a premise. The card (YtmamhkolgnoefaaDoorCards.lean) ties it to the program's text. -/
def laid_errors_errorType {H : Type} : DataW H := .iface "internal/reflectlite.rtype" (.agg [.ptr (.lit (.string [101, 114, 114, 111, 114]))])

/-- 'roundsmanlaw9.FlowProves': WHATEVER THE INPUT: true; the input reads as it did. -/
def flowProvesSpec : ChangeSpec := { name := "flowProves", fn := fun _ => fun
  | [d1, d2, d3, d4, d5] => { results := [.lit (.bool true)], args := [d1, d2, d3, d4, d5] }
  | _ => none }
def flowProvesRow : OpenClaim := { program := "ytmamhkolgnoefaadoor", sum := "486556192e06dc0bab74944e6365619ec99803a8e61538a42f74194fc4f83568", func := "roundsman/roundsmanlaw9.FlowProves", spec := "flowProves", inPlace := ["internal/reflectlite.TypeOf", "internal/reflectlite.ValueOf", "(internal/reflectlite.Value).Type", "(internal/reflectlite.Value).IsNil", "(internal/reflectlite.Value).Elem", "(internal/reflectlite.Value).Set"], unfollowed := true, recurses := true, named := ["errors.errorType"], apart := false, laid := [("errors.errorType", laid_errors_errorType)] }
def FlowProvesSaid : Prop := flowProvesRow.holds Tryd.pinned (OpenSpec.ofChange flowProvesSpec)

/-- ITS FALSE NEIGHBOUR: 'it returns false'. Refute it at one input. -/
def flowProvesWrong : ChangeSpec := { name := "flowProves", fn := fun _ => fun
  | [d1, d2, d3, d4, d5] => { results := [.lit (.bool false)], args := [d1, d2, d3, d4, d5] }
  | _ => none }
def FlowProvesWrongFalsely : Prop := flowProvesRow.holds Tryd.pinned (OpenSpec.ofChange flowProvesWrong)

/-- 'roundsmanlaw9.FlowCuts': WHATEVER THE INPUT: true; the input reads as it did. -/
def flowCutsSpec : ChangeSpec := { name := "flowCuts", fn := fun _ => fun
  | [d1, d2, d3, d4, d5] => { results := [.lit (.bool true)], args := [d1, d2, d3, d4, d5] }
  | _ => none }
def flowCutsRow : OpenClaim := { program := "ytmamhkolgnoefaadoor", sum := "486556192e06dc0bab74944e6365619ec99803a8e61538a42f74194fc4f83568", func := "roundsman/roundsmanlaw9.FlowCuts", spec := "flowCuts", inPlace := ["internal/reflectlite.TypeOf", "internal/reflectlite.ValueOf", "(internal/reflectlite.Value).Type", "(internal/reflectlite.Value).IsNil", "(internal/reflectlite.Value).Elem", "(internal/reflectlite.Value).Set"], unfollowed := true, recurses := true, named := ["errors.errorType"], apart := false, laid := [("errors.errorType", laid_errors_errorType)] }
def FlowCutsSaid : Prop := flowCutsRow.holds Tryd.pinned (OpenSpec.ofChange flowCutsSpec)

/-- ITS FALSE NEIGHBOUR: 'it returns false'. Refute it at one input. -/
def flowCutsWrong : ChangeSpec := { name := "flowCuts", fn := fun _ => fun
  | [d1, d2, d3, d4, d5] => { results := [.lit (.bool false)], args := [d1, d2, d3, d4, d5] }
  | _ => none }
def FlowCutsWrongFalsely : Prop := flowCutsRow.holds Tryd.pinned (OpenSpec.ofChange flowCutsWrong)

/-- 'roundsmanlaw9.FlowTurned': WHATEVER THE INPUT: true; the input reads as it did. -/
def flowTurnedSpec : ChangeSpec := { name := "flowTurned", fn := fun _ => fun
  | [d1, d2, d3, d4] => { results := [.lit (.bool true)], args := [d1, d2, d3, d4] }
  | _ => none }
def flowTurnedRow : OpenClaim := { program := "ytmamhkolgnoefaadoor", sum := "486556192e06dc0bab74944e6365619ec99803a8e61538a42f74194fc4f83568", func := "roundsman/roundsmanlaw9.FlowTurned", spec := "flowTurned", inPlace := ["internal/reflectlite.TypeOf", "internal/reflectlite.ValueOf", "(internal/reflectlite.Value).Type", "(internal/reflectlite.Value).IsNil", "(internal/reflectlite.Value).Elem", "(internal/reflectlite.Value).Set"], unfollowed := true, recurses := true, named := ["errors.errorType"], apart := false, laid := [("errors.errorType", laid_errors_errorType)] }
def FlowTurnedSaid : Prop := flowTurnedRow.holds Tryd.pinned (OpenSpec.ofChange flowTurnedSpec)

/-- ITS FALSE NEIGHBOUR: 'it returns false'. Refute it at one input. -/
def flowTurnedWrong : ChangeSpec := { name := "flowTurned", fn := fun _ => fun
  | [d1, d2, d3, d4] => { results := [.lit (.bool false)], args := [d1, d2, d3, d4] }
  | _ => none }
def FlowTurnedWrongFalsely : Prop := flowTurnedRow.holds Tryd.pinned (OpenSpec.ofChange flowTurnedWrong)

/-- 'roundsmanlaw9.FlowRows': WHATEVER THE INPUT: true; the input reads as it did. -/
def flowRowsSpec : ChangeSpec := { name := "flowRows", fn := fun _ => fun
  | [d1, d2, d3] => { results := [.lit (.bool true)], args := [d1, d2, d3] }
  | _ => none }
def flowRowsRow : OpenClaim := { program := "ytmamhkolgnoefaadoor", sum := "486556192e06dc0bab74944e6365619ec99803a8e61538a42f74194fc4f83568", func := "roundsman/roundsmanlaw9.FlowRows", spec := "flowRows", inPlace := ["internal/reflectlite.TypeOf", "internal/reflectlite.ValueOf", "(internal/reflectlite.Value).Type", "(internal/reflectlite.Value).IsNil", "(internal/reflectlite.Value).Elem", "(internal/reflectlite.Value).Set"], unfollowed := true, recurses := true, named := ["errors.errorType"], apart := false, laid := [("errors.errorType", laid_errors_errorType)] }
def FlowRowsSaid : Prop := flowRowsRow.holds Tryd.pinned (OpenSpec.ofChange flowRowsSpec)

/-- ITS FALSE NEIGHBOUR: 'it returns false'. Refute it at one input. -/
def flowRowsWrong : ChangeSpec := { name := "flowRows", fn := fun _ => fun
  | [d1, d2, d3] => { results := [.lit (.bool false)], args := [d1, d2, d3] }
  | _ => none }
def FlowRowsWrongFalsely : Prop := flowRowsRow.holds Tryd.pinned (OpenSpec.ofChange flowRowsWrong)

/-- 'roundsmanlaw9.FlowMore': WHATEVER THE INPUT: true; the input reads as it did. -/
def flowMoreSpec : ChangeSpec := { name := "flowMore", fn := fun _ => fun
  | [d1, d2, d3, d4, d5, d6] => { results := [.lit (.bool true)], args := [d1, d2, d3, d4, d5, d6] }
  | _ => none }
def flowMoreRow : OpenClaim := { program := "ytmamhkolgnoefaadoor", sum := "486556192e06dc0bab74944e6365619ec99803a8e61538a42f74194fc4f83568", func := "roundsman/roundsmanlaw9.FlowMore", spec := "flowMore", inPlace := ["internal/reflectlite.TypeOf", "internal/reflectlite.ValueOf", "(internal/reflectlite.Value).Type", "(internal/reflectlite.Value).IsNil", "(internal/reflectlite.Value).Elem", "(internal/reflectlite.Value).Set"], unfollowed := true, recurses := true, named := ["errors.errorType"], apart := false, laid := [("errors.errorType", laid_errors_errorType)] }
def FlowMoreSaid : Prop := flowMoreRow.holds Tryd.pinned (OpenSpec.ofChange flowMoreSpec)

/-- ITS FALSE NEIGHBOUR: 'it returns false'. Refute it at one input. -/
def flowMoreWrong : ChangeSpec := { name := "flowMore", fn := fun _ => fun
  | [d1, d2, d3, d4, d5, d6] => { results := [.lit (.bool false)], args := [d1, d2, d3, d4, d5, d6] }
  | _ => none }
def FlowMoreWrongFalsely : Prop := flowMoreRow.holds Tryd.pinned (OpenSpec.ofChange flowMoreWrong)

/- THE SECOND FORM. 'bulk': how many values and letters a reading holds, each counted each time it is reached (what is shared counts as often as it is met; a slice's spare places count too). A statement '..UptoSaid' is the law's where the arguments, and the package variables that the reading takes, are together of bulk at most 1048576: NARROWER than '..Said'. Prove '..Said' where nothing that the law and all that it calls make is longer than what came in: it says more and counts as full. Else prove '..UptoSaid'. A law counts once. -/
mutual
def uptoBulk {H : Type} : DataW H → Nat
  | .lit (.string bytes) => bytes.length + 1
  | .lit _ => 1
  | .nil => 1
  | .ptr d => uptoBulk d + 1
  | .slice elems spare => uptoBulkAll elems + uptoBulkAll spare + 1
  | .agg parts => uptoBulkAll parts + 1
  | .iface _ d => uptoBulk d + 1
  | .map entries => uptoBulkEntries entries + 1
  | .held _ => 1
def uptoBulkAll {H : Type} : List (DataW H) → Nat
  | [] => 0
  | d :: r => uptoBulk d + uptoBulkAll r
def uptoBulkEntries {H : Type} : List (Lit × DataW H) → Nat
  | [] => 0
  | x :: r => uptoBulkEntry x + uptoBulkEntries r
def uptoBulkEntry {H : Type} : Lit × DataW H → Nat
  | (.string bytes, d) => bytes.length + uptoBulk d + 1
  | (_, d) => uptoBulk d + 1
 end
def uptoSmall : (H : Type) → List (DataW H) → Bool := fun _ ds => decide (uptoBulkAll ds ≤ 1048576)
def OpenSpec.upto (s : _root_.Go.ChangeSpec) : _root_.Go.OpenSpec := { _root_.Go.OpenSpec.ofChange s with cond := some uptoSmall }

/-- 'roundsmanlaw9.FlowProves', WHERE WHAT IT READS IS OF BULK AT MOST 1048576: true; the input reads as it did. -/
def flowProvesUptoRow : OpenClaim := { program := "ytmamhkolgnoefaadoor", sum := "486556192e06dc0bab74944e6365619ec99803a8e61538a42f74194fc4f83568", func := "roundsman/roundsmanlaw9.FlowProves", spec := "flowProves", inPlace := ["internal/reflectlite.TypeOf", "internal/reflectlite.ValueOf", "(internal/reflectlite.Value).Type", "(internal/reflectlite.Value).IsNil", "(internal/reflectlite.Value).Elem", "(internal/reflectlite.Value).Set"], unfollowed := true, recurses := true, named := ["errors.errorType"], apart := false, laid := [("errors.errorType", laid_errors_errorType)], narrowed := true }
def FlowProvesUptoSaid : Prop := flowProvesUptoRow.holds Tryd.pinned (OpenSpec.upto flowProvesSpec)

/-- 'roundsmanlaw9.FlowCuts', WHERE WHAT IT READS IS OF BULK AT MOST 1048576: true; the input reads as it did. -/
def flowCutsUptoRow : OpenClaim := { program := "ytmamhkolgnoefaadoor", sum := "486556192e06dc0bab74944e6365619ec99803a8e61538a42f74194fc4f83568", func := "roundsman/roundsmanlaw9.FlowCuts", spec := "flowCuts", inPlace := ["internal/reflectlite.TypeOf", "internal/reflectlite.ValueOf", "(internal/reflectlite.Value).Type", "(internal/reflectlite.Value).IsNil", "(internal/reflectlite.Value).Elem", "(internal/reflectlite.Value).Set"], unfollowed := true, recurses := true, named := ["errors.errorType"], apart := false, laid := [("errors.errorType", laid_errors_errorType)], narrowed := true }
def FlowCutsUptoSaid : Prop := flowCutsUptoRow.holds Tryd.pinned (OpenSpec.upto flowCutsSpec)

/-- 'roundsmanlaw9.FlowTurned', WHERE WHAT IT READS IS OF BULK AT MOST 1048576: true; the input reads as it did. -/
def flowTurnedUptoRow : OpenClaim := { program := "ytmamhkolgnoefaadoor", sum := "486556192e06dc0bab74944e6365619ec99803a8e61538a42f74194fc4f83568", func := "roundsman/roundsmanlaw9.FlowTurned", spec := "flowTurned", inPlace := ["internal/reflectlite.TypeOf", "internal/reflectlite.ValueOf", "(internal/reflectlite.Value).Type", "(internal/reflectlite.Value).IsNil", "(internal/reflectlite.Value).Elem", "(internal/reflectlite.Value).Set"], unfollowed := true, recurses := true, named := ["errors.errorType"], apart := false, laid := [("errors.errorType", laid_errors_errorType)], narrowed := true }
def FlowTurnedUptoSaid : Prop := flowTurnedUptoRow.holds Tryd.pinned (OpenSpec.upto flowTurnedSpec)

/-- 'roundsmanlaw9.FlowRows', WHERE WHAT IT READS IS OF BULK AT MOST 1048576: true; the input reads as it did. -/
def flowRowsUptoRow : OpenClaim := { program := "ytmamhkolgnoefaadoor", sum := "486556192e06dc0bab74944e6365619ec99803a8e61538a42f74194fc4f83568", func := "roundsman/roundsmanlaw9.FlowRows", spec := "flowRows", inPlace := ["internal/reflectlite.TypeOf", "internal/reflectlite.ValueOf", "(internal/reflectlite.Value).Type", "(internal/reflectlite.Value).IsNil", "(internal/reflectlite.Value).Elem", "(internal/reflectlite.Value).Set"], unfollowed := true, recurses := true, named := ["errors.errorType"], apart := false, laid := [("errors.errorType", laid_errors_errorType)], narrowed := true }
def FlowRowsUptoSaid : Prop := flowRowsUptoRow.holds Tryd.pinned (OpenSpec.upto flowRowsSpec)

/-- 'roundsmanlaw9.FlowMore', WHERE WHAT IT READS IS OF BULK AT MOST 1048576: true; the input reads as it did. -/
def flowMoreUptoRow : OpenClaim := { program := "ytmamhkolgnoefaadoor", sum := "486556192e06dc0bab74944e6365619ec99803a8e61538a42f74194fc4f83568", func := "roundsman/roundsmanlaw9.FlowMore", spec := "flowMore", inPlace := ["internal/reflectlite.TypeOf", "internal/reflectlite.ValueOf", "(internal/reflectlite.Value).Type", "(internal/reflectlite.Value).IsNil", "(internal/reflectlite.Value).Elem", "(internal/reflectlite.Value).Set"], unfollowed := true, recurses := true, named := ["errors.errorType"], apart := false, laid := [("errors.errorType", laid_errors_errorType)], narrowed := true }
def FlowMoreUptoSaid : Prop := flowMoreUptoRow.holds Tryd.pinned (OpenSpec.upto flowMoreSpec)

end Rows
end Go.Proofs.YtmamhkolgnoefaaDoor

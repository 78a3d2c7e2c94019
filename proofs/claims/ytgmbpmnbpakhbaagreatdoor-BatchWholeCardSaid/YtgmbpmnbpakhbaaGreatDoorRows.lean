/-
  NARROWER THAN 'FOR EVERY INPUT', by the rows' own cells (each row's printed sentence says how): BatchAny: laid · BatchTouches: laid · BatchWhole: laid · BatchNone: laid · BatchOne: laid · BatchMany: laid.
  DERIVED. THE GIVEN ROWS OF THIS SEAT. 6 by the template 'for every input the law returns true; each argument reads behind the call as it read before'; 0 by the template 'total and deterministic' (their statements: YtgmbpmnbpakhbaaGreatDoorTotals.lean).
  GIVEN WITH THE SEED: the statements are not yours to turn. If you find one false, say at which input.
  Laid BY PROGRAM, IN A SANDBOX (cutbox-rows.mjs): the forced cells as the released guide's own fill.sh prints them over the translation 3d3033c75aedc1af… (all of the seat's roots in one cut). By AI agents, Wed Nov 11 2026. No macro, syntax, notation, axiom, sorry.
-/
import Derived.Test.YtgmbpmnbpakhbaaGreatDoorChecked
import GoSem.Claim
import GoSem.ClaimJoined
import GoSem.ClaimMapViews
import Derived.JoinedTies
import Derived.KernelRfl
namespace Go.Proofs.YtgmbpmnbpakhbaaGreatDoor
/- THE CELL 'sum', in the pinned program and in every row, IS THE sha256 OF THE DUMP (.gsa) THAT YtgmbpmnbpakhbaaGreatDoorProg.lean LOADS. Nothing in Lean hashes anything: it is a label: what it is worth is what the hold of that sum in a sandbox is worth. -/
noncomputable def Tryz.pinned : Pinned := { name := "ytgmbpmnbpakhbaagreatdoor", sum := "3d3033c75aedc1afbcdf1e0d1f1131a0aea7552e8b359257f6d8f754c83fb1e1", checked := Tryz.checked }
namespace Rows
def none {H : Type} : Left H := { results := [], args := [] }

/- WHAT THE LISTED PACKAGE-LEVEL VARIABLES READ AS WHEN THE CALL BEGINS. Each datum BY PROGRAM (the guide's laid-datum.mjs) off the statement by which the dump's own 'gosem.cut.vars' lays the variable. In a bare row this is a premise. The card (YtgmbpmnbpakhbaaGreatDoorCards.lean) ties it to the program's text. -/
def laid_errors_errorType {H : Type} : DataW H := .iface "internal/reflectlite.rtype" (.agg [.ptr (.lit (.string [101, 114, 114, 111, 114]))])

/-- 'roundsmanlaw19.BatchAny': WHATEVER THE INPUT: true; the input reads as it did. -/
def batchAnySpec : ChangeSpec := { name := "batchAny", fn := fun _ => fun
  | [d1, d2] => { results := [.lit (.bool true)], args := [d1, d2] }
  | _ => none }
def batchAnyRow : OpenClaim := { program := "ytgmbpmnbpakhbaagreatdoor", sum := "3d3033c75aedc1afbcdf1e0d1f1131a0aea7552e8b359257f6d8f754c83fb1e1", func := "roundsman/roundsmanlaw19.BatchAny", spec := "batchAny", inPlace := ["internal/reflectlite.TypeOf", "internal/reflectlite.ValueOf", "(internal/reflectlite.Value).Type", "(internal/reflectlite.Value).IsNil", "(internal/reflectlite.Value).Elem", "(internal/reflectlite.Value).Set"], unfollowed := true, recurses := true, named := ["errors.errorType"], plainKeys := false, apart := false, laid := [("errors.errorType", laid_errors_errorType)] }
def BatchAnySaid : Prop := batchAnyRow.holds Tryz.pinned (OpenSpec.ofChange batchAnySpec)

/-- ITS FALSE NEIGHBOUR: 'it returns false'. Refute it at one input. -/
def batchAnyWrong : ChangeSpec := { name := "batchAny", fn := fun _ => fun
  | [d1, d2] => { results := [.lit (.bool false)], args := [d1, d2] }
  | _ => none }
def BatchAnyWrongFalsely : Prop := batchAnyRow.holds Tryz.pinned (OpenSpec.ofChange batchAnyWrong)

/-- 'roundsmanlaw19.BatchTouches': WHATEVER THE INPUT: true; the input reads as it did. -/
def batchTouchesSpec : ChangeSpec := { name := "batchTouches", fn := fun _ => fun
  | [d1, d2, d3] => { results := [.lit (.bool true)], args := [d1, d2, d3] }
  | _ => none }
def batchTouchesRow : OpenClaim := { program := "ytgmbpmnbpakhbaagreatdoor", sum := "3d3033c75aedc1afbcdf1e0d1f1131a0aea7552e8b359257f6d8f754c83fb1e1", func := "roundsman/roundsmanlaw19.BatchTouches", spec := "batchTouches", inPlace := ["internal/reflectlite.TypeOf", "internal/reflectlite.ValueOf", "(internal/reflectlite.Value).Type", "(internal/reflectlite.Value).IsNil", "(internal/reflectlite.Value).Elem", "(internal/reflectlite.Value).Set"], unfollowed := true, recurses := true, named := ["errors.errorType"], plainKeys := false, apart := false, laid := [("errors.errorType", laid_errors_errorType)] }
def BatchTouchesSaid : Prop := batchTouchesRow.holds Tryz.pinned (OpenSpec.ofChange batchTouchesSpec)

/-- ITS FALSE NEIGHBOUR: 'it returns false'. Refute it at one input. -/
def batchTouchesWrong : ChangeSpec := { name := "batchTouches", fn := fun _ => fun
  | [d1, d2, d3] => { results := [.lit (.bool false)], args := [d1, d2, d3] }
  | _ => none }
def BatchTouchesWrongFalsely : Prop := batchTouchesRow.holds Tryz.pinned (OpenSpec.ofChange batchTouchesWrong)

/-- 'roundsmanlaw19.BatchWhole': WHATEVER THE INPUT: true; the input reads as it did. -/
def batchWholeSpec : ChangeSpec := { name := "batchWhole", fn := fun _ => fun
  | [d1, d2, d3, d4] => { results := [.lit (.bool true)], args := [d1, d2, d3, d4] }
  | _ => none }
def batchWholeRow : OpenClaim := { program := "ytgmbpmnbpakhbaagreatdoor", sum := "3d3033c75aedc1afbcdf1e0d1f1131a0aea7552e8b359257f6d8f754c83fb1e1", func := "roundsman/roundsmanlaw19.BatchWhole", spec := "batchWhole", inPlace := ["internal/reflectlite.TypeOf", "internal/reflectlite.ValueOf", "(internal/reflectlite.Value).Type", "(internal/reflectlite.Value).IsNil", "(internal/reflectlite.Value).Elem", "(internal/reflectlite.Value).Set"], unfollowed := true, recurses := true, named := ["errors.errorType"], plainKeys := false, apart := false, laid := [("errors.errorType", laid_errors_errorType)] }
def BatchWholeSaid : Prop := batchWholeRow.holds Tryz.pinned (OpenSpec.ofChange batchWholeSpec)

/-- ITS FALSE NEIGHBOUR: 'it returns false'. Refute it at one input. -/
def batchWholeWrong : ChangeSpec := { name := "batchWhole", fn := fun _ => fun
  | [d1, d2, d3, d4] => { results := [.lit (.bool false)], args := [d1, d2, d3, d4] }
  | _ => none }
def BatchWholeWrongFalsely : Prop := batchWholeRow.holds Tryz.pinned (OpenSpec.ofChange batchWholeWrong)

/-- 'roundsmanlaw19.BatchNone': WHATEVER THE INPUT: true; the input reads as it did. -/
def batchNoneSpec : ChangeSpec := { name := "batchNone", fn := fun _ => fun
  | [d1, d2, d3] => { results := [.lit (.bool true)], args := [d1, d2, d3] }
  | _ => none }
def batchNoneRow : OpenClaim := { program := "ytgmbpmnbpakhbaagreatdoor", sum := "3d3033c75aedc1afbcdf1e0d1f1131a0aea7552e8b359257f6d8f754c83fb1e1", func := "roundsman/roundsmanlaw19.BatchNone", spec := "batchNone", inPlace := ["internal/reflectlite.TypeOf", "internal/reflectlite.ValueOf", "(internal/reflectlite.Value).Type", "(internal/reflectlite.Value).IsNil", "(internal/reflectlite.Value).Elem", "(internal/reflectlite.Value).Set"], unfollowed := true, recurses := true, named := ["errors.errorType"], plainKeys := false, apart := false, laid := [("errors.errorType", laid_errors_errorType)] }
def BatchNoneSaid : Prop := batchNoneRow.holds Tryz.pinned (OpenSpec.ofChange batchNoneSpec)

/-- ITS FALSE NEIGHBOUR: 'it returns false'. Refute it at one input. -/
def batchNoneWrong : ChangeSpec := { name := "batchNone", fn := fun _ => fun
  | [d1, d2, d3] => { results := [.lit (.bool false)], args := [d1, d2, d3] }
  | _ => none }
def BatchNoneWrongFalsely : Prop := batchNoneRow.holds Tryz.pinned (OpenSpec.ofChange batchNoneWrong)

/-- 'roundsmanlaw19.BatchOne': WHATEVER THE INPUT: true; the input reads as it did. -/
def batchOneSpec : ChangeSpec := { name := "batchOne", fn := fun _ => fun
  | [d1, d2, d3, d4, d5, d6] => { results := [.lit (.bool true)], args := [d1, d2, d3, d4, d5, d6] }
  | _ => none }
def batchOneRow : OpenClaim := { program := "ytgmbpmnbpakhbaagreatdoor", sum := "3d3033c75aedc1afbcdf1e0d1f1131a0aea7552e8b359257f6d8f754c83fb1e1", func := "roundsman/roundsmanlaw19.BatchOne", spec := "batchOne", inPlace := ["internal/reflectlite.TypeOf", "internal/reflectlite.ValueOf", "(internal/reflectlite.Value).Type", "(internal/reflectlite.Value).IsNil", "(internal/reflectlite.Value).Elem", "(internal/reflectlite.Value).Set"], unfollowed := true, recurses := true, named := ["errors.errorType"], plainKeys := false, apart := false, laid := [("errors.errorType", laid_errors_errorType)] }
def BatchOneSaid : Prop := batchOneRow.holds Tryz.pinned (OpenSpec.ofChange batchOneSpec)

/-- ITS FALSE NEIGHBOUR: 'it returns false'. Refute it at one input. -/
def batchOneWrong : ChangeSpec := { name := "batchOne", fn := fun _ => fun
  | [d1, d2, d3, d4, d5, d6] => { results := [.lit (.bool false)], args := [d1, d2, d3, d4, d5, d6] }
  | _ => none }
def BatchOneWrongFalsely : Prop := batchOneRow.holds Tryz.pinned (OpenSpec.ofChange batchOneWrong)

/-- 'roundsmanlaw19.BatchMany': WHATEVER THE INPUT: true; the input reads as it did. -/
def batchManySpec : ChangeSpec := { name := "batchMany", fn := fun _ => fun
  | [d] => { results := [.lit (.bool true)], args := [d] }
  | _ => none }
def batchManyRow : OpenClaim := { program := "ytgmbpmnbpakhbaagreatdoor", sum := "3d3033c75aedc1afbcdf1e0d1f1131a0aea7552e8b359257f6d8f754c83fb1e1", func := "roundsman/roundsmanlaw19.BatchMany", spec := "batchMany", inPlace := ["internal/reflectlite.TypeOf", "internal/reflectlite.ValueOf", "(internal/reflectlite.Value).Type", "(internal/reflectlite.Value).IsNil", "(internal/reflectlite.Value).Elem", "(internal/reflectlite.Value).Set"], unfollowed := true, recurses := true, named := ["errors.errorType"], plainKeys := false, apart := false, laid := [("errors.errorType", laid_errors_errorType)] }
def BatchManySaid : Prop := batchManyRow.holds Tryz.pinned (OpenSpec.ofChange batchManySpec)

/-- ITS FALSE NEIGHBOUR: 'it returns false'. Refute it at one input. -/
def batchManyWrong : ChangeSpec := { name := "batchMany", fn := fun _ => fun
  | [d] => { results := [.lit (.bool false)], args := [d] }
  | _ => none }
def BatchManyWrongFalsely : Prop := batchManyRow.holds Tryz.pinned (OpenSpec.ofChange batchManyWrong)

/- THE SECOND FORM. 'bulk': how many values and letters a reading holds, each counted each time it is reached (what is shared counts as often as it is met; a slice's spare places count too). A statement '..UptoSaid' is the law's where the arguments, and the package variables that the reading takes, are together of bulk at most 1048576: NARROWER than '..Said'. Prove '..Said' where nothing that the law and all that it calls make is longer than what came in: it says more and counts as full. Else prove '..UptoSaid'. A law counts once. -/
mutual
def uptoBulk {H : Type} : DataW H → Nat
  | .lit (.string bytes) => bytes.length + 1
  | .lit _ => 1
  | .nil => 1
  | .ptr d => uptoBulk d + 1
  | .slice elems spare => uptoBulkAll elems + uptoBulkAll spare + 1
  | .agg parts => uptoBulkAll parts + 1
  | .iface _ d => uptoBulk d + 1
  | .map entries => uptoBulkEntries entries + 1
  | .held _ => 1
def uptoBulkAll {H : Type} : List (DataW H) → Nat
  | [] => 0
  | d :: r => uptoBulk d + uptoBulkAll r
def uptoBulkEntries {H : Type} : List (Lit × DataW H) → Nat
  | [] => 0
  | x :: r => uptoBulkEntry x + uptoBulkEntries r
def uptoBulkEntry {H : Type} : Lit × DataW H → Nat
  | (.string bytes, d) => bytes.length + uptoBulk d + 1
  | (_, d) => uptoBulk d + 1
 end
def uptoSmall : (H : Type) → List (DataW H) → Bool := fun _ ds => decide (uptoBulkAll ds ≤ 1048576)
def OpenSpec.upto (s : _root_.Go.ChangeSpec) : _root_.Go.OpenSpec := { _root_.Go.OpenSpec.ofChange s with cond := some uptoSmall }

/-- 'roundsmanlaw19.BatchAny', WHERE WHAT IT READS IS OF BULK AT MOST 1048576: true; the input reads as it did. -/
def batchAnyUptoRow : OpenClaim := { program := "ytgmbpmnbpakhbaagreatdoor", sum := "3d3033c75aedc1afbcdf1e0d1f1131a0aea7552e8b359257f6d8f754c83fb1e1", func := "roundsman/roundsmanlaw19.BatchAny", spec := "batchAny", inPlace := ["internal/reflectlite.TypeOf", "internal/reflectlite.ValueOf", "(internal/reflectlite.Value).Type", "(internal/reflectlite.Value).IsNil", "(internal/reflectlite.Value).Elem", "(internal/reflectlite.Value).Set"], unfollowed := true, recurses := true, named := ["errors.errorType"], plainKeys := false, apart := false, laid := [("errors.errorType", laid_errors_errorType)], narrowed := true }
def BatchAnyUptoSaid : Prop := batchAnyUptoRow.holds Tryz.pinned (OpenSpec.upto batchAnySpec)

/-- 'roundsmanlaw19.BatchTouches', WHERE WHAT IT READS IS OF BULK AT MOST 1048576: true; the input reads as it did. -/
def batchTouchesUptoRow : OpenClaim := { program := "ytgmbpmnbpakhbaagreatdoor", sum := "3d3033c75aedc1afbcdf1e0d1f1131a0aea7552e8b359257f6d8f754c83fb1e1", func := "roundsman/roundsmanlaw19.BatchTouches", spec := "batchTouches", inPlace := ["internal/reflectlite.TypeOf", "internal/reflectlite.ValueOf", "(internal/reflectlite.Value).Type", "(internal/reflectlite.Value).IsNil", "(internal/reflectlite.Value).Elem", "(internal/reflectlite.Value).Set"], unfollowed := true, recurses := true, named := ["errors.errorType"], plainKeys := false, apart := false, laid := [("errors.errorType", laid_errors_errorType)], narrowed := true }
def BatchTouchesUptoSaid : Prop := batchTouchesUptoRow.holds Tryz.pinned (OpenSpec.upto batchTouchesSpec)

/-- 'roundsmanlaw19.BatchWhole', WHERE WHAT IT READS IS OF BULK AT MOST 1048576: true; the input reads as it did. -/
def batchWholeUptoRow : OpenClaim := { program := "ytgmbpmnbpakhbaagreatdoor", sum := "3d3033c75aedc1afbcdf1e0d1f1131a0aea7552e8b359257f6d8f754c83fb1e1", func := "roundsman/roundsmanlaw19.BatchWhole", spec := "batchWhole", inPlace := ["internal/reflectlite.TypeOf", "internal/reflectlite.ValueOf", "(internal/reflectlite.Value).Type", "(internal/reflectlite.Value).IsNil", "(internal/reflectlite.Value).Elem", "(internal/reflectlite.Value).Set"], unfollowed := true, recurses := true, named := ["errors.errorType"], plainKeys := false, apart := false, laid := [("errors.errorType", laid_errors_errorType)], narrowed := true }
def BatchWholeUptoSaid : Prop := batchWholeUptoRow.holds Tryz.pinned (OpenSpec.upto batchWholeSpec)

/-- 'roundsmanlaw19.BatchNone', WHERE WHAT IT READS IS OF BULK AT MOST 1048576: true; the input reads as it did. -/
def batchNoneUptoRow : OpenClaim := { program := "ytgmbpmnbpakhbaagreatdoor", sum := "3d3033c75aedc1afbcdf1e0d1f1131a0aea7552e8b359257f6d8f754c83fb1e1", func := "roundsman/roundsmanlaw19.BatchNone", spec := "batchNone", inPlace := ["internal/reflectlite.TypeOf", "internal/reflectlite.ValueOf", "(internal/reflectlite.Value).Type", "(internal/reflectlite.Value).IsNil", "(internal/reflectlite.Value).Elem", "(internal/reflectlite.Value).Set"], unfollowed := true, recurses := true, named := ["errors.errorType"], plainKeys := false, apart := false, laid := [("errors.errorType", laid_errors_errorType)], narrowed := true }
def BatchNoneUptoSaid : Prop := batchNoneUptoRow.holds Tryz.pinned (OpenSpec.upto batchNoneSpec)

/-- 'roundsmanlaw19.BatchOne', WHERE WHAT IT READS IS OF BULK AT MOST 1048576: true; the input reads as it did. -/
def batchOneUptoRow : OpenClaim := { program := "ytgmbpmnbpakhbaagreatdoor", sum := "3d3033c75aedc1afbcdf1e0d1f1131a0aea7552e8b359257f6d8f754c83fb1e1", func := "roundsman/roundsmanlaw19.BatchOne", spec := "batchOne", inPlace := ["internal/reflectlite.TypeOf", "internal/reflectlite.ValueOf", "(internal/reflectlite.Value).Type", "(internal/reflectlite.Value).IsNil", "(internal/reflectlite.Value).Elem", "(internal/reflectlite.Value).Set"], unfollowed := true, recurses := true, named := ["errors.errorType"], plainKeys := false, apart := false, laid := [("errors.errorType", laid_errors_errorType)], narrowed := true }
def BatchOneUptoSaid : Prop := batchOneUptoRow.holds Tryz.pinned (OpenSpec.upto batchOneSpec)

/-- 'roundsmanlaw19.BatchMany', WHERE WHAT IT READS IS OF BULK AT MOST 1048576: true; the input reads as it did. -/
def batchManyUptoRow : OpenClaim := { program := "ytgmbpmnbpakhbaagreatdoor", sum := "3d3033c75aedc1afbcdf1e0d1f1131a0aea7552e8b359257f6d8f754c83fb1e1", func := "roundsman/roundsmanlaw19.BatchMany", spec := "batchMany", inPlace := ["internal/reflectlite.TypeOf", "internal/reflectlite.ValueOf", "(internal/reflectlite.Value).Type", "(internal/reflectlite.Value).IsNil", "(internal/reflectlite.Value).Elem", "(internal/reflectlite.Value).Set"], unfollowed := true, recurses := true, named := ["errors.errorType"], plainKeys := false, apart := false, laid := [("errors.errorType", laid_errors_errorType)], narrowed := true }
def BatchManyUptoSaid : Prop := batchManyUptoRow.holds Tryz.pinned (OpenSpec.upto batchManySpec)

end Rows
end Go.Proofs.YtgmbpmnbpakhbaaGreatDoor

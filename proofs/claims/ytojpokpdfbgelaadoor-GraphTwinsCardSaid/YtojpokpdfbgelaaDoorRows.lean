/-
  NARROWER THAN 'FOR EVERY INPUT', by the rows' own cells (each row's printed sentence says how): GraphPlays: laid · GraphBack: laid · GraphTwins: laid · GraphTypes: laid · GraphTells: laid.
  DERIVED. THE GIVEN ROWS OF THIS SEAT. 5 by the template 'for every input the law returns true; each argument reads behind the call as it read before'; 0 by the template 'total and deterministic' (their statements: YtojpokpdfbgelaaDoorTotals.lean).
  GIVEN WITH THE SEED: the statements are not yours to turn. If you find one false, say at which input.
  Laid BY PROGRAM, IN A SANDBOX (cutbox-rows.mjs): the forced cells as the released guide's own fill.sh prints them over the translation facc3c2ff7f998bb… (all of the seat's roots in one cut). By AI agents, Wed Nov 11 2026. No macro, syntax, notation, axiom, sorry.
-/
import Derived.Test.YtojpokpdfbgelaaDoorChecked
import GoSem.Claim
import GoSem.ClaimJoined
import GoSem.ClaimMapViews
import Derived.JoinedTies
import Derived.KernelRfl
namespace Go.Proofs.YtojpokpdfbgelaaDoor
/- THE CELL 'sum', in the pinned program and in every row, IS THE sha256 OF THE DUMP (.gsa) THAT YtojpokpdfbgelaaDoorProg.lean LOADS. Nothing in Lean hashes anything: it is a label: what it is worth is what the hold of that sum in a sandbox is worth. -/
noncomputable def Tryd.pinned : Pinned := { name := "ytojpokpdfbgelaadoor", sum := "facc3c2ff7f998bb5e98041f25ab27a526755c2aa32eb3487ce0eb9b9656da1f", checked := Tryd.checked }
namespace Rows
def none {H : Type} : Left H := { results := [], args := [] }

/- WHAT THE LISTED PACKAGE-LEVEL VARIABLES READ AS WHEN THE CALL BEGINS. Each datum BY PROGRAM (the guide's laid-datum.mjs) off the statement by which the dump's own 'gosem.cut.vars' lays the variable. In a bare row this is a premise. The card (YtojpokpdfbgelaaDoorCards.lean) ties it to the program's text. -/
def laid_errors_errorType {H : Type} : DataW H := .iface "internal/reflectlite.rtype" (.agg [.ptr (.lit (.string [101, 114, 114, 111, 114]))])

/-- 'roundsmanlaw6.GraphPlays': WHATEVER THE INPUT: true; the input reads as it did. -/
def graphPlaysSpec : ChangeSpec := { name := "graphPlays", fn := fun _ => fun
  | [d1, d2] => { results := [.lit (.bool true)], args := [d1, d2] }
  | _ => none }
def graphPlaysRow : OpenClaim := { program := "ytojpokpdfbgelaadoor", sum := "facc3c2ff7f998bb5e98041f25ab27a526755c2aa32eb3487ce0eb9b9656da1f", func := "roundsman/roundsmanlaw6.GraphPlays", spec := "graphPlays", inPlace := ["internal/reflectlite.TypeOf", "internal/reflectlite.ValueOf", "(internal/reflectlite.Value).Type", "(internal/reflectlite.Value).IsNil", "(internal/reflectlite.Value).Elem", "(internal/reflectlite.Value).Set"], unfollowed := true, recurses := true, named := ["errors.errorType"], apart := false, laid := [("errors.errorType", laid_errors_errorType)] }
def GraphPlaysSaid : Prop := graphPlaysRow.holds Tryd.pinned (OpenSpec.ofChange graphPlaysSpec)

/-- ITS FALSE NEIGHBOUR: 'it returns false'. Refute it at one input. -/
def graphPlaysWrong : ChangeSpec := { name := "graphPlays", fn := fun _ => fun
  | [d1, d2] => { results := [.lit (.bool false)], args := [d1, d2] }
  | _ => none }
def GraphPlaysWrongFalsely : Prop := graphPlaysRow.holds Tryd.pinned (OpenSpec.ofChange graphPlaysWrong)

/-- 'roundsmanlaw6.GraphBack': WHATEVER THE INPUT: true; the input reads as it did. -/
def graphBackSpec : ChangeSpec := { name := "graphBack", fn := fun _ => fun
  | [d1, d2, d3, d4, d5, d6] => { results := [.lit (.bool true)], args := [d1, d2, d3, d4, d5, d6] }
  | _ => none }
def graphBackRow : OpenClaim := { program := "ytojpokpdfbgelaadoor", sum := "facc3c2ff7f998bb5e98041f25ab27a526755c2aa32eb3487ce0eb9b9656da1f", func := "roundsman/roundsmanlaw6.GraphBack", spec := "graphBack", inPlace := ["internal/reflectlite.TypeOf", "internal/reflectlite.ValueOf", "(internal/reflectlite.Value).Type", "(internal/reflectlite.Value).IsNil", "(internal/reflectlite.Value).Elem", "(internal/reflectlite.Value).Set"], unfollowed := true, recurses := true, named := ["errors.errorType"], apart := false, laid := [("errors.errorType", laid_errors_errorType)] }
def GraphBackSaid : Prop := graphBackRow.holds Tryd.pinned (OpenSpec.ofChange graphBackSpec)

/-- ITS FALSE NEIGHBOUR: 'it returns false'. Refute it at one input. -/
def graphBackWrong : ChangeSpec := { name := "graphBack", fn := fun _ => fun
  | [d1, d2, d3, d4, d5, d6] => { results := [.lit (.bool false)], args := [d1, d2, d3, d4, d5, d6] }
  | _ => none }
def GraphBackWrongFalsely : Prop := graphBackRow.holds Tryd.pinned (OpenSpec.ofChange graphBackWrong)

/-- 'roundsmanlaw6.GraphTwins': WHATEVER THE INPUT: true; the input reads as it did. -/
def graphTwinsSpec : ChangeSpec := { name := "graphTwins", fn := fun _ => fun
  | [d1, d2, d3] => { results := [.lit (.bool true)], args := [d1, d2, d3] }
  | _ => none }
def graphTwinsRow : OpenClaim := { program := "ytojpokpdfbgelaadoor", sum := "facc3c2ff7f998bb5e98041f25ab27a526755c2aa32eb3487ce0eb9b9656da1f", func := "roundsman/roundsmanlaw6.GraphTwins", spec := "graphTwins", inPlace := ["internal/reflectlite.TypeOf", "internal/reflectlite.ValueOf", "(internal/reflectlite.Value).Type", "(internal/reflectlite.Value).IsNil", "(internal/reflectlite.Value).Elem", "(internal/reflectlite.Value).Set"], unfollowed := true, recurses := true, named := ["errors.errorType"], apart := false, laid := [("errors.errorType", laid_errors_errorType)] }
def GraphTwinsSaid : Prop := graphTwinsRow.holds Tryd.pinned (OpenSpec.ofChange graphTwinsSpec)

/-- ITS FALSE NEIGHBOUR: 'it returns false'. Refute it at one input. -/
def graphTwinsWrong : ChangeSpec := { name := "graphTwins", fn := fun _ => fun
  | [d1, d2, d3] => { results := [.lit (.bool false)], args := [d1, d2, d3] }
  | _ => none }
def GraphTwinsWrongFalsely : Prop := graphTwinsRow.holds Tryd.pinned (OpenSpec.ofChange graphTwinsWrong)

/-- 'roundsmanlaw6.GraphTypes': WHATEVER THE INPUT: true; the input reads as it did. -/
def graphTypesSpec : ChangeSpec := { name := "graphTypes", fn := fun _ => fun
  | [d1, d2, d3, d4] => { results := [.lit (.bool true)], args := [d1, d2, d3, d4] }
  | _ => none }
def graphTypesRow : OpenClaim := { program := "ytojpokpdfbgelaadoor", sum := "facc3c2ff7f998bb5e98041f25ab27a526755c2aa32eb3487ce0eb9b9656da1f", func := "roundsman/roundsmanlaw6.GraphTypes", spec := "graphTypes", inPlace := ["internal/reflectlite.TypeOf", "internal/reflectlite.ValueOf", "(internal/reflectlite.Value).Type", "(internal/reflectlite.Value).IsNil", "(internal/reflectlite.Value).Elem", "(internal/reflectlite.Value).Set"], unfollowed := true, recurses := true, named := ["errors.errorType"], apart := false, laid := [("errors.errorType", laid_errors_errorType)] }
def GraphTypesSaid : Prop := graphTypesRow.holds Tryd.pinned (OpenSpec.ofChange graphTypesSpec)

/-- ITS FALSE NEIGHBOUR: 'it returns false'. Refute it at one input. -/
def graphTypesWrong : ChangeSpec := { name := "graphTypes", fn := fun _ => fun
  | [d1, d2, d3, d4] => { results := [.lit (.bool false)], args := [d1, d2, d3, d4] }
  | _ => none }
def GraphTypesWrongFalsely : Prop := graphTypesRow.holds Tryd.pinned (OpenSpec.ofChange graphTypesWrong)

/-- 'roundsmanlaw6.GraphTells': WHATEVER THE INPUT: true; the input reads as it did. -/
def graphTellsSpec : ChangeSpec := { name := "graphTells", fn := fun _ => fun
  | [d1, d2, d3, d4] => { results := [.lit (.bool true)], args := [d1, d2, d3, d4] }
  | _ => none }
def graphTellsRow : OpenClaim := { program := "ytojpokpdfbgelaadoor", sum := "facc3c2ff7f998bb5e98041f25ab27a526755c2aa32eb3487ce0eb9b9656da1f", func := "roundsman/roundsmanlaw6.GraphTells", spec := "graphTells", inPlace := ["internal/reflectlite.TypeOf", "internal/reflectlite.ValueOf", "(internal/reflectlite.Value).Type", "(internal/reflectlite.Value).IsNil", "(internal/reflectlite.Value).Elem", "(internal/reflectlite.Value).Set"], unfollowed := true, recurses := true, named := ["errors.errorType"], apart := false, laid := [("errors.errorType", laid_errors_errorType)] }
def GraphTellsSaid : Prop := graphTellsRow.holds Tryd.pinned (OpenSpec.ofChange graphTellsSpec)

/-- ITS FALSE NEIGHBOUR: 'it returns false'. Refute it at one input. -/
def graphTellsWrong : ChangeSpec := { name := "graphTells", fn := fun _ => fun
  | [d1, d2, d3, d4] => { results := [.lit (.bool false)], args := [d1, d2, d3, d4] }
  | _ => none }
def GraphTellsWrongFalsely : Prop := graphTellsRow.holds Tryd.pinned (OpenSpec.ofChange graphTellsWrong)

/- THE SECOND FORM. 'bulk': how many values and letters a reading holds, each counted each time it is reached (what is shared counts as often as it is met; a slice's spare places count too). A statement '..UptoSaid' is the law's where the arguments, and the package variables that the reading takes, are together of bulk at most 1048576: NARROWER than '..Said'. Prove '..Said' where nothing that the law and all that it calls make is longer than what came in: it says more and counts as full. Else prove '..UptoSaid'. A law counts once. -/
mutual
def uptoBulk {H : Type} : DataW H → Nat
  | .lit (.string bytes) => bytes.length + 1
  | .lit _ => 1
  | .nil => 1
  | .ptr d => uptoBulk d + 1
  | .slice elems spare => uptoBulkAll elems + uptoBulkAll spare + 1
  | .agg parts => uptoBulkAll parts + 1
  | .iface _ d => uptoBulk d + 1
  | .map entries => uptoBulkEntries entries + 1
  | .held _ => 1
def uptoBulkAll {H : Type} : List (DataW H) → Nat
  | [] => 0
  | d :: r => uptoBulk d + uptoBulkAll r
def uptoBulkEntries {H : Type} : List (Lit × DataW H) → Nat
  | [] => 0
  | x :: r => uptoBulkEntry x + uptoBulkEntries r
def uptoBulkEntry {H : Type} : Lit × DataW H → Nat
  | (.string bytes, d) => bytes.length + uptoBulk d + 1
  | (_, d) => uptoBulk d + 1
 end
def uptoSmall : (H : Type) → List (DataW H) → Bool := fun _ ds => decide (uptoBulkAll ds ≤ 1048576)
def OpenSpec.upto (s : _root_.Go.ChangeSpec) : _root_.Go.OpenSpec := { _root_.Go.OpenSpec.ofChange s with cond := some uptoSmall }

/-- 'roundsmanlaw6.GraphPlays', WHERE WHAT IT READS IS OF BULK AT MOST 1048576: true; the input reads as it did. -/
def graphPlaysUptoRow : OpenClaim := { program := "ytojpokpdfbgelaadoor", sum := "facc3c2ff7f998bb5e98041f25ab27a526755c2aa32eb3487ce0eb9b9656da1f", func := "roundsman/roundsmanlaw6.GraphPlays", spec := "graphPlays", inPlace := ["internal/reflectlite.TypeOf", "internal/reflectlite.ValueOf", "(internal/reflectlite.Value).Type", "(internal/reflectlite.Value).IsNil", "(internal/reflectlite.Value).Elem", "(internal/reflectlite.Value).Set"], unfollowed := true, recurses := true, named := ["errors.errorType"], apart := false, laid := [("errors.errorType", laid_errors_errorType)], narrowed := true }
def GraphPlaysUptoSaid : Prop := graphPlaysUptoRow.holds Tryd.pinned (OpenSpec.upto graphPlaysSpec)

/-- 'roundsmanlaw6.GraphBack', WHERE WHAT IT READS IS OF BULK AT MOST 1048576: true; the input reads as it did. -/
def graphBackUptoRow : OpenClaim := { program := "ytojpokpdfbgelaadoor", sum := "facc3c2ff7f998bb5e98041f25ab27a526755c2aa32eb3487ce0eb9b9656da1f", func := "roundsman/roundsmanlaw6.GraphBack", spec := "graphBack", inPlace := ["internal/reflectlite.TypeOf", "internal/reflectlite.ValueOf", "(internal/reflectlite.Value).Type", "(internal/reflectlite.Value).IsNil", "(internal/reflectlite.Value).Elem", "(internal/reflectlite.Value).Set"], unfollowed := true, recurses := true, named := ["errors.errorType"], apart := false, laid := [("errors.errorType", laid_errors_errorType)], narrowed := true }
def GraphBackUptoSaid : Prop := graphBackUptoRow.holds Tryd.pinned (OpenSpec.upto graphBackSpec)

/-- 'roundsmanlaw6.GraphTwins', WHERE WHAT IT READS IS OF BULK AT MOST 1048576: true; the input reads as it did. -/
def graphTwinsUptoRow : OpenClaim := { program := "ytojpokpdfbgelaadoor", sum := "facc3c2ff7f998bb5e98041f25ab27a526755c2aa32eb3487ce0eb9b9656da1f", func := "roundsman/roundsmanlaw6.GraphTwins", spec := "graphTwins", inPlace := ["internal/reflectlite.TypeOf", "internal/reflectlite.ValueOf", "(internal/reflectlite.Value).Type", "(internal/reflectlite.Value).IsNil", "(internal/reflectlite.Value).Elem", "(internal/reflectlite.Value).Set"], unfollowed := true, recurses := true, named := ["errors.errorType"], apart := false, laid := [("errors.errorType", laid_errors_errorType)], narrowed := true }
def GraphTwinsUptoSaid : Prop := graphTwinsUptoRow.holds Tryd.pinned (OpenSpec.upto graphTwinsSpec)

/-- 'roundsmanlaw6.GraphTypes', WHERE WHAT IT READS IS OF BULK AT MOST 1048576: true; the input reads as it did. -/
def graphTypesUptoRow : OpenClaim := { program := "ytojpokpdfbgelaadoor", sum := "facc3c2ff7f998bb5e98041f25ab27a526755c2aa32eb3487ce0eb9b9656da1f", func := "roundsman/roundsmanlaw6.GraphTypes", spec := "graphTypes", inPlace := ["internal/reflectlite.TypeOf", "internal/reflectlite.ValueOf", "(internal/reflectlite.Value).Type", "(internal/reflectlite.Value).IsNil", "(internal/reflectlite.Value).Elem", "(internal/reflectlite.Value).Set"], unfollowed := true, recurses := true, named := ["errors.errorType"], apart := false, laid := [("errors.errorType", laid_errors_errorType)], narrowed := true }
def GraphTypesUptoSaid : Prop := graphTypesUptoRow.holds Tryd.pinned (OpenSpec.upto graphTypesSpec)

/-- 'roundsmanlaw6.GraphTells', WHERE WHAT IT READS IS OF BULK AT MOST 1048576: true; the input reads as it did. -/
def graphTellsUptoRow : OpenClaim := { program := "ytojpokpdfbgelaadoor", sum := "facc3c2ff7f998bb5e98041f25ab27a526755c2aa32eb3487ce0eb9b9656da1f", func := "roundsman/roundsmanlaw6.GraphTells", spec := "graphTells", inPlace := ["internal/reflectlite.TypeOf", "internal/reflectlite.ValueOf", "(internal/reflectlite.Value).Type", "(internal/reflectlite.Value).IsNil", "(internal/reflectlite.Value).Elem", "(internal/reflectlite.Value).Set"], unfollowed := true, recurses := true, named := ["errors.errorType"], apart := false, laid := [("errors.errorType", laid_errors_errorType)], narrowed := true }
def GraphTellsUptoSaid : Prop := graphTellsUptoRow.holds Tryd.pinned (OpenSpec.upto graphTellsSpec)

end Rows
end Go.Proofs.YtojpokpdfbgelaaDoor

/-
  NARROWER THAN 'FOR EVERY INPUT', by the rows' own cells (each row's printed sentence says how): TurnAny: laid · TurnMakes: laid · TurnSets: laid · TurnBans: laid · TurnApart: laid.
  DERIVED. THE GIVEN ROWS OF THIS SEAT. 5 by the template 'for every input the law returns true; each argument reads behind the call as it read before'; 0 by the template 'total and deterministic' (their statements: YtomdihnecddfjaaDoorTotals.lean).
  GIVEN WITH THE SEED: the statements are not yours to turn. If you find one false, say at which input.
  Laid BY PROGRAM, IN A SANDBOX (cutbox-rows.mjs): the forced cells as the released guide's own fill.sh prints them over the translation eb0ff454d875a558… (all of the seat's roots in one cut). By AI agents, Wed Nov 11 2026. No macro, syntax, notation, axiom, sorry.
-/
import Derived.Test.YtomdihnecddfjaaDoorChecked
import GoSem.Claim
import GoSem.ClaimJoined
import GoSem.ClaimMapViews
import Derived.JoinedTies
import Derived.KernelRfl
namespace Go.Proofs.YtomdihnecddfjaaDoor
/- THE CELL 'sum', in the pinned program and in every row, IS THE sha256 OF THE DUMP (.gsa) THAT YtomdihnecddfjaaDoorProg.lean LOADS. Nothing in Lean hashes anything: it is a label: what it is worth is what the hold of that sum in a sandbox is worth. -/
noncomputable def Tryd.pinned : Pinned := { name := "ytomdihnecddfjaadoor", sum := "eb0ff454d875a5589a503b090b6696238d01df2611ca1d22c148a5f17896f964", checked := Tryd.checked }
namespace Rows
def none {H : Type} : Left H := { results := [], args := [] }

/- WHAT THE LISTED PACKAGE-LEVEL VARIABLES READ AS WHEN THE CALL BEGINS. Each datum BY PROGRAM (the guide's laid-datum.mjs) off the statement by which the dump's own 'gosem.cut.vars' lays the variable. In a bare row this is a premise. The card (YtomdihnecddfjaaDoorCards.lean) ties it to the program's text. -/
def laid_errors_errorType {H : Type} : DataW H := .iface "internal/reflectlite.rtype" (.agg [.ptr (.lit (.string [101, 114, 114, 111, 114]))])

/-- 'roundsmanlaw2.TurnAny': WHATEVER THE INPUT: true; the input reads as it did. -/
def turnAnySpec : ChangeSpec := { name := "turnAny", fn := fun _ => fun
  | [d1, d2, d3, d4, d5] => { results := [.lit (.bool true)], args := [d1, d2, d3, d4, d5] }
  | _ => none }
def turnAnyRow : OpenClaim := { program := "ytomdihnecddfjaadoor", sum := "eb0ff454d875a5589a503b090b6696238d01df2611ca1d22c148a5f17896f964", func := "roundsman/roundsmanlaw2.TurnAny", spec := "turnAny", inPlace := ["internal/reflectlite.TypeOf", "internal/reflectlite.ValueOf", "(internal/reflectlite.Value).Type", "(internal/reflectlite.Value).IsNil", "(internal/reflectlite.Value).Elem", "(internal/reflectlite.Value).Set"], unfollowed := true, recurses := true, named := ["errors.errorType"], apart := false, laid := [("errors.errorType", laid_errors_errorType)] }
def TurnAnySaid : Prop := turnAnyRow.holds Tryd.pinned (OpenSpec.ofChange turnAnySpec)

/-- ITS FALSE NEIGHBOUR: 'it returns false'. Refute it at one input. -/
def turnAnyWrong : ChangeSpec := { name := "turnAny", fn := fun _ => fun
  | [d1, d2, d3, d4, d5] => { results := [.lit (.bool false)], args := [d1, d2, d3, d4, d5] }
  | _ => none }
def TurnAnyWrongFalsely : Prop := turnAnyRow.holds Tryd.pinned (OpenSpec.ofChange turnAnyWrong)

/-- 'roundsmanlaw2.TurnMakes': WHATEVER THE INPUT: true; the input reads as it did. -/
def turnMakesSpec : ChangeSpec := { name := "turnMakes", fn := fun _ => fun
  | [d1, d2, d3] => { results := [.lit (.bool true)], args := [d1, d2, d3] }
  | _ => none }
def turnMakesRow : OpenClaim := { program := "ytomdihnecddfjaadoor", sum := "eb0ff454d875a5589a503b090b6696238d01df2611ca1d22c148a5f17896f964", func := "roundsman/roundsmanlaw2.TurnMakes", spec := "turnMakes", inPlace := ["internal/reflectlite.TypeOf", "internal/reflectlite.ValueOf", "(internal/reflectlite.Value).Type", "(internal/reflectlite.Value).IsNil", "(internal/reflectlite.Value).Elem", "(internal/reflectlite.Value).Set"], unfollowed := true, recurses := true, named := ["errors.errorType"], apart := false, laid := [("errors.errorType", laid_errors_errorType)] }
def TurnMakesSaid : Prop := turnMakesRow.holds Tryd.pinned (OpenSpec.ofChange turnMakesSpec)

/-- ITS FALSE NEIGHBOUR: 'it returns false'. Refute it at one input. -/
def turnMakesWrong : ChangeSpec := { name := "turnMakes", fn := fun _ => fun
  | [d1, d2, d3] => { results := [.lit (.bool false)], args := [d1, d2, d3] }
  | _ => none }
def TurnMakesWrongFalsely : Prop := turnMakesRow.holds Tryd.pinned (OpenSpec.ofChange turnMakesWrong)

/-- 'roundsmanlaw2.TurnSets': WHATEVER THE INPUT: true; the input reads as it did. -/
def turnSetsSpec : ChangeSpec := { name := "turnSets", fn := fun _ => fun
  | [d1, d2, d3, d4, d5] => { results := [.lit (.bool true)], args := [d1, d2, d3, d4, d5] }
  | _ => none }
def turnSetsRow : OpenClaim := { program := "ytomdihnecddfjaadoor", sum := "eb0ff454d875a5589a503b090b6696238d01df2611ca1d22c148a5f17896f964", func := "roundsman/roundsmanlaw2.TurnSets", spec := "turnSets", inPlace := ["internal/reflectlite.TypeOf", "internal/reflectlite.ValueOf", "(internal/reflectlite.Value).Type", "(internal/reflectlite.Value).IsNil", "(internal/reflectlite.Value).Elem", "(internal/reflectlite.Value).Set"], unfollowed := true, recurses := true, named := ["errors.errorType"], apart := false, laid := [("errors.errorType", laid_errors_errorType)] }
def TurnSetsSaid : Prop := turnSetsRow.holds Tryd.pinned (OpenSpec.ofChange turnSetsSpec)

/-- ITS FALSE NEIGHBOUR: 'it returns false'. Refute it at one input. -/
def turnSetsWrong : ChangeSpec := { name := "turnSets", fn := fun _ => fun
  | [d1, d2, d3, d4, d5] => { results := [.lit (.bool false)], args := [d1, d2, d3, d4, d5] }
  | _ => none }
def TurnSetsWrongFalsely : Prop := turnSetsRow.holds Tryd.pinned (OpenSpec.ofChange turnSetsWrong)

/-- 'roundsmanlaw2.TurnBans': WHATEVER THE INPUT: true; the input reads as it did. -/
def turnBansSpec : ChangeSpec := { name := "turnBans", fn := fun _ => fun
  | [d1, d2, d3] => { results := [.lit (.bool true)], args := [d1, d2, d3] }
  | _ => none }
def turnBansRow : OpenClaim := { program := "ytomdihnecddfjaadoor", sum := "eb0ff454d875a5589a503b090b6696238d01df2611ca1d22c148a5f17896f964", func := "roundsman/roundsmanlaw2.TurnBans", spec := "turnBans", inPlace := ["internal/reflectlite.TypeOf", "internal/reflectlite.ValueOf", "(internal/reflectlite.Value).Type", "(internal/reflectlite.Value).IsNil", "(internal/reflectlite.Value).Elem", "(internal/reflectlite.Value).Set"], unfollowed := true, recurses := true, named := ["errors.errorType"], apart := false, laid := [("errors.errorType", laid_errors_errorType)] }
def TurnBansSaid : Prop := turnBansRow.holds Tryd.pinned (OpenSpec.ofChange turnBansSpec)

/-- ITS FALSE NEIGHBOUR: 'it returns false'. Refute it at one input. -/
def turnBansWrong : ChangeSpec := { name := "turnBans", fn := fun _ => fun
  | [d1, d2, d3] => { results := [.lit (.bool false)], args := [d1, d2, d3] }
  | _ => none }
def TurnBansWrongFalsely : Prop := turnBansRow.holds Tryd.pinned (OpenSpec.ofChange turnBansWrong)

/-- 'roundsmanlaw2.TurnApart': WHATEVER THE INPUT: true; the input reads as it did. -/
def turnApartSpec : ChangeSpec := { name := "turnApart", fn := fun _ => fun
  | [d1, d2] => { results := [.lit (.bool true)], args := [d1, d2] }
  | _ => none }
def turnApartRow : OpenClaim := { program := "ytomdihnecddfjaadoor", sum := "eb0ff454d875a5589a503b090b6696238d01df2611ca1d22c148a5f17896f964", func := "roundsman/roundsmanlaw2.TurnApart", spec := "turnApart", inPlace := ["internal/reflectlite.TypeOf", "internal/reflectlite.ValueOf", "(internal/reflectlite.Value).Type", "(internal/reflectlite.Value).IsNil", "(internal/reflectlite.Value).Elem", "(internal/reflectlite.Value).Set"], unfollowed := true, recurses := true, named := ["errors.errorType"], apart := false, laid := [("errors.errorType", laid_errors_errorType)] }
def TurnApartSaid : Prop := turnApartRow.holds Tryd.pinned (OpenSpec.ofChange turnApartSpec)

/-- ITS FALSE NEIGHBOUR: 'it returns false'. Refute it at one input. -/
def turnApartWrong : ChangeSpec := { name := "turnApart", fn := fun _ => fun
  | [d1, d2] => { results := [.lit (.bool false)], args := [d1, d2] }
  | _ => none }
def TurnApartWrongFalsely : Prop := turnApartRow.holds Tryd.pinned (OpenSpec.ofChange turnApartWrong)

/- THE SECOND FORM. 'bulk': how many values and letters a reading holds, each counted each time it is reached (what is shared counts as often as it is met; a slice's spare places count too). A statement '..UptoSaid' is the law's where the arguments, and the package variables that the reading takes, are together of bulk at most 1048576: NARROWER than '..Said'. Prove '..Said' where nothing that the law and all that it calls make is longer than what came in: it says more and counts as full. Else prove '..UptoSaid'. A law counts once. -/
mutual
def uptoBulk {H : Type} : DataW H → Nat
  | .lit (.string bytes) => bytes.length + 1
  | .lit _ => 1
  | .nil => 1
  | .ptr d => uptoBulk d + 1
  | .slice elems spare => uptoBulkAll elems + uptoBulkAll spare + 1
  | .agg parts => uptoBulkAll parts + 1
  | .iface _ d => uptoBulk d + 1
  | .map entries => uptoBulkEntries entries + 1
  | .held _ => 1
def uptoBulkAll {H : Type} : List (DataW H) → Nat
  | [] => 0
  | d :: r => uptoBulk d + uptoBulkAll r
def uptoBulkEntries {H : Type} : List (Lit × DataW H) → Nat
  | [] => 0
  | x :: r => uptoBulkEntry x + uptoBulkEntries r
def uptoBulkEntry {H : Type} : Lit × DataW H → Nat
  | (.string bytes, d) => bytes.length + uptoBulk d + 1
  | (_, d) => uptoBulk d + 1
 end
def uptoSmall : (H : Type) → List (DataW H) → Bool := fun _ ds => decide (uptoBulkAll ds ≤ 1048576)
def OpenSpec.upto (s : _root_.Go.ChangeSpec) : _root_.Go.OpenSpec := { _root_.Go.OpenSpec.ofChange s with cond := some uptoSmall }

/-- 'roundsmanlaw2.TurnAny', WHERE WHAT IT READS IS OF BULK AT MOST 1048576: true; the input reads as it did. -/
def turnAnyUptoRow : OpenClaim := { program := "ytomdihnecddfjaadoor", sum := "eb0ff454d875a5589a503b090b6696238d01df2611ca1d22c148a5f17896f964", func := "roundsman/roundsmanlaw2.TurnAny", spec := "turnAny", inPlace := ["internal/reflectlite.TypeOf", "internal/reflectlite.ValueOf", "(internal/reflectlite.Value).Type", "(internal/reflectlite.Value).IsNil", "(internal/reflectlite.Value).Elem", "(internal/reflectlite.Value).Set"], unfollowed := true, recurses := true, named := ["errors.errorType"], apart := false, laid := [("errors.errorType", laid_errors_errorType)], narrowed := true }
def TurnAnyUptoSaid : Prop := turnAnyUptoRow.holds Tryd.pinned (OpenSpec.upto turnAnySpec)

/-- 'roundsmanlaw2.TurnMakes', WHERE WHAT IT READS IS OF BULK AT MOST 1048576: true; the input reads as it did. -/
def turnMakesUptoRow : OpenClaim := { program := "ytomdihnecddfjaadoor", sum := "eb0ff454d875a5589a503b090b6696238d01df2611ca1d22c148a5f17896f964", func := "roundsman/roundsmanlaw2.TurnMakes", spec := "turnMakes", inPlace := ["internal/reflectlite.TypeOf", "internal/reflectlite.ValueOf", "(internal/reflectlite.Value).Type", "(internal/reflectlite.Value).IsNil", "(internal/reflectlite.Value).Elem", "(internal/reflectlite.Value).Set"], unfollowed := true, recurses := true, named := ["errors.errorType"], apart := false, laid := [("errors.errorType", laid_errors_errorType)], narrowed := true }
def TurnMakesUptoSaid : Prop := turnMakesUptoRow.holds Tryd.pinned (OpenSpec.upto turnMakesSpec)

/-- 'roundsmanlaw2.TurnSets', WHERE WHAT IT READS IS OF BULK AT MOST 1048576: true; the input reads as it did. -/
def turnSetsUptoRow : OpenClaim := { program := "ytomdihnecddfjaadoor", sum := "eb0ff454d875a5589a503b090b6696238d01df2611ca1d22c148a5f17896f964", func := "roundsman/roundsmanlaw2.TurnSets", spec := "turnSets", inPlace := ["internal/reflectlite.TypeOf", "internal/reflectlite.ValueOf", "(internal/reflectlite.Value).Type", "(internal/reflectlite.Value).IsNil", "(internal/reflectlite.Value).Elem", "(internal/reflectlite.Value).Set"], unfollowed := true, recurses := true, named := ["errors.errorType"], apart := false, laid := [("errors.errorType", laid_errors_errorType)], narrowed := true }
def TurnSetsUptoSaid : Prop := turnSetsUptoRow.holds Tryd.pinned (OpenSpec.upto turnSetsSpec)

/-- 'roundsmanlaw2.TurnBans', WHERE WHAT IT READS IS OF BULK AT MOST 1048576: true; the input reads as it did. -/
def turnBansUptoRow : OpenClaim := { program := "ytomdihnecddfjaadoor", sum := "eb0ff454d875a5589a503b090b6696238d01df2611ca1d22c148a5f17896f964", func := "roundsman/roundsmanlaw2.TurnBans", spec := "turnBans", inPlace := ["internal/reflectlite.TypeOf", "internal/reflectlite.ValueOf", "(internal/reflectlite.Value).Type", "(internal/reflectlite.Value).IsNil", "(internal/reflectlite.Value).Elem", "(internal/reflectlite.Value).Set"], unfollowed := true, recurses := true, named := ["errors.errorType"], apart := false, laid := [("errors.errorType", laid_errors_errorType)], narrowed := true }
def TurnBansUptoSaid : Prop := turnBansUptoRow.holds Tryd.pinned (OpenSpec.upto turnBansSpec)

/-- 'roundsmanlaw2.TurnApart', WHERE WHAT IT READS IS OF BULK AT MOST 1048576: true; the input reads as it did. -/
def turnApartUptoRow : OpenClaim := { program := "ytomdihnecddfjaadoor", sum := "eb0ff454d875a5589a503b090b6696238d01df2611ca1d22c148a5f17896f964", func := "roundsman/roundsmanlaw2.TurnApart", spec := "turnApart", inPlace := ["internal/reflectlite.TypeOf", "internal/reflectlite.ValueOf", "(internal/reflectlite.Value).Type", "(internal/reflectlite.Value).IsNil", "(internal/reflectlite.Value).Elem", "(internal/reflectlite.Value).Set"], unfollowed := true, recurses := true, named := ["errors.errorType"], apart := false, laid := [("errors.errorType", laid_errors_errorType)], narrowed := true }
def TurnApartUptoSaid : Prop := turnApartUptoRow.holds Tryd.pinned (OpenSpec.upto turnApartSpec)

end Rows
end Go.Proofs.YtomdihnecddfjaaDoor

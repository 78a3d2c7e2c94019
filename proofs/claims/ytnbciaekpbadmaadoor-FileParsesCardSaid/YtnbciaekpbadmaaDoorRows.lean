/-
  NARROWER THAN 'FOR EVERY INPUT', by the rows' own cells (each row's printed sentence says how): FileParses: laid · FileEncodes: laid · FileTurned: laid · FileInner: laid · FileApart: laid.
  DERIVED. THE GIVEN ROWS OF THIS SEAT. 5 by the template 'for every input the law returns true; each argument reads behind the call as it read before'; 0 by the template 'total and deterministic' (their statements: YtnbciaekpbadmaaDoorTotals.lean).
  GIVEN WITH THE SEED: the statements are not yours to turn. If you find one false, say at which input.
  Laid BY PROGRAM, IN A SANDBOX (cutbox-rows.mjs): the forced cells as the released guide's own fill.sh prints them over the translation e7b7ce5e19cd3f8b… (all of the seat's roots in one cut). By AI agents, Wed Nov 11 2026. No macro, syntax, notation, axiom, sorry.
-/
import Derived.Test.YtnbciaekpbadmaaDoorChecked
import GoSem.Claim
import GoSem.ClaimJoined
import GoSem.ClaimMapViews
import Derived.JoinedTies
import Derived.KernelRfl
namespace Go.Proofs.YtnbciaekpbadmaaDoor
/- THE CELL 'sum', in the pinned program and in every row, IS THE sha256 OF THE DUMP (.gsa) THAT YtnbciaekpbadmaaDoorProg.lean LOADS. Nothing in Lean hashes anything: it is a label: what it is worth is what the hold of that sum in a sandbox is worth. -/
noncomputable def Tryd.pinned : Pinned := { name := "ytnbciaekpbadmaadoor", sum := "e7b7ce5e19cd3f8b63b9eba5ecebda9989e6414ef540d6e52f85e5e63d97d641", checked := Tryd.checked }
namespace Rows
def none {H : Type} : Left H := { results := [], args := [] }

/- WHAT THE LISTED PACKAGE-LEVEL VARIABLES READ AS WHEN THE CALL BEGINS. Each datum BY PROGRAM (the guide's laid-datum.mjs) off the statement by which the dump's own 'gosem.cut.vars' lays the variable. In a bare row this is a premise. The card (YtnbciaekpbadmaaDoorCards.lean) ties it to the program's text. -/
def laid_errors_errorType {H : Type} : DataW H := .iface "internal/reflectlite.rtype" (.agg [.ptr (.lit (.string [101, 114, 114, 111, 114]))])

/-- 'roundsmanlaw5.FileParses': WHATEVER THE INPUT: true; the input reads as it did. -/
def fileParsesSpec : ChangeSpec := { name := "fileParses", fn := fun _ => fun
  | [d] => { results := [.lit (.bool true)], args := [d] }
  | _ => none }
def fileParsesRow : OpenClaim := { program := "ytnbciaekpbadmaadoor", sum := "e7b7ce5e19cd3f8b63b9eba5ecebda9989e6414ef540d6e52f85e5e63d97d641", func := "roundsman/roundsmanlaw5.FileParses", spec := "fileParses", inPlace := ["internal/reflectlite.TypeOf", "internal/reflectlite.ValueOf", "(internal/reflectlite.Value).Type", "(internal/reflectlite.Value).IsNil", "(internal/reflectlite.Value).Elem", "(internal/reflectlite.Value).Set"], unfollowed := true, recurses := true, named := ["errors.errorType"], apart := false, laid := [("errors.errorType", laid_errors_errorType)] }
def FileParsesSaid : Prop := fileParsesRow.holds Tryd.pinned (OpenSpec.ofChange fileParsesSpec)

/-- ITS FALSE NEIGHBOUR: 'it returns false'. Refute it at one input. -/
def fileParsesWrong : ChangeSpec := { name := "fileParses", fn := fun _ => fun
  | [d] => { results := [.lit (.bool false)], args := [d] }
  | _ => none }
def FileParsesWrongFalsely : Prop := fileParsesRow.holds Tryd.pinned (OpenSpec.ofChange fileParsesWrong)

/-- 'roundsmanlaw5.FileEncodes': WHATEVER THE INPUT: true; the input reads as it did. -/
def fileEncodesSpec : ChangeSpec := { name := "fileEncodes", fn := fun _ => fun
  | [d] => { results := [.lit (.bool true)], args := [d] }
  | _ => none }
def fileEncodesRow : OpenClaim := { program := "ytnbciaekpbadmaadoor", sum := "e7b7ce5e19cd3f8b63b9eba5ecebda9989e6414ef540d6e52f85e5e63d97d641", func := "roundsman/roundsmanlaw5.FileEncodes", spec := "fileEncodes", inPlace := ["internal/reflectlite.TypeOf", "internal/reflectlite.ValueOf", "(internal/reflectlite.Value).Type", "(internal/reflectlite.Value).IsNil", "(internal/reflectlite.Value).Elem", "(internal/reflectlite.Value).Set"], unfollowed := true, recurses := true, named := ["errors.errorType"], apart := false, laid := [("errors.errorType", laid_errors_errorType)] }
def FileEncodesSaid : Prop := fileEncodesRow.holds Tryd.pinned (OpenSpec.ofChange fileEncodesSpec)

/-- ITS FALSE NEIGHBOUR: 'it returns false'. Refute it at one input. -/
def fileEncodesWrong : ChangeSpec := { name := "fileEncodes", fn := fun _ => fun
  | [d] => { results := [.lit (.bool false)], args := [d] }
  | _ => none }
def FileEncodesWrongFalsely : Prop := fileEncodesRow.holds Tryd.pinned (OpenSpec.ofChange fileEncodesWrong)

/-- 'roundsmanlaw5.FileTurned': WHATEVER THE INPUT: true; the input reads as it did. -/
def fileTurnedSpec : ChangeSpec := { name := "fileTurned", fn := fun _ => fun
  | [d1, d2, d3, d4] => { results := [.lit (.bool true)], args := [d1, d2, d3, d4] }
  | _ => none }
def fileTurnedRow : OpenClaim := { program := "ytnbciaekpbadmaadoor", sum := "e7b7ce5e19cd3f8b63b9eba5ecebda9989e6414ef540d6e52f85e5e63d97d641", func := "roundsman/roundsmanlaw5.FileTurned", spec := "fileTurned", inPlace := ["internal/reflectlite.TypeOf", "internal/reflectlite.ValueOf", "(internal/reflectlite.Value).Type", "(internal/reflectlite.Value).IsNil", "(internal/reflectlite.Value).Elem", "(internal/reflectlite.Value).Set"], unfollowed := true, recurses := true, named := ["errors.errorType"], apart := false, laid := [("errors.errorType", laid_errors_errorType)] }
def FileTurnedSaid : Prop := fileTurnedRow.holds Tryd.pinned (OpenSpec.ofChange fileTurnedSpec)

/-- ITS FALSE NEIGHBOUR: 'it returns false'. Refute it at one input. -/
def fileTurnedWrong : ChangeSpec := { name := "fileTurned", fn := fun _ => fun
  | [d1, d2, d3, d4] => { results := [.lit (.bool false)], args := [d1, d2, d3, d4] }
  | _ => none }
def FileTurnedWrongFalsely : Prop := fileTurnedRow.holds Tryd.pinned (OpenSpec.ofChange fileTurnedWrong)

/-- 'roundsmanlaw5.FileInner': WHATEVER THE INPUT: true; the input reads as it did. -/
def fileInnerSpec : ChangeSpec := { name := "fileInner", fn := fun _ => fun
  | [d] => { results := [.lit (.bool true)], args := [d] }
  | _ => none }
def fileInnerRow : OpenClaim := { program := "ytnbciaekpbadmaadoor", sum := "e7b7ce5e19cd3f8b63b9eba5ecebda9989e6414ef540d6e52f85e5e63d97d641", func := "roundsman/roundsmanlaw5.FileInner", spec := "fileInner", inPlace := ["internal/reflectlite.TypeOf", "internal/reflectlite.ValueOf", "(internal/reflectlite.Value).Type", "(internal/reflectlite.Value).IsNil", "(internal/reflectlite.Value).Elem", "(internal/reflectlite.Value).Set"], unfollowed := true, recurses := true, named := ["errors.errorType"], apart := false, laid := [("errors.errorType", laid_errors_errorType)] }
def FileInnerSaid : Prop := fileInnerRow.holds Tryd.pinned (OpenSpec.ofChange fileInnerSpec)

/-- ITS FALSE NEIGHBOUR: 'it returns false'. Refute it at one input. -/
def fileInnerWrong : ChangeSpec := { name := "fileInner", fn := fun _ => fun
  | [d] => { results := [.lit (.bool false)], args := [d] }
  | _ => none }
def FileInnerWrongFalsely : Prop := fileInnerRow.holds Tryd.pinned (OpenSpec.ofChange fileInnerWrong)

/-- 'roundsmanlaw5.FileApart': WHATEVER THE INPUT: true; the input reads as it did. -/
def fileApartSpec : ChangeSpec := { name := "fileApart", fn := fun _ => fun
  | [d1, d2] => { results := [.lit (.bool true)], args := [d1, d2] }
  | _ => none }
def fileApartRow : OpenClaim := { program := "ytnbciaekpbadmaadoor", sum := "e7b7ce5e19cd3f8b63b9eba5ecebda9989e6414ef540d6e52f85e5e63d97d641", func := "roundsman/roundsmanlaw5.FileApart", spec := "fileApart", inPlace := ["internal/reflectlite.TypeOf", "internal/reflectlite.ValueOf", "(internal/reflectlite.Value).Type", "(internal/reflectlite.Value).IsNil", "(internal/reflectlite.Value).Elem", "(internal/reflectlite.Value).Set"], unfollowed := true, recurses := true, named := ["errors.errorType"], apart := false, laid := [("errors.errorType", laid_errors_errorType)] }
def FileApartSaid : Prop := fileApartRow.holds Tryd.pinned (OpenSpec.ofChange fileApartSpec)

/-- ITS FALSE NEIGHBOUR: 'it returns false'. Refute it at one input. -/
def fileApartWrong : ChangeSpec := { name := "fileApart", fn := fun _ => fun
  | [d1, d2] => { results := [.lit (.bool false)], args := [d1, d2] }
  | _ => none }
def FileApartWrongFalsely : Prop := fileApartRow.holds Tryd.pinned (OpenSpec.ofChange fileApartWrong)

/- THE SECOND FORM. 'bulk': how many values and letters a reading holds, each counted each time it is reached (what is shared counts as often as it is met; a slice's spare places count too). A statement '..UptoSaid' is the law's where the arguments, and the package variables that the reading takes, are together of bulk at most 1048576: NARROWER than '..Said'. Prove '..Said' where nothing that the law and all that it calls make is longer than what came in: it says more and counts as full. Else prove '..UptoSaid'. A law counts once. -/
mutual
def uptoBulk {H : Type} : DataW H → Nat
  | .lit (.string bytes) => bytes.length + 1
  | .lit _ => 1
  | .nil => 1
  | .ptr d => uptoBulk d + 1
  | .slice elems spare => uptoBulkAll elems + uptoBulkAll spare + 1
  | .agg parts => uptoBulkAll parts + 1
  | .iface _ d => uptoBulk d + 1
  | .map entries => uptoBulkEntries entries + 1
  | .held _ => 1
def uptoBulkAll {H : Type} : List (DataW H) → Nat
  | [] => 0
  | d :: r => uptoBulk d + uptoBulkAll r
def uptoBulkEntries {H : Type} : List (Lit × DataW H) → Nat
  | [] => 0
  | x :: r => uptoBulkEntry x + uptoBulkEntries r
def uptoBulkEntry {H : Type} : Lit × DataW H → Nat
  | (.string bytes, d) => bytes.length + uptoBulk d + 1
  | (_, d) => uptoBulk d + 1
 end
def uptoSmall : (H : Type) → List (DataW H) → Bool := fun _ ds => decide (uptoBulkAll ds ≤ 1048576)
def OpenSpec.upto (s : _root_.Go.ChangeSpec) : _root_.Go.OpenSpec := { _root_.Go.OpenSpec.ofChange s with cond := some uptoSmall }

/-- 'roundsmanlaw5.FileParses', WHERE WHAT IT READS IS OF BULK AT MOST 1048576: true; the input reads as it did. -/
def fileParsesUptoRow : OpenClaim := { program := "ytnbciaekpbadmaadoor", sum := "e7b7ce5e19cd3f8b63b9eba5ecebda9989e6414ef540d6e52f85e5e63d97d641", func := "roundsman/roundsmanlaw5.FileParses", spec := "fileParses", inPlace := ["internal/reflectlite.TypeOf", "internal/reflectlite.ValueOf", "(internal/reflectlite.Value).Type", "(internal/reflectlite.Value).IsNil", "(internal/reflectlite.Value).Elem", "(internal/reflectlite.Value).Set"], unfollowed := true, recurses := true, named := ["errors.errorType"], apart := false, laid := [("errors.errorType", laid_errors_errorType)], narrowed := true }
def FileParsesUptoSaid : Prop := fileParsesUptoRow.holds Tryd.pinned (OpenSpec.upto fileParsesSpec)

/-- 'roundsmanlaw5.FileEncodes', WHERE WHAT IT READS IS OF BULK AT MOST 1048576: true; the input reads as it did. -/
def fileEncodesUptoRow : OpenClaim := { program := "ytnbciaekpbadmaadoor", sum := "e7b7ce5e19cd3f8b63b9eba5ecebda9989e6414ef540d6e52f85e5e63d97d641", func := "roundsman/roundsmanlaw5.FileEncodes", spec := "fileEncodes", inPlace := ["internal/reflectlite.TypeOf", "internal/reflectlite.ValueOf", "(internal/reflectlite.Value).Type", "(internal/reflectlite.Value).IsNil", "(internal/reflectlite.Value).Elem", "(internal/reflectlite.Value).Set"], unfollowed := true, recurses := true, named := ["errors.errorType"], apart := false, laid := [("errors.errorType", laid_errors_errorType)], narrowed := true }
def FileEncodesUptoSaid : Prop := fileEncodesUptoRow.holds Tryd.pinned (OpenSpec.upto fileEncodesSpec)

/-- 'roundsmanlaw5.FileTurned', WHERE WHAT IT READS IS OF BULK AT MOST 1048576: true; the input reads as it did. -/
def fileTurnedUptoRow : OpenClaim := { program := "ytnbciaekpbadmaadoor", sum := "e7b7ce5e19cd3f8b63b9eba5ecebda9989e6414ef540d6e52f85e5e63d97d641", func := "roundsman/roundsmanlaw5.FileTurned", spec := "fileTurned", inPlace := ["internal/reflectlite.TypeOf", "internal/reflectlite.ValueOf", "(internal/reflectlite.Value).Type", "(internal/reflectlite.Value).IsNil", "(internal/reflectlite.Value).Elem", "(internal/reflectlite.Value).Set"], unfollowed := true, recurses := true, named := ["errors.errorType"], apart := false, laid := [("errors.errorType", laid_errors_errorType)], narrowed := true }
def FileTurnedUptoSaid : Prop := fileTurnedUptoRow.holds Tryd.pinned (OpenSpec.upto fileTurnedSpec)

/-- 'roundsmanlaw5.FileInner', WHERE WHAT IT READS IS OF BULK AT MOST 1048576: true; the input reads as it did. -/
def fileInnerUptoRow : OpenClaim := { program := "ytnbciaekpbadmaadoor", sum := "e7b7ce5e19cd3f8b63b9eba5ecebda9989e6414ef540d6e52f85e5e63d97d641", func := "roundsman/roundsmanlaw5.FileInner", spec := "fileInner", inPlace := ["internal/reflectlite.TypeOf", "internal/reflectlite.ValueOf", "(internal/reflectlite.Value).Type", "(internal/reflectlite.Value).IsNil", "(internal/reflectlite.Value).Elem", "(internal/reflectlite.Value).Set"], unfollowed := true, recurses := true, named := ["errors.errorType"], apart := false, laid := [("errors.errorType", laid_errors_errorType)], narrowed := true }
def FileInnerUptoSaid : Prop := fileInnerUptoRow.holds Tryd.pinned (OpenSpec.upto fileInnerSpec)

/-- 'roundsmanlaw5.FileApart', WHERE WHAT IT READS IS OF BULK AT MOST 1048576: true; the input reads as it did. -/
def fileApartUptoRow : OpenClaim := { program := "ytnbciaekpbadmaadoor", sum := "e7b7ce5e19cd3f8b63b9eba5ecebda9989e6414ef540d6e52f85e5e63d97d641", func := "roundsman/roundsmanlaw5.FileApart", spec := "fileApart", inPlace := ["internal/reflectlite.TypeOf", "internal/reflectlite.ValueOf", "(internal/reflectlite.Value).Type", "(internal/reflectlite.Value).IsNil", "(internal/reflectlite.Value).Elem", "(internal/reflectlite.Value).Set"], unfollowed := true, recurses := true, named := ["errors.errorType"], apart := false, laid := [("errors.errorType", laid_errors_errorType)], narrowed := true }
def FileApartUptoSaid : Prop := fileApartUptoRow.holds Tryd.pinned (OpenSpec.upto fileApartSpec)

end Rows
end Go.Proofs.YtnbciaekpbadmaaDoor

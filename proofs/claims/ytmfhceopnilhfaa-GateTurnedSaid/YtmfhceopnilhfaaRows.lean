/-
  No cell of these rows narrows 'for every input' (looked for: loops, veiled, ifaces, maps, wideKeys, modest, calm, conditions, laid).
  DERIVED. THE GIVEN ROWS OF THIS SEAT. 4 by the template 'for every input the law returns true; each argument reads behind the call as it read before'; 0 by the template 'total and deterministic' (their statements: YtmfhceopnilhfaaTotals.lean).
  GIVEN WITH THE SEED: the statements are not yours to turn. If you find one false, say at which input.
  Laid BY PROGRAM, IN A SANDBOX (cutbox-rows.mjs): the forced cells as the released guide's own fill.sh prints them over the translation 5078ba87e293ec7c… (all of the seat's roots in one cut). By AI agents, Wed Nov 11 2026. No macro, syntax, notation, axiom, sorry.
-/
import Derived.Test.YtmfhceopnilhfaaChecked
import GoSem.Claim
import GoSem.ClaimJoined
import GoSem.ClaimMapViews
import Derived.JoinedTies
import Derived.KernelRfl
namespace Go.Proofs.Ytmfhceopnilhfaa
/- THE CELL 'sum', in the pinned program and in every row, IS THE sha256 OF THE DUMP (.gsa) THAT YtmfhceopnilhfaaProg.lean LOADS. Nothing in Lean hashes anything: it is a label: what it is worth is what the hold of that sum in a sandbox is worth. -/
noncomputable def Try.pinned : Pinned := { name := "ytmfhceopnilhfaa", sum := "5078ba87e293ec7c699b8c0b9c3ce1b7397aca4dfd6c0a41f1617372b555581c", checked := Try.checked }
namespace Rows
def none {H : Type} : Left H := { results := [], args := [] }

/-- 'roundsmanlaw16.GateTells': WHATEVER THE INPUT: true; the input reads as it did. -/
def gateTellsSpec : ChangeSpec := { name := "gateTells", fn := fun _ => fun
  | [d1, d2, d3, d4] => { results := [.lit (.bool true)], args := [d1, d2, d3, d4] }
  | _ => none }
def gateTellsRow : OpenClaim := { program := "ytmfhceopnilhfaa", sum := "5078ba87e293ec7c699b8c0b9c3ce1b7397aca4dfd6c0a41f1617372b555581c", func := "roundsman/roundsmanlaw16.GateTells", spec := "gateTells", unfollowed := true, recurses := true, apart := false }
def GateTellsSaid : Prop := gateTellsRow.holds Try.pinned (OpenSpec.ofChange gateTellsSpec)

/-- ITS FALSE NEIGHBOUR: 'it returns false'. Refute it at one input. -/
def gateTellsWrong : ChangeSpec := { name := "gateTells", fn := fun _ => fun
  | [d1, d2, d3, d4] => { results := [.lit (.bool false)], args := [d1, d2, d3, d4] }
  | _ => none }
def GateTellsWrongFalsely : Prop := gateTellsRow.holds Try.pinned (OpenSpec.ofChange gateTellsWrong)

/-- 'roundsmanlaw16.GateOnce': WHATEVER THE INPUT: true; the input reads as it did. -/
def gateOnceSpec : ChangeSpec := { name := "gateOnce", fn := fun _ => fun
  | [d1, d2] => { results := [.lit (.bool true)], args := [d1, d2] }
  | _ => none }
def gateOnceRow : OpenClaim := { program := "ytmfhceopnilhfaa", sum := "5078ba87e293ec7c699b8c0b9c3ce1b7397aca4dfd6c0a41f1617372b555581c", func := "roundsman/roundsmanlaw16.GateOnce", spec := "gateOnce", unfollowed := true, recurses := true, apart := false }
def GateOnceSaid : Prop := gateOnceRow.holds Try.pinned (OpenSpec.ofChange gateOnceSpec)

/-- ITS FALSE NEIGHBOUR: 'it returns false'. Refute it at one input. -/
def gateOnceWrong : ChangeSpec := { name := "gateOnce", fn := fun _ => fun
  | [d1, d2] => { results := [.lit (.bool false)], args := [d1, d2] }
  | _ => none }
def GateOnceWrongFalsely : Prop := gateOnceRow.holds Try.pinned (OpenSpec.ofChange gateOnceWrong)

/-- 'roundsmanlaw16.GatePlace': WHATEVER THE INPUT: true; the input reads as it did. -/
def gatePlaceSpec : ChangeSpec := { name := "gatePlace", fn := fun _ => fun
  | [d1, d2, d3] => { results := [.lit (.bool true)], args := [d1, d2, d3] }
  | _ => none }
def gatePlaceRow : OpenClaim := { program := "ytmfhceopnilhfaa", sum := "5078ba87e293ec7c699b8c0b9c3ce1b7397aca4dfd6c0a41f1617372b555581c", func := "roundsman/roundsmanlaw16.GatePlace", spec := "gatePlace", unfollowed := true, recurses := true, apart := false }
def GatePlaceSaid : Prop := gatePlaceRow.holds Try.pinned (OpenSpec.ofChange gatePlaceSpec)

/-- ITS FALSE NEIGHBOUR: 'it returns false'. Refute it at one input. -/
def gatePlaceWrong : ChangeSpec := { name := "gatePlace", fn := fun _ => fun
  | [d1, d2, d3] => { results := [.lit (.bool false)], args := [d1, d2, d3] }
  | _ => none }
def GatePlaceWrongFalsely : Prop := gatePlaceRow.holds Try.pinned (OpenSpec.ofChange gatePlaceWrong)

/-- 'roundsmanlaw16.GateTurned': WHATEVER THE INPUT: true; the input reads as it did. -/
def gateTurnedSpec : ChangeSpec := { name := "gateTurned", fn := fun _ => fun
  | [d1, d2] => { results := [.lit (.bool true)], args := [d1, d2] }
  | _ => none }
def gateTurnedRow : OpenClaim := { program := "ytmfhceopnilhfaa", sum := "5078ba87e293ec7c699b8c0b9c3ce1b7397aca4dfd6c0a41f1617372b555581c", func := "roundsman/roundsmanlaw16.GateTurned", spec := "gateTurned", unfollowed := true, recurses := true, apart := false }
def GateTurnedSaid : Prop := gateTurnedRow.holds Try.pinned (OpenSpec.ofChange gateTurnedSpec)

/-- ITS FALSE NEIGHBOUR: 'it returns false'. Refute it at one input. -/
def gateTurnedWrong : ChangeSpec := { name := "gateTurned", fn := fun _ => fun
  | [d1, d2] => { results := [.lit (.bool false)], args := [d1, d2] }
  | _ => none }
def GateTurnedWrongFalsely : Prop := gateTurnedRow.holds Try.pinned (OpenSpec.ofChange gateTurnedWrong)

/- THE SECOND FORM. 'bulk': how many values and letters a reading holds, each counted each time it is reached (what is shared counts as often as it is met; a slice's spare places count too). A statement '..UptoSaid' is the law's where the arguments, and the package variables that the reading takes, are together of bulk at most 1048576: NARROWER than '..Said'. Prove '..Said' where nothing that the law and all that it calls make is longer than what came in: it says more and counts as full. Else prove '..UptoSaid'. A law counts once. -/
mutual
def uptoBulk {H : Type} : DataW H → Nat
  | .lit (.string bytes) => bytes.length + 1
  | .lit _ => 1
  | .nil => 1
  | .ptr d => uptoBulk d + 1
  | .slice elems spare => uptoBulkAll elems + uptoBulkAll spare + 1
  | .agg parts => uptoBulkAll parts + 1
  | .iface _ d => uptoBulk d + 1
  | .map entries => uptoBulkEntries entries + 1
  | .held _ => 1
def uptoBulkAll {H : Type} : List (DataW H) → Nat
  | [] => 0
  | d :: r => uptoBulk d + uptoBulkAll r
def uptoBulkEntries {H : Type} : List (Lit × DataW H) → Nat
  | [] => 0
  | x :: r => uptoBulkEntry x + uptoBulkEntries r
def uptoBulkEntry {H : Type} : Lit × DataW H → Nat
  | (.string bytes, d) => bytes.length + uptoBulk d + 1
  | (_, d) => uptoBulk d + 1
 end
def uptoSmall : (H : Type) → List (DataW H) → Bool := fun _ ds => decide (uptoBulkAll ds ≤ 1048576)
def OpenSpec.upto (s : _root_.Go.ChangeSpec) : _root_.Go.OpenSpec := { _root_.Go.OpenSpec.ofChange s with cond := some uptoSmall }

/-- 'roundsmanlaw16.GateTells', WHERE WHAT IT READS IS OF BULK AT MOST 1048576: true; the input reads as it did. -/
def gateTellsUptoRow : OpenClaim := { program := "ytmfhceopnilhfaa", sum := "5078ba87e293ec7c699b8c0b9c3ce1b7397aca4dfd6c0a41f1617372b555581c", func := "roundsman/roundsmanlaw16.GateTells", spec := "gateTells", unfollowed := true, recurses := true, apart := false, narrowed := true }
def GateTellsUptoSaid : Prop := gateTellsUptoRow.holds Try.pinned (OpenSpec.upto gateTellsSpec)

/-- 'roundsmanlaw16.GateOnce', WHERE WHAT IT READS IS OF BULK AT MOST 1048576: true; the input reads as it did. -/
def gateOnceUptoRow : OpenClaim := { program := "ytmfhceopnilhfaa", sum := "5078ba87e293ec7c699b8c0b9c3ce1b7397aca4dfd6c0a41f1617372b555581c", func := "roundsman/roundsmanlaw16.GateOnce", spec := "gateOnce", unfollowed := true, recurses := true, apart := false, narrowed := true }
def GateOnceUptoSaid : Prop := gateOnceUptoRow.holds Try.pinned (OpenSpec.upto gateOnceSpec)

/-- 'roundsmanlaw16.GatePlace', WHERE WHAT IT READS IS OF BULK AT MOST 1048576: true; the input reads as it did. -/
def gatePlaceUptoRow : OpenClaim := { program := "ytmfhceopnilhfaa", sum := "5078ba87e293ec7c699b8c0b9c3ce1b7397aca4dfd6c0a41f1617372b555581c", func := "roundsman/roundsmanlaw16.GatePlace", spec := "gatePlace", unfollowed := true, recurses := true, apart := false, narrowed := true }
def GatePlaceUptoSaid : Prop := gatePlaceUptoRow.holds Try.pinned (OpenSpec.upto gatePlaceSpec)

/-- 'roundsmanlaw16.GateTurned', WHERE WHAT IT READS IS OF BULK AT MOST 1048576: true; the input reads as it did. -/
def gateTurnedUptoRow : OpenClaim := { program := "ytmfhceopnilhfaa", sum := "5078ba87e293ec7c699b8c0b9c3ce1b7397aca4dfd6c0a41f1617372b555581c", func := "roundsman/roundsmanlaw16.GateTurned", spec := "gateTurned", unfollowed := true, recurses := true, apart := false, narrowed := true }
def GateTurnedUptoSaid : Prop := gateTurnedUptoRow.holds Try.pinned (OpenSpec.upto gateTurnedSpec)

end Rows
end Go.Proofs.Ytmfhceopnilhfaa

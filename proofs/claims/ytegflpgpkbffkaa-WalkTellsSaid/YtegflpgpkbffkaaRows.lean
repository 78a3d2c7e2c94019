/-
  No cell of these rows narrows 'for every input' (looked for: loops, veiled, ifaces, maps, wideKeys, modest, calm, conditions, laid).
  DERIVED. THE GIVEN ROWS OF THIS SEAT. 5 by the template 'for every input the law returns true; each argument reads behind the call as it read before'; 0 by the template 'total and deterministic' (their statements: YtegflpgpkbffkaaTotals.lean).
  GIVEN WITH THE SEED: the statements are not yours to turn. If you find one false, say at which input.
  Laid BY PROGRAM, IN A SANDBOX (cutbox-rows.mjs): the forced cells as the released guide's own fill.sh prints them over the translation b4ebb8e654b34898… (all of the seat's roots in one cut). By AI agents, Wed Nov 11 2026. No macro, syntax, notation, axiom, sorry.
-/
import Derived.Test.YtegflpgpkbffkaaChecked
import GoSem.Claim
import GoSem.ClaimJoined
import GoSem.ClaimMapViews
import Derived.JoinedTies
import Derived.KernelRfl
namespace Go.Proofs.Ytegflpgpkbffkaa
/- THE CELL 'sum', in the pinned program and in every row, IS THE sha256 OF THE DUMP (.gsa) THAT YtegflpgpkbffkaaProg.lean LOADS. Nothing in Lean hashes anything: it is a label: what it is worth is what the hold of that sum in a sandbox is worth. -/
noncomputable def Try.pinned : Pinned := { name := "ytegflpgpkbffkaa", sum := "b4ebb8e654b3489849ac966962f0cc5b306fd44a17e5f4ac578db2780cfa03cd", checked := Try.checked }
namespace Rows
def none {H : Type} : Left H := { results := [], args := [] }

/-- 'roundsmanlaw8.WalkTells': WHATEVER THE INPUT: true; the input reads as it did. -/
def walkTellsSpec : ChangeSpec := { name := "walkTells", fn := fun _ => fun
  | [d1, d2] => { results := [.lit (.bool true)], args := [d1, d2] }
  | _ => none }
def walkTellsRow : OpenClaim := { program := "ytegflpgpkbffkaa", sum := "b4ebb8e654b3489849ac966962f0cc5b306fd44a17e5f4ac578db2780cfa03cd", func := "roundsman/roundsmanlaw8.WalkTells", spec := "walkTells", unfollowed := true, recurses := true, apart := false }
def WalkTellsSaid : Prop := walkTellsRow.holds Try.pinned (OpenSpec.ofChange walkTellsSpec)

/-- ITS FALSE NEIGHBOUR: 'it returns false'. Refute it at one input. -/
def walkTellsWrong : ChangeSpec := { name := "walkTells", fn := fun _ => fun
  | [d1, d2] => { results := [.lit (.bool false)], args := [d1, d2] }
  | _ => none }
def WalkTellsWrongFalsely : Prop := walkTellsRow.holds Try.pinned (OpenSpec.ofChange walkTellsWrong)

/-- 'roundsmanlaw8.WalkPaths': WHATEVER THE INPUT: true; the input reads as it did. -/
def walkPathsSpec : ChangeSpec := { name := "walkPaths", fn := fun _ => fun
  | [d1, d2, d3] => { results := [.lit (.bool true)], args := [d1, d2, d3] }
  | _ => none }
def walkPathsRow : OpenClaim := { program := "ytegflpgpkbffkaa", sum := "b4ebb8e654b3489849ac966962f0cc5b306fd44a17e5f4ac578db2780cfa03cd", func := "roundsman/roundsmanlaw8.WalkPaths", spec := "walkPaths", unfollowed := true, recurses := true, apart := false }
def WalkPathsSaid : Prop := walkPathsRow.holds Try.pinned (OpenSpec.ofChange walkPathsSpec)

/-- ITS FALSE NEIGHBOUR: 'it returns false'. Refute it at one input. -/
def walkPathsWrong : ChangeSpec := { name := "walkPaths", fn := fun _ => fun
  | [d1, d2, d3] => { results := [.lit (.bool false)], args := [d1, d2, d3] }
  | _ => none }
def WalkPathsWrongFalsely : Prop := walkPathsRow.holds Try.pinned (OpenSpec.ofChange walkPathsWrong)

/-- 'roundsmanlaw8.WalkMeets': WHATEVER THE INPUT: true; the input reads as it did. -/
def walkMeetsSpec : ChangeSpec := { name := "walkMeets", fn := fun _ => fun
  | [d1, d2, d3, d4] => { results := [.lit (.bool true)], args := [d1, d2, d3, d4] }
  | _ => none }
def walkMeetsRow : OpenClaim := { program := "ytegflpgpkbffkaa", sum := "b4ebb8e654b3489849ac966962f0cc5b306fd44a17e5f4ac578db2780cfa03cd", func := "roundsman/roundsmanlaw8.WalkMeets", spec := "walkMeets", unfollowed := true, recurses := true, apart := false }
def WalkMeetsSaid : Prop := walkMeetsRow.holds Try.pinned (OpenSpec.ofChange walkMeetsSpec)

/-- ITS FALSE NEIGHBOUR: 'it returns false'. Refute it at one input. -/
def walkMeetsWrong : ChangeSpec := { name := "walkMeets", fn := fun _ => fun
  | [d1, d2, d3, d4] => { results := [.lit (.bool false)], args := [d1, d2, d3, d4] }
  | _ => none }
def WalkMeetsWrongFalsely : Prop := walkMeetsRow.holds Try.pinned (OpenSpec.ofChange walkMeetsWrong)

/-- 'roundsmanlaw8.WalkWhole': WHATEVER THE INPUT: true; the input reads as it did. -/
def walkWholeSpec : ChangeSpec := { name := "walkWhole", fn := fun _ => fun
  | [d1, d2, d3] => { results := [.lit (.bool true)], args := [d1, d2, d3] }
  | _ => none }
def walkWholeRow : OpenClaim := { program := "ytegflpgpkbffkaa", sum := "b4ebb8e654b3489849ac966962f0cc5b306fd44a17e5f4ac578db2780cfa03cd", func := "roundsman/roundsmanlaw8.WalkWhole", spec := "walkWhole", unfollowed := true, recurses := true, apart := false }
def WalkWholeSaid : Prop := walkWholeRow.holds Try.pinned (OpenSpec.ofChange walkWholeSpec)

/-- ITS FALSE NEIGHBOUR: 'it returns false'. Refute it at one input. -/
def walkWholeWrong : ChangeSpec := { name := "walkWhole", fn := fun _ => fun
  | [d1, d2, d3] => { results := [.lit (.bool false)], args := [d1, d2, d3] }
  | _ => none }
def WalkWholeWrongFalsely : Prop := walkWholeRow.holds Try.pinned (OpenSpec.ofChange walkWholeWrong)

/-- 'roundsmanlaw8.WalkDearer': WHATEVER THE INPUT: true; the input reads as it did. -/
def walkDearerSpec : ChangeSpec := { name := "walkDearer", fn := fun _ => fun
  | [d1, d2, d3, d4] => { results := [.lit (.bool true)], args := [d1, d2, d3, d4] }
  | _ => none }
def walkDearerRow : OpenClaim := { program := "ytegflpgpkbffkaa", sum := "b4ebb8e654b3489849ac966962f0cc5b306fd44a17e5f4ac578db2780cfa03cd", func := "roundsman/roundsmanlaw8.WalkDearer", spec := "walkDearer", unfollowed := true, recurses := true, apart := false }
def WalkDearerSaid : Prop := walkDearerRow.holds Try.pinned (OpenSpec.ofChange walkDearerSpec)

/-- ITS FALSE NEIGHBOUR: 'it returns false'. Refute it at one input. -/
def walkDearerWrong : ChangeSpec := { name := "walkDearer", fn := fun _ => fun
  | [d1, d2, d3, d4] => { results := [.lit (.bool false)], args := [d1, d2, d3, d4] }
  | _ => none }
def WalkDearerWrongFalsely : Prop := walkDearerRow.holds Try.pinned (OpenSpec.ofChange walkDearerWrong)

/- THE SECOND FORM. 'bulk': how many values and letters a reading holds, each counted each time it is reached (what is shared counts as often as it is met; a slice's spare places count too). A statement '..UptoSaid' is the law's where the arguments, and the package variables that the reading takes, are together of bulk at most 1048576: NARROWER than '..Said'. Prove '..Said' where nothing that the law and all that it calls make is longer than what came in: it says more and counts as full. Else prove '..UptoSaid'. A law counts once. -/
mutual
def uptoBulk {H : Type} : DataW H → Nat
  | .lit (.string bytes) => bytes.length + 1
  | .lit _ => 1
  | .nil => 1
  | .ptr d => uptoBulk d + 1
  | .slice elems spare => uptoBulkAll elems + uptoBulkAll spare + 1
  | .agg parts => uptoBulkAll parts + 1
  | .iface _ d => uptoBulk d + 1
  | .map entries => uptoBulkEntries entries + 1
  | .held _ => 1
def uptoBulkAll {H : Type} : List (DataW H) → Nat
  | [] => 0
  | d :: r => uptoBulk d + uptoBulkAll r
def uptoBulkEntries {H : Type} : List (Lit × DataW H) → Nat
  | [] => 0
  | x :: r => uptoBulkEntry x + uptoBulkEntries r
def uptoBulkEntry {H : Type} : Lit × DataW H → Nat
  | (.string bytes, d) => bytes.length + uptoBulk d + 1
  | (_, d) => uptoBulk d + 1
 end
def uptoSmall : (H : Type) → List (DataW H) → Bool := fun _ ds => decide (uptoBulkAll ds ≤ 1048576)
def OpenSpec.upto (s : _root_.Go.ChangeSpec) : _root_.Go.OpenSpec := { _root_.Go.OpenSpec.ofChange s with cond := some uptoSmall }

/-- 'roundsmanlaw8.WalkTells', WHERE WHAT IT READS IS OF BULK AT MOST 1048576: true; the input reads as it did. -/
def walkTellsUptoRow : OpenClaim := { program := "ytegflpgpkbffkaa", sum := "b4ebb8e654b3489849ac966962f0cc5b306fd44a17e5f4ac578db2780cfa03cd", func := "roundsman/roundsmanlaw8.WalkTells", spec := "walkTells", unfollowed := true, recurses := true, apart := false, narrowed := true }
def WalkTellsUptoSaid : Prop := walkTellsUptoRow.holds Try.pinned (OpenSpec.upto walkTellsSpec)

/-- 'roundsmanlaw8.WalkPaths', WHERE WHAT IT READS IS OF BULK AT MOST 1048576: true; the input reads as it did. -/
def walkPathsUptoRow : OpenClaim := { program := "ytegflpgpkbffkaa", sum := "b4ebb8e654b3489849ac966962f0cc5b306fd44a17e5f4ac578db2780cfa03cd", func := "roundsman/roundsmanlaw8.WalkPaths", spec := "walkPaths", unfollowed := true, recurses := true, apart := false, narrowed := true }
def WalkPathsUptoSaid : Prop := walkPathsUptoRow.holds Try.pinned (OpenSpec.upto walkPathsSpec)

/-- 'roundsmanlaw8.WalkMeets', WHERE WHAT IT READS IS OF BULK AT MOST 1048576: true; the input reads as it did. -/
def walkMeetsUptoRow : OpenClaim := { program := "ytegflpgpkbffkaa", sum := "b4ebb8e654b3489849ac966962f0cc5b306fd44a17e5f4ac578db2780cfa03cd", func := "roundsman/roundsmanlaw8.WalkMeets", spec := "walkMeets", unfollowed := true, recurses := true, apart := false, narrowed := true }
def WalkMeetsUptoSaid : Prop := walkMeetsUptoRow.holds Try.pinned (OpenSpec.upto walkMeetsSpec)

/-- 'roundsmanlaw8.WalkWhole', WHERE WHAT IT READS IS OF BULK AT MOST 1048576: true; the input reads as it did. -/
def walkWholeUptoRow : OpenClaim := { program := "ytegflpgpkbffkaa", sum := "b4ebb8e654b3489849ac966962f0cc5b306fd44a17e5f4ac578db2780cfa03cd", func := "roundsman/roundsmanlaw8.WalkWhole", spec := "walkWhole", unfollowed := true, recurses := true, apart := false, narrowed := true }
def WalkWholeUptoSaid : Prop := walkWholeUptoRow.holds Try.pinned (OpenSpec.upto walkWholeSpec)

/-- 'roundsmanlaw8.WalkDearer', WHERE WHAT IT READS IS OF BULK AT MOST 1048576: true; the input reads as it did. -/
def walkDearerUptoRow : OpenClaim := { program := "ytegflpgpkbffkaa", sum := "b4ebb8e654b3489849ac966962f0cc5b306fd44a17e5f4ac578db2780cfa03cd", func := "roundsman/roundsmanlaw8.WalkDearer", spec := "walkDearer", unfollowed := true, recurses := true, apart := false, narrowed := true }
def WalkDearerUptoSaid : Prop := walkDearerUptoRow.holds Try.pinned (OpenSpec.upto walkDearerSpec)

end Rows
end Go.Proofs.Ytegflpgpkbffkaa

/- The closed facts of the row, a few at a time. -/
import Derived.Test.YtmacmgjnmaajdaaGreatDoorTie
import Derived.Test.YtmacmgjnmaajdaaGreatDoorCards
import Derived.JoinedOf
import Derived.SevenTiedAt
namespace Go.Proofs.YtmacmgjnmaajdaaGreatDoor
theorem jf0 : (Rows.topMovedRow.wf (OpenSpec.ofChange Rows.topMovedSpec)) = true := by kernel_rfl
theorem jf1 : (laidOutB Tryz.prog) = true := by kernel_rfl
theorem jf2 : (mapsRowed Tryz.prog) = true := by kernel_rfl
theorem jf3 : (Tryz.f3.params.all (Tryz.prog.readableRec ·)) = true := by kernel_rfl
theorem jf4 : (namedTie Tryz.prog Rows.topMovedRow.named Rows.topMovedSpec.vars) = true := by kernel_rfl
theorem jf5 : ((Rows.topMovedRow.stops == [])) = true := by kernel_rfl
theorem jf6 : ((Tryz.prog.stops == [])) = true := by kernel_rfl
theorem jf7 : ((Rows.topMovedRow.knobs == [])) = true := by kernel_rfl
theorem jf8 : ((Tryz.prog.stopKnobs == [])) = true := by kernel_rfl
theorem jf9 : ((Rows.topMovedRow.inPlace == Tryz.prog.inPlace 3)) = true := by kernel_rfl
theorem jf10 : ((Rows.topMovedRow.unfollowed == Tryz.prog.unfollowed 3)) = true := by kernel_rfl
theorem jf11 : ((Rows.topMovedRow.recurses == Tryz.prog.recurses 3)) = true := by kernel_rfl
theorem jf12 : ((Rows.topMovedRow.named == Tryz.prog.varsNamed 3)) = true := by kernel_rfl
theorem jf13 : ((Rows.topMovedRow.maps == (Tryz.f3.params.toList ++ Rows.topMovedSpec.plain.varTypes Tryz.prog).any (Tryz.prog.mapsRec ·))) = true := by kernel_rfl
theorem jf14 : ((Rows.topMovedRow.ifaces == (Tryz.f3.params.toList ++ Rows.topMovedSpec.plain.varTypes Tryz.prog).any (Tryz.prog.ifacesRec ·))) = true := by kernel_rfl
theorem jf15 : ((Rows.topMovedRow.mapsOut == Tryz.prog.mapsAmong Tryz.f3.resultTypes.toList)) = true := by kernel_rfl
theorem jf16 : ((Rows.topMovedRow.loops == (Tryz.f3.params.toList ++ Rows.topMovedSpec.plain.varTypes Tryz.prog).any (Tryz.prog.loopsFrom ·))) = true := by kernel_rfl
theorem jf17 : ((Rows.topMovedRow.wideKeys == (Tryz.f3.params.toList ++ Rows.topMovedSpec.plain.varTypes Tryz.prog ++ Tryz.f3.resultTypes.toList).any (Tryz.prog.wideKeysFrom ·))) = true := by kernel_rfl
theorem jf18 : (Rows.topMovedSpec.vars.all (Tryz.prog.varReadable ·)) = true := by kernel_rfl
theorem jf19 : (Tryz.f3.resultTypes.all (fun t => Tryz.prog.readableRec t && decide (t < Tryz.prog.types.size))) = true := by kernel_rfl
theorem jf20 : ((Rows.topMovedRow.ifacesOut == Tryz.f3.resultTypes.toList.any (Tryz.prog.ifacesRec ·))) = true := by kernel_rfl
theorem jf21 : ((Rows.topMovedRow.loopsOut == Tryz.f3.resultTypes.toList.any (Tryz.prog.loopsFrom ·))) = true := by kernel_rfl
theorem jf22 : ((Rows.topMovedRow.plainKeys == Tryz.prog.plainKeys)) = true := by kernel_rfl
theorem jf23 : (Rows.topMovedRow.shortTexts.isNone) = true := by kernel_rfl
theorem jf24 : (Tryz.prog.stopsHeard) = true := by kernel_rfl
theorem jf25 : (Tryz.prog.mayEnter) = true := by kernel_rfl
theorem jf26 : ((Rows.topMovedRow.lifted == Tryz.prog.liftsFinal)) = true := by kernel_rfl
theorem jf27 : ((Tryz.prog.make == some Rows.topMovedRow.make)) = true := by kernel_rfl
theorem jf28 : ((Rows.topMovedRow.kinds == (if Rows.topMovedRow.domain.isEmpty then [] else Tryz.f3.params.toList.map fun t => match Tryz.prog.underlying t with | some (.int k) => some k | _ => none))) = true := by kernel_rfl
theorem jf29 : ((Rows.topMovedRow.pinned == Rows.topMovedRow.pinnedBy)) = true := by kernel_rfl
theorem jf30 : ((Rows.topMovedRow.veiled == (Tryz.f3.params.toList ++ Rows.topMovedSpec.plain.varTypes Tryz.prog ++ Tryz.f3.resultTypes.toList).any (Tryz.prog.veiledRec ·))) = true := by kernel_rfl
theorem jf31 : (Rows.topMovedRow.veiledFits Tryz.prog Tryz.f3.params.toList (Tryz.f3.params.toList ++ Rows.topMovedSpec.plain.varTypes Tryz.prog ++ Tryz.f3.resultTypes.toList)) = true := by kernel_rfl
theorem andI (a b : Bool) (h : a = true) (k : b = true) : (a && b) = true := by rw [h, k]; rfl
set_option maxRecDepth 100000 in
theorem closed : joinedFacts Tryz.prog 3 Tryz.f3 Rows.topMovedSpec Rows.topMovedRow = true :=
  andI _ _ (andI _ _ (andI _ _ (andI _ _ (andI _ _ (andI _ _ (andI _ _ (andI _ _ (andI _ _ (andI _ _ (andI _ _ (andI _ _ (andI _ _ (andI _ _ (andI _ _ (andI _ _ (andI _ _ (andI _ _ (andI _ _ (andI _ _ (andI _ _ (andI _ _ (andI _ _ (andI _ _ (andI _ _ (andI _ _ (andI _ _ (andI _ _ (andI _ _ (andI _ _ (andI _ _ (jf0) jf1) jf2) jf3) jf4) jf5) jf6) jf7) jf8) jf9) jf10) jf11) jf12) jf13) jf14) jf15) jf16) jf17) jf18) jf19) jf20) jf21) jf22) jf23) jf24) jf25) jf26) jf27) jf28) jf29) jf30) jf31
theorem cf1 : Rows.topMovedRow.wfByText (OpenSpec.ofChange Rows.topMovedSpec) = true := by kernel_rfl
theorem cf2 : false = Rows.topMovedRow.goesBy Tryz.prog := by kernel_rfl
theorem cf3 : Tryz.prog.funcNamed Rows.topMovedRow.func = some 3 := by kernel_rfl
theorem cf4 : true = Tryz.prog.looks [] := by kernel_rfl
end Go.Proofs.YtmacmgjnmaajdaaGreatDoor

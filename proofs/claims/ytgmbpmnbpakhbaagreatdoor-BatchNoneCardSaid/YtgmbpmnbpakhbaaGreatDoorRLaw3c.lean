import Derived.Test.YtgmbpmnbpakhbaaGreatDoorRNet10

/- The laws of nets: NetAny, NetTells, NetWalks. -/
set_option linter.unusedSimpArgs false
set_option linter.unusedVariables false
namespace Go.Rm

theorem may_ok {N : NetD} (h : mayD N = true) : fewD N = true ∧ NetOK N := by
  simp only [mayD, Bool.and_eq_true, decide_eq_true_eq] at h
  exact ⟨h.1, netOK_iff.1 h.2⟩

section
variable {Y : Sys} {h : Heap}

end
end Go.Rm

import Derived.Test.YtgmbpmnbpakhbaaGreatDoorRLaw3d

/- The laws of nets: NetGrid. -/
set_option linter.unusedSimpArgs false
set_option linter.unusedVariables false
namespace Go.Rm

theorem insO_lenN {as : List Tri} {v : Nat} : (insO as v).length = insN as v := by rw [insO, idxF_len, insN]
theorem outsO_lenN {as : List Tri} {v : Nat} : (outsO as v).length = outsN as v := by rw [outsO, idxF_len, outsN]

section
variable {Y : Sys} {h : Heap}

end
end Go.Rm

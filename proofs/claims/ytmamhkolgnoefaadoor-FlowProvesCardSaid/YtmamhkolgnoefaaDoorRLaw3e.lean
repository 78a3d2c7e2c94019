import Derived.Test.YtmamhkolgnoefaaDoorRLaw3d

/- The laws of nets: NetGrid. -/
set_option linter.unusedSimpArgs false
set_option linter.unusedVariables false
namespace Go.Rm

theorem nthI_mem {l : List Int} {i : Nat} (hi : i < l.length) : nthI l i ∈ l := by
  simp only [nthI, List.getD_eq_getElem?_getD, List.getElem?_eq_getElem hi, Option.getD_some]
  exact List.getElem_mem hi
section
variable {Y : Sys} {h : Heap}

end
end Go.Rm

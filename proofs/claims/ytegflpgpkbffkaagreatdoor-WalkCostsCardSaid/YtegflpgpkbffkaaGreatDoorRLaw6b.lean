import Derived.Test.YtegflpgpkbffkaaGreatDoorRLaw6

/- The laws of graphs: GraphBack, GraphTypes. -/
set_option linter.unusedSimpArgs false
set_option linter.unusedVariables false
namespace Go.Rm

section
variable {Y : Sys} {h : Heap}

end
end Go.Rm

import Derived.Test.YtegflpgpkbffkaaGreatDoorRLaw6b

/- The laws of graphs: GraphTypes. -/
set_option linter.unusedSimpArgs false
set_option linter.unusedVariables false
namespace Go.Rm

section
variable {Y : Sys} {h : Heap}

end
end Go.Rm

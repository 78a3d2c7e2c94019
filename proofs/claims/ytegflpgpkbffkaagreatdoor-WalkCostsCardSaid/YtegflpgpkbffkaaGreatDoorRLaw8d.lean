import Derived.Test.YtegflpgpkbffkaaGreatDoorRLaw8

/- The laws of walks: WalkWhole. -/
set_option linter.unusedSimpArgs false
set_option linter.unusedVariables false
namespace Go.Rm
section
variable {N : NetD}
end
section
variable {Y : Sys} {h h' : Heap}
end
end Go.Rm

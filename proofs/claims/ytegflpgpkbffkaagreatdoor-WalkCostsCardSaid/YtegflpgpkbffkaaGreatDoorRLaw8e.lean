import Derived.Test.YtegflpgpkbffkaaGreatDoorRLaw6b
import Derived.Test.YtegflpgpkbffkaaGreatDoorRLaw8d

/- The laws of walks: WalkDearer. -/
set_option linter.unusedSimpArgs false
set_option linter.unusedVariables false
namespace Go.Rm
section
variable {Y : Sys} {h h' : Heap}
end
end Go.Rm

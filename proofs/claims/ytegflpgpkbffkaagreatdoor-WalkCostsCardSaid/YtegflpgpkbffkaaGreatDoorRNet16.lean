import Derived.Test.YtegflpgpkbffkaaGreatDoorEngU
import Derived.Test.YtegflpgpkbffkaaGreatDoorRArg
import Derived.Test.YtegflpgpkbffkaaGreatDoorRNet15
import Derived.Test.YtegflpgpkbffkaaGreatDoorSNums

/- Nets in memory: Of. -/
set_option linter.unusedSimpArgs false
set_option linter.unusedVariables false
namespace Go.Rm

section
variable {Y : Sys} {h h' : Heap}

end
end Go.Rm

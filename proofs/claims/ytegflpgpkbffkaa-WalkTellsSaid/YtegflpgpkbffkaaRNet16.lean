import Derived.Test.YtegflpgpkbffkaaEngU
import Derived.Test.YtegflpgpkbffkaaRArg
import Derived.Test.YtegflpgpkbffkaaRNet15
import Derived.Test.YtegflpgpkbffkaaSNums

/- Nets in memory: Of. -/
set_option linter.unusedSimpArgs false
set_option linter.unusedVariables false
namespace Go.Rm

section
variable {Y : Sys} {h h' : Heap}

end
end Go.Rm

import Derived.Test.YtmfhceopnilhfaaEngU
import Derived.Test.YtmfhceopnilhfaaRArg
import Derived.Test.YtmfhceopnilhfaaRNet15
import Derived.Test.YtmfhceopnilhfaaSNums

/- Nets in memory: Of. -/
set_option linter.unusedSimpArgs false
set_option linter.unusedVariables false
namespace Go.Rm

section
variable {Y : Sys} {h h' : Heap}

end
end Go.Rm

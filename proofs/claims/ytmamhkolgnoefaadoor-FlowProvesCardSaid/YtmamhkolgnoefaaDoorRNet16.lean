import Derived.Test.YtmamhkolgnoefaaDoorEngU
import Derived.Test.YtmamhkolgnoefaaDoorRArg
import Derived.Test.YtmamhkolgnoefaaDoorRNet15
import Derived.Test.YtmamhkolgnoefaaDoorSNums

/- Nets in memory: Of. -/
set_option linter.unusedSimpArgs false
set_option linter.unusedVariables false
namespace Go.Rm

section
variable {Y : Sys} {h h' : Heap}

end
end Go.Rm

import Derived.Test.YtmamhkolgnoefaaDoorEngU
import Derived.Test.YtmamhkolgnoefaaDoorRGraph5
import Derived.Test.YtmamhkolgnoefaaDoorRNet16
import Derived.Test.YtmamhkolgnoefaaDoorSNums

/- The laws of graphs: Of, Ring, Same, Do. -/
set_option linter.unusedSimpArgs false
set_option linter.unusedVariables false
namespace Go.Rm

section
variable {Y : Sys} {h h' : Heap}

end
end Go.Rm

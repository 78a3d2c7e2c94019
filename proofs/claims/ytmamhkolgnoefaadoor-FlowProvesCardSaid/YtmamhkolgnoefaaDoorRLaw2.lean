import Derived.Test.YtmamhkolgnoefaaDoorRRef6a
import Derived.Test.YtmamhkolgnoefaaDoorSNums

/- The laws of tables of turns: To, Of, known. -/
set_option linter.unusedSimpArgs false
set_option linter.unusedVariables false
namespace Go.Rm

section
variable {Y : Sys} {h : Heap}

end
end Go.Rm

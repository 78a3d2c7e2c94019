import Derived.Test.YtnbciaekpbadmaaDoorRLaw3d

/- The laws of nets: NetGrid. -/
set_option linter.unusedSimpArgs false
set_option linter.unusedVariables false
namespace Go.Rm

section
variable {Y : Sys} {h : Heap}

end
end Go.Rm

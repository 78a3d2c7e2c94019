import Derived.Test.YtnbciaekpbadmaaDoorRLaw4c

/- The laws of numbers in bytes: WireParts. -/
set_option linter.unusedSimpArgs false
set_option linter.unusedVariables false
namespace Go.Rm

section
variable {Y : Sys} {h : Heap}

end
end Go.Rm

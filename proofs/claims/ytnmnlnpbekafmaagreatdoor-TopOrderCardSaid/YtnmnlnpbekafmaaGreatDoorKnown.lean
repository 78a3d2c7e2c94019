/- The fixed example that each law begins with answers as it should: run by the kernel. -/
import Derived.Test.YtnmnlnpbekafmaaGreatDoorSeat
import Derived.Test.YtnmnlnpbekafmaaGreatDoorT42
namespace Go.Proofs.YtnmnlnpbekafmaaGreatDoor
open Go.Rm
set_option maxRecDepth 100000 in
theorem known : Z19 seat.sys := fun h R hr => Z9z tbok (m := 100000) (d := 100) (by kernel_rfl) hr
end Go.Proofs.YtnmnlnpbekafmaaGreatDoor

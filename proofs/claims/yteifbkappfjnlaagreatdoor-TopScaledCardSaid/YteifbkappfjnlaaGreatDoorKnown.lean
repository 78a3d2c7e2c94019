/- The fixed example that each law begins with answers as it should: run by the kernel. -/
import Derived.Test.YteifbkappfjnlaaGreatDoorSeat
import Derived.Test.YteifbkappfjnlaaGreatDoorT24
namespace Go.Proofs.YteifbkappfjnlaaGreatDoor
open Go.Rm
set_option maxRecDepth 100000 in
theorem known : Z5g seat.sys := fun h R hr => Xd6 tbok (m := 100000) (d := 100) (by kernel_rfl) hr
end Go.Proofs.YteifbkappfjnlaaGreatDoor

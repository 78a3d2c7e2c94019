/- The fixed example that each law begins with answers as it should: run by the kernel. -/
import Derived.Test.YtpikofomaekpoaaGreatDoorSeat
import Derived.Test.YtpikofomaekpoaaGreatDoorT42
namespace Go.Proofs.YtpikofomaekpoaaGreatDoor
open Go.Rm
set_option maxRecDepth 100000 in
theorem known : Z3o seat.sys := fun h R hr => Xbg tbok (m := 100000) (d := 100) (by kernel_rfl) hr
end Go.Proofs.YtpikofomaekpoaaGreatDoor

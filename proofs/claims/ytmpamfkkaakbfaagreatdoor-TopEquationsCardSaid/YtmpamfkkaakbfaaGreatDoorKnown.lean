/- The fixed example that each law begins with answers as it should: run by the kernel. -/
import Derived.Test.YtmpamfkkaakbfaaGreatDoorSeat
import Derived.Test.YtmpamfkkaakbfaaGreatDoorT42
namespace Go.Proofs.YtmpamfkkaakbfaaGreatDoor
open Go.Rm
set_option maxRecDepth 100000 in
theorem known : Z1x seat.sys := fun h R hr => Z9j tbok (m := 100000) (d := 100) (by kernel_rfl) hr
end Go.Proofs.YtmpamfkkaakbfaaGreatDoor

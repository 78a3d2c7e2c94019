/- The fixed example that each law begins with answers as it should: run by the kernel. -/
import Derived.Test.YtmacmgjnmaajdaaGreatDoorSeat
import Derived.Test.YtmacmgjnmaajdaaGreatDoorT24
namespace Go.Proofs.YtmacmgjnmaajdaaGreatDoor
open Go.Rm
set_option maxRecDepth 100000 in
theorem known : Z5t seat.sys := fun h R hr => Xek tbok (m := 100000) (d := 100) (by kernel_rfl) hr
end Go.Proofs.YtmacmgjnmaajdaaGreatDoor

import Derived.Test.YtgmbpmnbpakhbaaGreatDoorRWire
import Derived.Test.YtgmbpmnbpakhbaaGreatDoorSNums

/- The laws of numbers in bytes: known. -/
set_option linter.unusedSimpArgs false
set_option linter.unusedVariables false
namespace Go.Rm

section
variable {Y : Sys} {h : Heap}

theorem Mod.toExt {p : Nat} {h0 h h' : Heap} (x : Ext h0 h) (m : Mod (fun j => j = p) h h') (hp : h0.size ≤ p) : Ext h0 h' := Mod.ext x m (fun j hj => by omega)

end
end Go.Rm

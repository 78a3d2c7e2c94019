import Derived.Test.YtmamhkolgnoefaaDoorRNet10

/- The laws of nets: NetAny, NetTells, NetWalks. -/
set_option linter.unusedSimpArgs false
set_option linter.unusedVariables false
namespace Go.Rm

section
variable {Y : Sys} {h : Heap}

end
end Go.Rm

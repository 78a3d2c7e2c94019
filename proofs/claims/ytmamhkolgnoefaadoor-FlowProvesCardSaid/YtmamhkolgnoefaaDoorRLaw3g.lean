import Derived.Test.YtmamhkolgnoefaaDoorRNet15

/- The laws of nets: NetBent. -/
set_option linter.unusedSimpArgs false
set_option linter.unusedVariables false
namespace Go.Rm

-- where it is wrong first
section bent
variable {N : NetD} (ok : NetOK N)
include ok
end bent

-- cells that are stored
section
variable {Y : Sys} {h : Heap}

end
end Go.Rm

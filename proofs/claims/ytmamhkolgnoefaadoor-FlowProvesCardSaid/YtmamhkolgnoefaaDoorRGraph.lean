import Derived.Test.YtmamhkolgnoefaaDoorRNet15

/- Graphs: May and To of nets by themselves; clones; makes. -/
set_option linter.unusedSimpArgs false
set_option linter.unusedVariables false
namespace Go.Rm

section
variable {Y : Sys} {h : Heap}

end
end Go.Rm

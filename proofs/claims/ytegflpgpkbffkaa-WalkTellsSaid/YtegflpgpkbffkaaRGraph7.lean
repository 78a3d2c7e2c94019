import Derived.Test.YtegflpgpkbffkaaRGraph6

/- The laws of graphs: Do, known. -/
set_option linter.unusedSimpArgs false
set_option linter.unusedVariables false
namespace Go.Rm

/-- a change -/
structure Act5 where
  kd : Int
  a : Int
  i : Int
  o : Int
  w : Int
section
variable {Y : Sys} {h h' : Heap}

end
end Go.Rm

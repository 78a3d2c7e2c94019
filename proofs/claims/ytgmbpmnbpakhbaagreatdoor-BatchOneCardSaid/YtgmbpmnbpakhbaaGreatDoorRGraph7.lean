import Derived.Test.YtgmbpmnbpakhbaaGreatDoorRGraph6

/- The laws of graphs: Do, known. -/
set_option linter.unusedSimpArgs false
set_option linter.unusedVariables false
namespace Go.Rm

/-- a change -/
structure Act5 where
  kd : Int
  a : Int
  i : Int
  o : Int
  w : Int
def actV (t : Act5) : Value := .agg #[.int .i64 t.kd, .int .i64 t.a, .int .i64 t.i, .int .i64 t.o, .int .i64 t.w]
section
variable {Y : Sys} {h h' : Heap}

end
end Go.Rm

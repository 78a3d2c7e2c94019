/- The programs of package api in the small language, printed by program (gen.py, mkS.py) from the compiler's answers. -/
import Derived.Test.YtghpbaebbljppaaDoorEngA
import Derived.Test.YtghpbaebbljppaaDoorSNums
namespace Go.Rm
def S_api_Fault_Unwrap : FnS := ⟨1, 2, (.seq (.reg (.op (.op .mv [(.c .nilIface)] (.set 1)) .nil)) (.seq (.reg (.op (.op .nilck [(.n 0)] .push) (.op (.op (.fadr 2) [(.t 0)] .push) (.op (.op (.load 1 .false) [(.t 1)] .push) (.op (.op .mv [(.t 2)] (.set 1)) .nil))))) .ret)), [(.n 1)]⟩
end Go.Rm

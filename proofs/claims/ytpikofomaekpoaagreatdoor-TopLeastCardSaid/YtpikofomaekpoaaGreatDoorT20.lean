import Derived.Test.YtpikofomaekpoaaGreatDoorT09
import Derived.Laws.Strings
/- Parts. -/
set_option linter.unusedSimpArgs false
set_option linter.unusedVariables false


namespace Go.Rm
theorem Zst {n:Int} (h:0<=n/\n<18446744073709551616):IntKind.u64.wrap n=n:=by
 simp [IntKind.wrap,IntKind.bits,IntKind.signed];omega
theorem Z9w {k j:IntKind} {a b:Int} (h:0<=b):X8 .shr k a j b=some (.int k (a.fdiv (2 ^ (min b.toNat k.bits)))):=by simp [X8];omega
section
variable {Y:Sys} {h h':Zk}
theorem Zxo {u:Nat} {j:IntKind}:X8 .shr .u64 (u:Int) j 1=some (.int .u64 ((u / 2:Nat):Int)):=by
 rw [Z9w (by omega)];have:min (1:Int).toNat IntKind.u64.bits=1:=by decide
 rw [this]
 congr 2
 rw [Int.fdiv_eq_ediv_of_nonneg _ (by decide)];simp
end
def zz (v:Int):Nat:=if v<0 then 2 * (-1-v).toNat+1 else 2 * v.toNat
end Go.Rm

namespace Go.Rm
section
variable {Y:Sys} {h:Zk}
theorem Mod.toExt {p:Nat} {h0 h h':Zk} (x:Ext h0 h) (m:Mod (fun j=>j=p) h h') (hp:h0.size<=p):Ext h0 h':=Mod.ext x m (fun j r=>by omega)
end
end Go.Rm

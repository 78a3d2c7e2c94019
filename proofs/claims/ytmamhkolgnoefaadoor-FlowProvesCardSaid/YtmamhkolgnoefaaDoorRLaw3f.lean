import Derived.Test.YtmamhkolgnoefaaDoorRLaw3e

/- The laws of nets: NetDegrees. -/
set_option linter.unusedSimpArgs false
set_option linter.unusedVariables false
namespace Go.Rm

def Stmt.rest : Stmt → Stmt
  | .seq _ b => b
  | s => s

section
variable {Y : Sys} {h : Heap}

theorem Own.ext' {h h' : Heap} {sz : Nat} {s : Sl} {cells : List Value} (o : Own h sz s cells) (e : Ext h h') : Own h' sz s cells := o.mod e (fun _ h => h)
@[simp] theorem ef_store_raw {K : Value → Heap → Prop} {b o : Nat} {a : Option Addr} {n c : Nat} : Ef.wp h K (.store 1) [.pointer (some ⟨b, o, none⟩), .slice a n c] = StoreP h b o (.slice a n c) K := ef_store1_eq rfl

end
end Go.Rm

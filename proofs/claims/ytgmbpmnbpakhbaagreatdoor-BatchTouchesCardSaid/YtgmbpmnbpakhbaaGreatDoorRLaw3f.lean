import Derived.Test.YtgmbpmnbpakhbaaGreatDoorRLaw3e

/- The laws of nets: NetDegrees. -/
set_option linter.unusedSimpArgs false
set_option linter.unusedVariables false
namespace Go.Rm

def Stmt.rest : Stmt → Stmt
  | .seq _ b => b
  | s => s

section
variable {Y : Sys} {h : Heap}

theorem Own.ext' {h h' : Heap} {sz : Nat} {s : Sl} {cells : List Value} (o : Own h sz s cells) (e : Ext h h') : Own h' sz s cells := o.mod e (fun _ h => h)
/-- a cell of a box is stored -/
theorem stB {K : Value → Heap → Prop} {B o : Nat} {cs : Array Value} {v : Value} (hb : Blk h B cs) (ho : o < cs.size) (hr : ∀ h', Blk h' B (cs.setIfInBounds o v) → Mod (fun j => j = B) h h' → K undef h') : StoreP h B o v K := by
  rw [StoreP.open]
  refine ⟨?_, hb.hfz, hr _ hb.set (Mod.set rfl)⟩
  rw [hb.hc]
  simp [ho]
@[simp] theorem ef_store_raw {K : Value → Heap → Prop} {b o : Nat} {a : Option Addr} {n c : Nat} : Ef.wp h K (.store 1) [.pointer (some ⟨b, o, none⟩), .slice a n c] = StoreP h b o (.slice a n c) K := ef_store1_eq rfl

end
end Go.Rm

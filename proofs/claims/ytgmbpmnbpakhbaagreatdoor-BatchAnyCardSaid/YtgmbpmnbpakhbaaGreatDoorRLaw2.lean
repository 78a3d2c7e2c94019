import Derived.Test.YtgmbpmnbpakhbaaGreatDoorRRef6a
import Derived.Test.YtgmbpmnbpakhbaaGreatDoorSNums

/- The laws of tables of turns: To, Of, known. -/
set_option linter.unusedSimpArgs false
set_option linter.unusedVariables false
namespace Go.Rm

section
variable {Y : Sys} {h : Heap}

/-- a box is laid, and at once something is put into it -/
theorem new_store {K : Value → Heap → Prop} {v : Value} {n : Nat} {vs : Array Value} (hn : v.cells.size = n) (hs : vs.size = n) (h1 : ∀ v ∈ vs.toList, v.oneCell' = true)
    (hk : ∀ (b : Nat) (h2 : Heap), h.size ≤ b → Blk h2 b v.cells → Ext h h2 → (∀ K2 : Value → Heap → Prop, (∀ h3, Blk h3 b vs → Ext h h3 → K2 undef h3) → Ef.wp h2 K2 (.store n) [.pointer (some ⟨b, 0, none⟩), .agg vs]) →
      K (.pointer (some ⟨b, 0, none⟩)) h2) : Ef.wp h K .new [v] := by
  refine ef_new_box ?_
  intro b h2 g2 B2 e2
  refine hk b h2 g2 B2 e2 ?_
  intro K2 hk2
  refine ef_store_box B2 hs hn h1 ?_
  intro h3 B3 m3
  exact hk2 h3 B3 (Mod.ext e2 m3 (fun j hj => by omega))

theorem of_spec (HO : Y.Has F.rlaw2_Of S_rlaw2_Of) {ins outs : Int} {s : Sl} {R : Value → Heap → Prop} (hr : ∀ h', Ext h h' → R (tabV ins outs s) h') : CallP Y F.rlaw2_Of [tabV ins outs s] h R := by
  refine .of_has HO rfl ?_
  simp [S_rlaw2_Of, FnS.wp, tabV]
  refine ef_new_box ?_
  intro b h1 g1 B1 e1
  simp
  refine ef_new_box ?_
  intro rb h2 g2 B2 e2
  have B1' := B1.ext e2
  have z1 := e1.size
  simp [B1'.hc]
  refine ef_store_box B2 rfl rfl (by simp) ?_
  intro h5 B5 m5
  simp
  exact resP_x rfl B5 rfl (hr h5 (Mod.ext (e1.trans e2) m5 (fun j hj => by omega)))

end
end Go.Rm

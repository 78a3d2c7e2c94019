import Derived.Test.YtegflpgpkbffkaaRNet10

/- The laws of nets: NetAny, NetTells, NetWalks. -/
set_option linter.unusedSimpArgs false
set_option linter.unusedVariables false
namespace Go.Rm

theorem few_small {N : NetD} (h : fewD N = true) : N.vs.length ≤ 80 ∧ N.as.length ≤ 300 ∧ N.ts.length ≤ 80 ∧ (∀ i, i < N.ts.length → (nthB N.ts i).cs.length ≤ 300) ∧ NetSmall N := by
  obtain ⟨a, b, c, d⟩ := fewD_iff.1 h
  exact ⟨a, b, c, d, ⟨by omega, by omega, by omega, fun i hi => by have := d i hi; omega⟩⟩
section
variable {Y : Sys} {h : Heap}

end
end Go.Rm

import Derived.Test.YtnbciaekpbadmaaDoorRLaw3f

/- The document's nets: CopyNet. -/
set_option linter.unusedSimpArgs false
set_option linter.unusedVariables false
namespace Go.Rm

section
variable {Y : Sys} {h : Heap}

theorem ef_bslice0_box {K : Value → Heap → Prop} {sz : Nat} (hk : ∀ (b : Nat) (h' : Heap), h.size ≤ b → Own h' sz (Sl.at b 0 0) [] → Ext h h' → K (.slice (some ⟨b, 0, none⟩) 0 0) h') : Ef.wp h K (.bslice 0 sz #[] []) [] := by
  rw [ef_bslice0]
  intro t
  exact hk h.size _ (Nat.le_refl _) own_empty Mod.push
@[simp] theorem sem_build_ssn {z0 z1 z2 : Value} {s t : Sl} : IOp.sem Y h (.build #[z0, z1, z2] [(0, 1), (1, 1), (2, 1)] [0, 1]) [s.v, t.v] = some (.agg #[s.v, t.v, z2]) := by
  simp [IOp.sem, Instr.fill]

end
end Go.Rm

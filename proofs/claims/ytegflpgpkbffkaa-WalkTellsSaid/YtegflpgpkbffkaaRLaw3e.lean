import Derived.Test.YtegflpgpkbffkaaRLaw3d

/- The laws of nets: NetGrid. -/
set_option linter.unusedSimpArgs false
set_option linter.unusedVariables false
namespace Go.Rm

theorem nthI_mem {l : List Int} {i : Nat} (hi : i < l.length) : nthI l i ∈ l := by
  simp only [nthI, List.getD_eq_getElem?_getD, List.getElem?_eq_getElem hi, Option.getD_some]
  exact List.getElem_mem hi
/-- the number at a place among those that are so -/
theorem idxF_at {p : Tri → Bool} : ∀ {l : List Tri} {k i : Nat}, i < (idxF p k l).length → ∃ a, a < l.length ∧ nthI (idxF p k l) i = ((k + a : Nat) : Int) ∧ p (nthT l a) = true ∧ ((l.take a).filter p).length = i := by
  intro l
  induction l with
  | nil => intro k i hi; simp [idxF] at hi
  | cons t r ih =>
    intro k i hi
    rw [idxF] at hi ⊢
    by_cases c : p t = true
    · rw [if_pos c] at hi ⊢
      cases i with
      | zero => exact ⟨0, by simp, by simp [nthI], by simpa [nthT] using c, by simp⟩
      | succ i =>
        obtain ⟨a, h1, h2, h3, h4⟩ := ih (k := k + 1) (i := i) (by simpa using hi)
        refine ⟨a + 1, by simpa using h1, ?_, by simpa [nthT] using h3, by simp [c, h4]⟩
        have : nthI ((k : Int) :: idxF p (k + 1) r) (i + 1) = nthI (idxF p (k + 1) r) i := by simp [nthI]
        rw [this, h2]
        congr 1
        omega
    · rw [if_neg c] at hi ⊢
      obtain ⟨a, h1, h2, h3, h4⟩ := ih (k := k + 1) (i := i) hi
      refine ⟨a + 1, by simpa using h1, ?_, by simpa [nthT] using h3, by simp [c, h4]⟩
      rw [h2]
      congr 1
      omega
theorem insO_lenN {as : List Tri} {v : Nat} : (insO as v).length = insN as v := by rw [insO, idxF_len, insN]
theorem outsO_lenN {as : List Tri} {v : Nat} : (outsO as v).length = outsN as v := by rw [outsO, idxF_len, outsN]

section
variable {Y : Sys} {h : Heap}

end
end Go.Rm

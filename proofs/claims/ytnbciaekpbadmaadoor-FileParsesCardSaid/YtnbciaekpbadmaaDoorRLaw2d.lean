import Derived.Test.YtnbciaekpbadmaaDoorRLaw2c

/- The laws of tables of turns: TurnSets. -/
set_option linter.unusedSimpArgs false
set_option linter.unusedVariables false
namespace Go.Rm

theorem badFrom_none : ∀ {l : List Int} {k : Nat}, badFrom k l = none ↔ ∀ j, j < l.length → weightB (nthI l j) = true := by
  intro l
  induction l with
  | nil => intro k; simp [badFrom]
  | cons c r ih =>
    intro k
    simp only [badFrom]
    split
    · rename_i hw
      rw [ih]
      constructor
      · intro h j hj
        cases j with
        | zero => simpa [nthI] using hw
        | succ j => have := h j (by simpa using hj); simpa [nthI] using this
      · intro h j hj
        have := h (j + 1) (by simpa using hj)
        simpa [nthI] using this
    · rename_i hw
      constructor
      · intro h; cases h
      · intro h
        have := h 0 (by simp)
        simp [nthI] at this
        exact absurd this hw

theorem tab_ok_iff {ins outs : Int} {cs : List Int} : (tabW ins outs cs).2 = 0 ↔ (0 ≤ ins ∧ ins ≤ 16 ∧ 0 ≤ outs ∧ outs ≤ 16 ∧ (cs.length : Int) = ins * outs ∧ ∀ j, j < cs.length → weightB (nthI cs j) = true) := by
  constructor
  · intro h
    obtain ⟨a, b, c, d, e, f, _⟩ := tab_ok h
    exact ⟨a, b, c, d, e, badFrom_none.1 f⟩
  · rintro ⟨a, b, c, d, e, f⟩
    have hs : (sidesW ins outs) = wOK := by unfold sidesW; rw [if_neg (by omega), if_neg (by omega)]
    have hb : badFrom 0 cs = none := badFrom_none.2 f
    simp only [tabW, hs, e, hb]
    simp [wOK]

section
variable {Y : Sys} {h : Heap}

end
end Go.Rm

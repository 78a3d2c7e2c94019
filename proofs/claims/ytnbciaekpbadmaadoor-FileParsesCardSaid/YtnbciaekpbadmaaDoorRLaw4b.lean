import Derived.Test.YtnbciaekpbadmaaDoorRLaw4

/- The laws of numbers in bytes: WireMost, WireOnce. -/
set_option linter.unusedSimpArgs false
set_option linter.unusedVariables false
namespace Go.Rm

def Stmt.tk : Stmt → Stmt
  | .seq _ b => b
  | s => s

theorem unz_zz {i : Int} (hi : -9223372036854775808 ≤ i ∧ i ≤ 9223372036854775807) : unz (zz i) = i ∧ (amt (zz i) : Int) = if i < 0 then -i else i := by
  unfold zz
  split
  · rename_i h
    refine ⟨?_, ?_⟩
    · unfold unz; rw [if_pos (by omega)]; omega
    · unfold amt; omega
  · rename_i h
    refine ⟨?_, ?_⟩
    · unfold unz; rw [if_neg (by omega)]; omega
    · unfold amt; omega
theorem zz_unz {v : Nat} (hv : v < 2 ^ 64) : zz (unz v) = v ∧ amt v ≤ 9223372036854775808 ∧ (-9223372036854775808 ≤ unz v ∧ unz v ≤ 9223372036854775807) := by
  unfold unz amt
  split
  · refine ⟨?_, by omega, by omega⟩
    unfold zz; rw [if_pos (by omega)]; omega
  · refine ⟨?_, by omega, by omega⟩
    unfold zz; rw [if_neg (by omega)]; omega

section
variable {Y : Sys} {h : Heap}

theorem enc_len {v : Nat} (hv : v < 2 ^ 64) : (encU v).length ≤ 10 := by
  have : ∀ k w, (encF k w).length ≤ k + 1 := by
    intro k
    induction k with
    | zero => intro w; simp [encF]
    | succ k ih =>
      intro w
      simp only [encF]
      split
      · simp
      · have := ih (w / 128)
        simp
        omega
  exact this 9 v

end
end Go.Rm

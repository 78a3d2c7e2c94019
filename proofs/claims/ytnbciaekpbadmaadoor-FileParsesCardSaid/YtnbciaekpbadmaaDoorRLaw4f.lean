import Derived.Test.YtnbciaekpbadmaaDoorRLaw4b

/- The laws of numbers in bytes: WireNums. -/
set_option linter.unusedSimpArgs false
set_option linter.unusedVariables false
namespace Go.Rm

def encL (L : List Nat) : List Nat := L.flatMap encU

theorem encL_lt {L : List Nat} (hL : ∀ x ∈ L, x < 2 ^ 64) : ∀ x ∈ encL L, x < 256 := by
  intro x hx
  simp only [encL, List.mem_flatMap] at hx
  obtain ⟨v, hv, hx⟩ := hx
  exact encU_lt (hL v hv) x hx
theorem encL_len {L : List Nat} (hL : ∀ x ∈ L, x < 2 ^ 64) : (encL L).length ≤ 10 * L.length := by
  induction L with
  | nil => simp [encL]
  | cons x r ih =>
    have h1 := enc_len (hL x (by simp))
    have h2 := ih fun z hz => hL z (by simp [hz])
    simp only [encL, List.flatMap_cons, List.length_append, List.length_cons] at h2 ⊢
    omega
end Go.Rm

import Derived.Test.YtnbciaekpbadmaaDoorRLaw4b

/- The laws of numbers in bytes: WireOnce. -/
set_option linter.unusedSimpArgs false
set_option linter.unusedVariables false
namespace Go.Rm

theorem rowB_of {h : Heap} {s : Sl} {f : Nat → Int} (hs : IntsAt h s .u8 f) (hf : ∀ i, i < s.n → IntKind.u8.min ≤ f i ∧ f i ≤ IntKind.u8.max) : RowB h s ((List.range s.n).map fun i => (f i).toNat) := by
  have hf' : ∀ i, i < s.n → 0 ≤ f i ∧ f i ≤ 255 := fun i hi => by simpa [IntKind.min, IntKind.max, IntKind.signed, IntKind.bits] using hf i hi
  refine ⟨hs.ok, by simp, fun i hi => ?_, fun i hi => ?_⟩
  · have hi : i < s.n := by simpa using hi
    have := hf' i hi
    rw [hs.val i hi]
    simp [nth, hi]
    omega
  · have hi : i < s.n := by simpa using hi
    have := hf' i hi
    simp [nth, hi]
    omega

section
variable {Y : Sys} {h : Heap}

end
end Go.Rm

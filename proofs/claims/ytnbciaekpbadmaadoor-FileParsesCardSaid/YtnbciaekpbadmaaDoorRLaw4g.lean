import Derived.Test.YtnbciaekpbadmaaDoorRLaw4f

/- The laws of numbers in bytes: WireNums, walked. -/
set_option linter.unusedSimpArgs false
set_option linter.unusedVariables false
namespace Go.Rm

section
variable {Y : Sys} {h : Heap}

theorem RowB.take {s : Sl} {bs : List Nat} {k : Nat} (r : RowB h s bs) (hk : k ≤ bs.length) : RowB h { s with n := k } (bs.take k) := by
  have hl := r.len
  refine ⟨⟨fun h => by have := r.ok.nil h; simp; omega, by have := r.ok.le; simp; omega, r.ok.spot⟩, by simp; omega, fun i hi => ?_, fun i hi => ?_⟩
  · have hi' : i < k := by simp at hi; omega
    rw [nth_take hi']; exact r.val i (by omega)
  · have hi' : i < k := by simp at hi; omega
    rw [nth_take hi']; exact r.lt i (by omega)

end
end Go.Rm

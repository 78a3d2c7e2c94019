import Derived.Test.YtnbciaekpbadmaaDoorRWire
import Derived.Test.YtnbciaekpbadmaaDoorSNums

/- The laws of numbers in bytes: known. -/
set_option linter.unusedSimpArgs false
set_option linter.unusedVariables false
namespace Go.Rm

section
variable {Y : Sys} {h : Heap}

theorem encU_lt {v : Nat} (hv : v < 2 ^ 64) : ∀ x ∈ encU v, x < 256 := encF_lt (k := 9) (by simpa using Nat.lt_of_lt_of_le hv (by decide))

theorem sb_eq {a b : List Nat} (ha : ∀ x ∈ a, x < 256) (hb : ∀ x ∈ b, x < 256) : sbin .eql (strB a) (strB b) = some (.bool (decide (a = b))) := by
  rw [sbin_eql, strB_eq ha hb]
theorem sb_ne {a b : List Nat} (ha : ∀ x ∈ a, x < 256) (hb : ∀ x ∈ b, x < 256) : sbin .neq (strB a) (strB b) = some (.bool !(decide (a = b))) := by
  rw [sbin_neq, strB_eq ha hb]

theorem sumB_lt {bs : List Nat} : ∀ x ∈ sumB bs, x < 256 := by
  have := sumF_lt (bs := bs) (a := 0) (c := 0) (by omega) (by omega)
  intro x hx
  simp only [sumB, List.mem_cons, List.not_mem_nil, or_false] at hx
  omega

theorem Mod.toExt {p : Nat} {h0 h h' : Heap} (x : Ext h0 h) (m : Mod (fun j => j = p) h h') (hp : h0.size ≤ p) : Ext h0 h' := Mod.ext x m (fun j hj => by omega)

end
end Go.Rm

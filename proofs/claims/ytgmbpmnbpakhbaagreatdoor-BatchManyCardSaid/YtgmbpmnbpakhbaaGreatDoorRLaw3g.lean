import Derived.Test.YtgmbpmnbpakhbaaGreatDoorRNet15

/- The laws of nets: NetBent. -/
set_option linter.unusedSimpArgs false
set_option linter.unusedVariables false
namespace Go.Rm

-- where it is wrong first
theorem nthT_set {l : List Tri} {v i : Nat} {t : Tri} (hv : v < l.length) : nthT (l.set v t) i = if i = v then t else nthT l i := by
  unfold nthT
  simp only [List.getD_eq_getElem?_getD, List.getElem?_set]
  by_cases c : v = i
  · subst c; simp [hv]
  · have : ¬ i = v := fun e => c e.symm
    simp [c, this]
theorem nthB_set {l : List Tab} {v i : Nat} {t : Tab} (hv : v < l.length) : nthB (l.set v t) i = if i = v then t else nthB l i := by
  unfold nthB
  simp only [List.getD_eq_getElem?_getD, List.getElem?_set]
  by_cases c : v = i
  · subst c; simp [hv]
  · have : ¬ i = v := fun e => c e.symm
    simp [c, this]
section bent
variable {N : NetD} (ok : NetOK N)
include ok
omit ok in
theorem within_ne {p : ByteArray} {k : Int} {w : Wr} (h : w.2 ≠ 0) : (withinW p k w).2 ≠ 0 := by
  unfold withinW
  rw [if_neg h]
  exact h
end bent

-- cells that are stored
theorem cells3_set {l : List (Value × Value × Value)} : ∀ {i : Nat} {x : Value}, i < l.length →
    (cells3 l).set (i * 3) x = cells3 (l.set i (x, (l.getD i (undef, undef, undef)).2.1, (l.getD i (undef, undef, undef)).2.2)) ∧
    (cells3 l).set (i * 3 + 1) x = cells3 (l.set i ((l.getD i (undef, undef, undef)).1, x, (l.getD i (undef, undef, undef)).2.2)) ∧
    (cells3 l).set (i * 3 + 2) x = cells3 (l.set i ((l.getD i (undef, undef, undef)).1, (l.getD i (undef, undef, undef)).2.1, x)) := by
  induction l with
  | nil => intro i x hi; simp at hi
  | cons t r ih =>
    intro i x hi
    have e : cells3 (t :: r) = t.1 :: t.2.1 :: t.2.2 :: cells3 r := rfl
    rw [e]
    cases i with
    | zero => exact ⟨rfl, rfl, rfl⟩
    | succ i =>
      obtain ⟨h0, h1, h2⟩ := ih (i := i) (x := x) (by simpa using hi)
      have q0 : (i + 1) * 3 = i * 3 + 1 + 1 + 1 := by omega
      have q1 : (i + 1) * 3 + 1 = i * 3 + 1 + 1 + 1 + 1 := by omega
      have q2 : (i + 1) * 3 + 2 = i * 3 + 2 + 1 + 1 + 1 := by omega
      rw [q1, q2, q0]
      simp only [List.set_cons_succ, h0, h1, h2]
      exact ⟨rfl, rfl, rfl⟩
theorem tri_set {l : List Tri} {i : Nat} {x : Int} (hi : i < l.length) :
    (cells3 (l.map triV)).set (i * 3) (.int .i64 x) = cells3 ((l.set i ⟨x, (nthT l i).b, (nthT l i).c⟩).map triV) ∧
    (cells3 (l.map triV)).set (i * 3 + 1) (.int .i64 x) = cells3 ((l.set i ⟨(nthT l i).a, x, (nthT l i).c⟩).map triV) ∧
    (cells3 (l.map triV)).set (i * 3 + 2) (.int .i64 x) = cells3 ((l.set i ⟨(nthT l i).a, (nthT l i).b, x⟩).map triV) := by
  have h := cells3_set (l := l.map triV) (i := i) (x := .int .i64 x) (by simpa using hi)
  have e : (l.map triV).getD i (undef, undef, undef) = triV (nthT l i) := by
    rw [nthT_eq hi]
    simp [hi]
  rw [e] at h
  simp only [List.map_set]
  exact h
section
variable {Y : Sys} {h : Heap}

end
end Go.Rm

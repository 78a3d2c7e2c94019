import Derived.Test.YtgmbpmnbpakhbaaGreatDoorRLaw3c

/- The laws of nets: NetParts, NetGrid. -/
set_option linter.unusedSimpArgs false
set_option linter.unusedVariables false
namespace Go.Rm

-- parts of a walk
theorem nthI_take {l : List Int} {k i : Nat} (hi : i < k) : nthI (l.take k) i = nthI l i := by
  simp only [nthI, List.getD_eq_getElem?_getD, List.getElem?_take, hi, if_true]
theorem nthI_drop {l : List Int} {k i : Nat} : nthI (l.drop k) i = nthI l (k + i) := by
  simp only [nthI, List.getD_eq_getElem?_getD, List.getElem?_drop]
section
variable {Y : Sys} {h : Heap}

theorem Row64.take {s : Sl} {cs : List Int} (r : Row64 h s cs) {j : Nat} (hj : j ≤ s.n) : Row64 h { s with n := j } (cs.take j) := by
  have hl := r.len
  refine ⟨⟨fun hn => ?_, ?_, r.ok.spot⟩, by simp; omega, fun i hi => ?_⟩
  · have := r.ok.nil hn
    exact ⟨show j = 0 by omega, this.2⟩
  · exact Nat.le_trans hj r.ok.le
  · have hi' : i < j := by simp at hi; omega
    rw [nthI_take hi']
    exact r.val i (by omega)
theorem Row64.drop {s : Sl} {cs : List Int} (r : Row64 h s cs) {j : Nat} (hj : j ≤ s.n) : Row64 h { s with o := if s.c = j then s.o else s.o + j * 1, n := s.n - j, c := s.c - j } (cs.drop j) := by
  have hl := r.len
  have hle := r.ok.le
  refine ⟨⟨fun hn => ?_, show s.n - j ≤ s.c - j by omega, r.ok.spot.imp_right fun h => show s.c - j = 0 by omega⟩, by simp; omega, fun i hi => ?_⟩
  · have := r.ok.nil hn
    exact ⟨show s.n - j = 0 by omega, show s.c - j = 0 by omega⟩
  · have hi' : j + i < cs.length := by simp at hi; omega
    rw [nthI_drop]
    have := r.val (j + i) hi'
    have hc : ¬ s.c = j := by omega
    simp only [hc, if_false, Nat.mul_one]
    rwa [Nat.add_assoc]

end
end Go.Rm

import Derived.Test.YtegflpgpkbffkaaRLaw6

/- The laws of graphs: GraphBack, GraphTypes. -/
set_option linter.unusedSimpArgs false
set_option linter.unusedVariables false
namespace Go.Rm

theorem setN_at {N : NetD} {a : Nat} {w : Int} (ha : a < N.as.length) (hw : weightB w = true) : setW N a w = wOK ∧ setN N a w = { N with as := N.as.set a ⟨(nthT N.as a).a, (nthT N.as a).b, w⟩ } := by
  have h1 : setW N a w = wOK := by
    unfold setW
    rw [if_neg (by simp [vtxB]; omega), if_neg (by simp [hw])]
  refine ⟨h1, ?_⟩
  unfold setN
  rw [h1, if_pos (show wOK.2 = 0 from rfl)]
  simp
theorem setN_back {N : NetD} {a : Nat} {c d : Int} (ha : a < N.as.length) (hc : weightB c = true) (hd : weightB d = true) (hw : weightB (nthT N.as a).c = true) :
    setN (setN (setN N a c) a d) a (nthT N.as a).c = N ∧ weightV (setN (setN N a c) a d) a = d ∧ setW N a c = wOK ∧ setW (setN N a c) a d = wOK ∧ setW (setN (setN N a c) a d) a (nthT N.as a).c = wOK := by
  obtain ⟨w1, e1⟩ := setN_at ha hc
  have l1 : a < (setN N a c).as.length := by rw [e1]; simpa using ha
  obtain ⟨w2, e2⟩ := setN_at l1 hd
  have n1 : nthT (setN N a c).as a = ⟨(nthT N.as a).a, (nthT N.as a).b, c⟩ := by rw [e1]; simp only; rw [nthT_set ha, if_pos rfl]
  have e2' : setN (setN N a c) a d = { N with as := N.as.set a ⟨(nthT N.as a).a, (nthT N.as a).b, d⟩ } := by
    rw [e2, n1, e1]
    simp
  have l2 : a < (setN (setN N a c) a d).as.length := by rw [e2']; simpa using ha
  obtain ⟨w3, e3⟩ := setN_at l2 hw
  have n2 : nthT (setN (setN N a c) a d).as a = ⟨(nthT N.as a).a, (nthT N.as a).b, d⟩ := by rw [e2']; simp only; rw [nthT_set ha, if_pos rfl]
  refine ⟨?_, ?_, w1, w2, w3⟩
  · rw [e3, n2, e2']
    simp only [List.set_set]
    have : N.as.set a ⟨(nthT N.as a).a, (nthT N.as a).b, (nthT N.as a).c⟩ = N.as := by
      rw [nthT_eq ha]
      exact List.set_getElem_self ha
    rw [this]
  · unfold weightV
    rw [if_pos (by simp [vtxB]; omega), Int.toNat_natCast, n2]

section
variable {Y : Sys} {h : Heap}

end
end Go.Rm

import Derived.Test.YtegflpgpkbffkaaRLaw3c

/- The laws of nets: NetParts, NetGrid. -/
set_option linter.unusedSimpArgs false
set_option linter.unusedVariables false
namespace Go.Rm

-- parts of a walk
theorem nthI_take {l : List Int} {k i : Nat} (hi : i < k) : nthI (l.take k) i = nthI l i := by
  simp only [nthI, List.getD_eq_getElem?_getD, List.getElem?_take, hi, if_true]
theorem nthI_drop {l : List Int} {k i : Nat} : nthI (l.drop k) i = nthI l (k + i) := by
  simp only [nthI, List.getD_eq_getElem?_getD, List.getElem?_drop]
theorem stepOk_take {N : NetD} {l : List Int} {k i : Nat} (hi : i < k) : stepOk N (l.take k) i = stepOk N l i := by
  unfold stepOk
  rw [nthI_take hi, nthI_take (by omega)]
theorem stepOk_drop {N : NetD} {l : List Int} {k i : Nat} : stepOk N (l.drop k) (i + 1) = stepOk N l (k + (i + 1)) := by
  unfold stepOk
  have e1 : decide (i + 1 = 0) = false := by simp
  have e2 : decide (k + (i + 1) = 0) = false := by simp
  rw [nthI_drop, nthI_drop, e1, e2, show k + (i + 1) - 1 = k + (i + 1 - 1) by omega]
theorem stepOk_first {N : NetD} {l : List Int} {k : Nat} (h : stepOk N l k = true) : stepOk N (l.drop k) 0 = true := by
  unfold stepOk at *
  simp only [Bool.and_eq_true] at h
  rw [nthI_drop, Nat.add_zero]
  simp [h.1.1, h.1.2]
theorem walk_parts {N : NetD} {l : List Int} {k : Nat} (hk : k < l.length) : walkB N l = (walkB N (l.take (k + 1)) && walkB N (l.drop k)) := by
  rw [Bool.eq_iff_iff, Bool.and_eq_true, walkB_iff, walkB_iff, walkB_iff]
  have hl : (l.take (k + 1)).length = k + 1 := by rw [List.length_take]; omega
  have hd : (l.drop k).length = l.length - k := List.length_drop ..
  constructor
  · rintro ⟨h1, h2⟩
    refine ⟨⟨fun e => by rw [e] at hl; simp at hl, fun i hi => ?_⟩, fun e => by rw [e] at hd; simp at hd; omega, fun i hi => ?_⟩
    · rw [stepOk_take (by omega)]; exact h2 i (by omega)
    · cases i with
      | zero => exact stepOk_first (h2 k hk)
      | succ i => rw [stepOk_drop]; exact h2 _ (by omega)
  · rintro ⟨⟨_, h1⟩, _, h2⟩
    refine ⟨fun e => by rw [e] at hk; simp at hk, fun i hi => ?_⟩
    rcases Nat.lt_or_ge i (k + 1) with q | q
    · have := h1 i (by omega)
      rwa [stepOk_take q] at this
    · have := h2 (i - k - 1 + 1) (by omega)
      rw [stepOk_drop] at this
      rwa [show k + (i - k - 1 + 1) = i by omega] at this
theorem costTo_take {N : NetD} {l : List Int} {k : Nat} : ∀ {i : Nat}, i ≤ k → costTo N (l.take k) i = costTo N l i := by
  intro i
  induction i with
  | zero => intro _; rfl
  | succ i ih =>
    intro hi
    rw [costTo, costTo]
    split
    · rfl
    · rw [ih (by omega), nthI_take (by omega), nthI_take (by omega)]
theorem costTo_drop {N : NetD} {l : List Int} {k : Nat} : ∀ {i : Nat}, costTo N l (k + 1 + i) = addI (costTo N l (k + 1)) (costTo N (l.drop k) (i + 1)) := by
  intro i
  induction i with
  | zero =>
    have : costTo N (l.drop k) (0 + 1) = 0 := by simp [costTo]
    rw [this]
    have h := costTo_range (N := N) (l := l) (i := k + 1)
    unfold addI
    rw [show held 0 = 0 from rfl, Int.add_zero, held_id held_range, held_id h]
  | succ i ih =>
    have e1 : costTo N l (k + 1 + (i + 1)) = addI (addI (costTo N l (k + 1 + i)) (turnV N (nthI l (k + i)) (nthI l (k + 1 + i)))) (arcC N (nthI l (k + 1 + i))) := by
      rw [show k + 1 + (i + 1) = (k + 1 + i) + 1 by omega, costTo, if_neg (by omega), show k + 1 + i - 1 = k + i by omega]
    have e2 : costTo N (l.drop k) (i + 1 + 1) = addI (addI (costTo N (l.drop k) (i + 1)) (turnV N (nthI l (k + i)) (nthI l (k + 1 + i)))) (arcC N (nthI l (k + 1 + i))) := by
      rw [costTo, if_neg (by omega), nthI_drop, nthI_drop, show i + 1 - 1 = i by omega, show k + (i + 1) = k + 1 + i by omega]
    rw [e1, e2, ih, addI_assoc, addI_assoc, addI_assoc]
theorem addI_inf {a : Int} : addI InfI a = InfI ∧ addI a InfI = InfI := by
  unfold addI
  have ha := held_range (a := a)
  have : held InfI = InfI := rfl
  rw [this]
  generalize held a = x at *
  unfold held InfI at *
  constructor
  all_goals
    repeat' split
    all_goals omega
theorem cost_parts {N : NetD} {l : List Int} {k : Nat} (hk : k < l.length) : costV N l = addI (costV N (l.take (k + 1))) (costV N (l.drop k)) := by
  have hl : (l.take (k + 1)).length = k + 1 := by rw [List.length_take]; omega
  have hd : (l.drop k).length = l.length - k := List.length_drop ..
  unfold costV
  rw [walk_parts hk, hl, hd]
  cases h1 : walkB N (l.take (k + 1)) with
  | false => simp [addI_inf]
  | true =>
    cases h2 : walkB N (l.drop k) with
    | false => simp [addI_inf]
    | true =>
      simp only [Bool.and_self, if_true]
      rw [costTo_take (Nat.le_refl _)]
      have := costTo_drop (N := N) (l := l) (k := k) (i := l.length - k - 1)
      rw [show k + 1 + (l.length - k - 1) = l.length by omega, show l.length - k - 1 + 1 = l.length - k by omega] at this
      exact this

section
variable {Y : Sys} {h : Heap}

theorem Row64.take {s : Sl} {cs : List Int} (r : Row64 h s cs) {j : Nat} (hj : j ≤ s.n) : Row64 h { s with n := j } (cs.take j) := by
  have hl := r.len
  refine ⟨⟨fun hn => ?_, ?_, r.ok.spot⟩, by simp; omega, fun i hi => ?_⟩
  · have := r.ok.nil hn
    exact ⟨show j = 0 by omega, this.2⟩
  · exact Nat.le_trans hj r.ok.le
  · have hi' : i < j := by simp at hi; omega
    rw [nthI_take hi']
    exact r.val i (by omega)
theorem Row64.drop {s : Sl} {cs : List Int} (r : Row64 h s cs) {j : Nat} (hj : j ≤ s.n) : Row64 h { s with o := if s.c = j then s.o else s.o + j * 1, n := s.n - j, c := s.c - j } (cs.drop j) := by
  have hl := r.len
  have hle := r.ok.le
  refine ⟨⟨fun hn => ?_, show s.n - j ≤ s.c - j by omega, r.ok.spot.imp_right fun h => show s.c - j = 0 by omega⟩, by simp; omega, fun i hi => ?_⟩
  · have := r.ok.nil hn
    exact ⟨show s.n - j = 0 by omega, show s.c - j = 0 by omega⟩
  · have hi' : j + i < cs.length := by simp at hi; omega
    rw [nthI_drop]
    have := r.val (j + i) hi'
    have hc : ¬ s.c = j := by omega
    simp only [hc, if_false, Nat.mul_one]
    rwa [Nat.add_assoc]

end
end Go.Rm

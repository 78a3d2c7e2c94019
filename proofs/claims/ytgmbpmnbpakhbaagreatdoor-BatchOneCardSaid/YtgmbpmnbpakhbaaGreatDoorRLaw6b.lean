import Derived.Test.YtgmbpmnbpakhbaaGreatDoorRLaw6

/- The laws of graphs: GraphBack, GraphTypes. -/
set_option linter.unusedSimpArgs false
set_option linter.unusedVariables false
namespace Go.Rm

theorem setN_at {N : NetD} {a : Nat} {w : Int} (ha : a < N.as.length) (hw : weightB w = true) : setW N a w = wOK ∧ setN N a w = { N with as := N.as.set a ⟨(nthT N.as a).a, (nthT N.as a).b, w⟩ } := by
  have h1 : setW N a w = wOK := by
    unfold setW
    rw [if_neg (by simp [vtxB]; omega), if_neg (by simp [hw])]
  refine ⟨h1, ?_⟩
  unfold setN
  rw [h1, if_pos (show wOK.2 = 0 from rfl)]
  simp
/-- places of a table -/
theorem tab_place {t : Tab} (h : (tabWr t).2 = 0) {p : Nat} (hp : p < t.cs.length) :
    ∃ i o A B : Nat, t.i = i ∧ t.o = o ∧ 0 < o ∧ A < i ∧ B < o ∧ A * o + B = p ∧ (p : Int).tdiv t.o = A ∧ (p : Int).tmod t.o = B ∧ A ≤ p ∧ ∀ a b : Nat, b < o → a * o + b = p → a = A ∧ b = B := by
  obtain ⟨a1, a2, a3, a4, a5, _, _⟩ := tab_ok (ins := t.i) (outs := t.o) (cs := t.cs) h
  obtain ⟨i, hi⟩ : ∃ i : Nat, t.i = i := ⟨t.i.toNat, by omega⟩
  obtain ⟨o, ho⟩ : ∃ o : Nat, t.o = o := ⟨t.o.toNat, by omega⟩
  have hl : t.cs.length = i * o := by
    rw [hi, ho] at a5
    exact_mod_cast a5
  have ho0 : 0 < o := by
    rcases Nat.eq_zero_or_pos o with q | q
    · rw [q, Nat.mul_zero] at hl; omega
    · exact q
  refine ⟨i, o, p / o, p % o, hi, ho, ho0, ?_, Nat.mod_lt _ ho0, ?_, ?_, ?_, Nat.div_le_self .., ?_⟩
  · rw [Nat.div_lt_iff_lt_mul ho0]
    rw [hl] at hp
    exact hp
  · rw [Nat.mul_comm]; exact Nat.div_add_mod p o
  · rw [ho]; exact (Int.ofNat_tdiv p o).symm
  · rw [ho]; exact (Int.ofNat_tmod p o).symm
  · intro a b hb he
    subst he
    have h1 : (a * o + b) / o = a := by
      rw [Nat.mul_comm, Nat.mul_add_div ho0, Nat.div_eq_of_lt hb, Nat.add_zero]
    have h2 : (a * o + b) % o = b := by
      rw [Nat.mul_comm, Nat.mul_add_mod, Nat.mod_eq_of_lt hb]
    exact ⟨h1.symm, h2.symm⟩
theorem bendN_at {N : NetD} (ok : NetOK N) {t p i o A B : Nat} {c : Int} (ht : t < N.ts.length) (hi : (nthB N.ts t).i = i) (ho : (nthB N.ts t).o = o) (h1 : A < i) (h2 : B < o) (h3 : A * o + B = p) (hc : weightB c = true) :
    bendW N t A B c = wOK ∧ bendN N t A B c = { N with ts := N.ts.set t ⟨(nthB N.ts t).i, (nthB N.ts t).o, (nthB N.ts t).cs.set p c⟩ } := by
  have hT := tabWr_ok (ok.tab t ht)
  have hw : withW (nthB N.ts t).i (nthB N.ts t).o (nthB N.ts t).cs A B c = wOK := by
    unfold withW
    rw [if_neg (by rw [hi]; omega), if_neg (by rw [ho]; omega), if_neg (by simp [hc])]
    exact hT
  have hb : bendW N t A B c = wOK := by
    unfold bendW
    rw [if_neg (by simp [vtxB]; omega)]
    simp only [Int.toNat_natCast]
    rw [hw]
    rfl
  refine ⟨hb, ?_⟩
  unfold bendN
  rw [hb, if_pos (show wOK.2 = 0 from rfl)]
  simp only [Int.toNat_natCast, bendT]
  have : ((A : Int) * (nthB N.ts t).o + (B : Int)).toNat = p := by
    rw [ho]
    have : ((A : Int) * (o : Int) + (B : Int)) = ((A * o + B : Nat) : Int) := by simp
    rw [this, h3]
    simp
  rw [this]
section
variable {Y : Sys} {h : Heap}

end
end Go.Rm

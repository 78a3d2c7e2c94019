import Derived.Test.YtgmbpmnbpakhbaaGreatDoorRGraph4

/- The document's Set and Bend; nets with the memory that they stand in. -/
set_option linter.unusedSimpArgs false
set_option linter.unusedVariables false
namespace Go.Rm

/-- a net that stands in the blocks of Fb -/
def NetF (Fb : Nat → Prop) (h : Heap) (s1 s2 s3 : Sl) (N : NetD) : Prop := (∀ (h' : Heap) (S' : Nat → Prop), Mod S' h h' → (∀ b, Fb b → ¬ S' b) → NetH h' s1 s2 s3 N) ∧ ∀ b, Fb b → b < h.size

section
variable {Y : Sys} {h h' : Heap} {Fb : Nat → Prop} {s1 s2 s3 : Sl} {N : NetD}

theorem NetF.here (f : NetF Fb h s1 s2 s3 N) : NetH h s1 s2 s3 N := f.1 h (fun _ => False) (Mod.refl h) (fun _ _ h => h)
theorem NetF.mod {S' : Nat → Prop} (f : NetF Fb h s1 s2 s3 N) (m : Mod S' h h') (hd : ∀ b, Fb b → ¬ S' b) : NetF Fb h' s1 s2 s3 N :=
  ⟨fun h'' S'' m'' hd'' => f.1 h'' (fun b => S' b ∨ S'' b) ((m.mono fun _ _ h => .inl h).trans (m''.mono fun _ _ h => .inr h)) (fun b hb h => h.elim (hd b hb) (hd'' b hb)), fun b hb => Nat.lt_of_lt_of_le (f.2 b hb) m.size⟩
theorem NetF.ext (f : NetF Fb h s1 s2 s3 N) (m : Ext h h') : NetF Fb h' s1 s2 s3 N := f.mod m (fun _ _ h => h)
theorem setN_ok (ok : NetOK N) {a w : Int} : NetOK (setN N a w) := by
  unfold setN
  split
  · rename_i h0
    have hc : vtxB N.as.length a = true ∧ weightB w = true := by
      unfold setW at h0
      cases c1 : vtxB N.as.length a <;> cases c2 : weightB w <;> simp_all [atW, wOK]
    have ha : a.toNat < N.as.length := by
      have := hc.1
      simp only [vtxB, decide_eq_true_eq] at this
      omega
    have hN : ∀ v, insN (N.as.set a.toNat ⟨(nthT N.as a.toNat).a, (nthT N.as a.toNat).b, w⟩) v = insN N.as v ∧ outsN (N.as.set a.toNat ⟨(nthT N.as a.toNat).a, (nthT N.as a.toNat).b, w⟩) v = outsN N.as v := by
      intro v
      have h1 := congrArg List.length (ioO_set (x := false) (v := v) (w := w) ha)
      have h2 := congrArg List.length (ioO_set (x := true) (v := v) (w := w) ha)
      simp only [ioO, if_true, Bool.false_eq_true, if_false, insO_lenN, outsO_lenN] at h1 h2
      exact ⟨h1, h2⟩
    exact { bv := ok.bv
            ba := by simpa using ok.ba
            bt := ok.bt
            tab := ok.tab
            vx := ok.vx
            vt := ok.vt
            arcs := fun i hi => by
              have hi : i < N.as.length := by simpa using hi
              simp only [(nthT_set_ab ha).1, (nthT_set_ab ha).2]
              exact ok.arcs i hi
            w := fun i hi => by
              have hi : i < N.as.length := by simpa using hi
              simp only [nthT_set ha]
              split
              · exact hc.2
              · exact ok.w i hi
            meet := fun i hi => by
              simp only [(hN i).1, (hN i).2]
              exact ok.meet i hi }
  · exact ok

theorem badFrom_set {cs : List Int} {j : Nat} {c : Int} (h : badFrom 0 cs = none) (hc : weightB c = true) : badFrom 0 (cs.set j c) = none := by
  have key : ∀ (cs : List Int) (k j : Nat), badFrom k cs = none → badFrom k (cs.set j c) = none := by
    intro cs
    induction cs with
    | nil => intro k j h; exact h
    | cons x r ih =>
      intro k j h
      rw [badFrom] at h
      split at h
      · rename_i hx
        cases j with
        | zero => rw [List.set_cons_zero, badFrom, if_pos hc]; exact h
        | succ j => rw [List.set_cons_succ, badFrom, if_pos hx]; exact ih _ _ h
      · cases h
  exact key cs 0 j h
theorem bendT_ok {t : Tab} {i k c : Int} (h : (withW t.i t.o t.cs i k c).2 = 0) : (tabWr (bendT t i k c)).2 = 0 := by
  unfold withW at h
  split at h
  · simp [turnW] at h
  split at h
  · simp [turnW] at h
  split at h
  · simp [turnW] at h
  rename_i hc
  have hc : weightB c = true := by simpa using hc
  obtain ⟨a1, a2, a3, a4, a5, a6, a7⟩ := tab_ok h
  have hs : sidesW t.i t.o = wOK := by
    unfold sidesW
    rw [if_neg (by omega), if_neg (by omega)]
  show (tabW t.i t.o (t.cs.set (i * t.o + k).toNat c)).2 = 0
  unfold tabW
  rw [hs, if_neg (by simp [wOK]), if_neg (by simp [a5]), badFrom_set a6 hc]
  rfl
theorem bendN_ok (ok : NetOK N) {t i k c : Int} : NetOK (bendN N t i k c) := by
  unfold bendN
  split
  · rename_i h0
    have h1 : vtxB N.ts.length t = true := by
      unfold bendW at h0
      cases c1 : vtxB N.ts.length t
      · simp [c1, atW] at h0
      · rfl
    have h2 : (withW (nthB N.ts t.toNat).i (nthB N.ts t.toNat).o (nthB N.ts t.toNat).cs i k c).2 = 0 := by
      unfold bendW at h0
      rw [if_neg (by simp [h1])] at h0
      unfold withinW at h0
      split at h0
      · assumption
      · exact h0
    have ht : t.toNat < N.ts.length := by
      simp only [vtxB, decide_eq_true_eq] at h1
      omega
    exact { bv := ok.bv
            ba := ok.ba
            bt := by simpa using ok.bt
            tab := fun j hj => by
              have hj : j < N.ts.length := by simpa using hj
              simp only [nthB_set ht]
              split
              · exact bendT_ok h2
              · exact ok.tab j hj
            vx := ok.vx
            vt := fun j hj => by simpa using ok.vt j hj
            arcs := ok.arcs
            w := ok.w
            meet := fun j hj => by
              simp only [nthB_set ht]
              have := ok.meet j hj
              split
              · rename_i e
                rw [e] at this
                exact this
              · exact this }
  · exact ok

end
end Go.Rm

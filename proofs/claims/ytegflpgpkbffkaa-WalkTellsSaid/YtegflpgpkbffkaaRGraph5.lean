import Derived.Test.YtegflpgpkbffkaaRGraph4

/- The document's Set and Bend; nets with the memory that they stand in. -/
set_option linter.unusedSimpArgs false
set_option linter.unusedVariables false
namespace Go.Rm

/-- a net that stands in the blocks of Fb -/
def NetF (Fb : Nat → Prop) (h : Heap) (s1 s2 s3 : Sl) (N : NetD) : Prop := (∀ (h' : Heap) (S' : Nat → Prop), Mod S' h h' → (∀ b, Fb b → ¬ S' b) → NetH h' s1 s2 s3 N) ∧ ∀ b, Fb b → b < h.size

section
variable {Y : Sys} {h h' : Heap} {Fb : Nat → Prop} {s1 s2 s3 : Sl} {N : NetD}

theorem NetF.here (f : NetF Fb h s1 s2 s3 N) : NetH h s1 s2 s3 N := f.1 h (fun _ => False) (Mod.refl h) (fun _ _ h => h)
theorem NetF.mod {S' : Nat → Prop} (f : NetF Fb h s1 s2 s3 N) (m : Mod S' h h') (hd : ∀ b, Fb b → ¬ S' b) : NetF Fb h' s1 s2 s3 N :=
  ⟨fun h'' S'' m'' hd'' => f.1 h'' (fun b => S' b ∨ S'' b) ((m.mono fun _ _ h => .inl h).trans (m''.mono fun _ _ h => .inr h)) (fun b hb h => h.elim (hd b hb) (hd'' b hb)), fun b hb => Nat.lt_of_lt_of_le (f.2 b hb) m.size⟩
theorem NetF.ext (f : NetF Fb h s1 s2 s3 N) (m : Ext h h') : NetF Fb h' s1 s2 s3 N := f.mod m (fun _ _ h => h)
theorem setN_ok (ok : NetOK N) {a w : Int} : NetOK (setN N a w) := by
  unfold setN
  split
  · rename_i h0
    have hc : vtxB N.as.length a = true ∧ weightB w = true := by
      unfold setW at h0
      cases c1 : vtxB N.as.length a <;> cases c2 : weightB w <;> simp_all [atW, wOK]
    have ha : a.toNat < N.as.length := by
      have := hc.1
      simp only [vtxB, decide_eq_true_eq] at this
      omega
    have hN : ∀ v, insN (N.as.set a.toNat ⟨(nthT N.as a.toNat).a, (nthT N.as a.toNat).b, w⟩) v = insN N.as v ∧ outsN (N.as.set a.toNat ⟨(nthT N.as a.toNat).a, (nthT N.as a.toNat).b, w⟩) v = outsN N.as v := by
      intro v
      have h1 := congrArg List.length (ioO_set (x := false) (v := v) (w := w) ha)
      have h2 := congrArg List.length (ioO_set (x := true) (v := v) (w := w) ha)
      simp only [ioO, if_true, Bool.false_eq_true, if_false, insO_lenN, outsO_lenN] at h1 h2
      exact ⟨h1, h2⟩
    exact { bv := ok.bv
            ba := by simpa using ok.ba
            bt := ok.bt
            tab := ok.tab
            vx := ok.vx
            vt := ok.vt
            arcs := fun i hi => by
              have hi : i < N.as.length := by simpa using hi
              simp only [(nthT_set_ab ha).1, (nthT_set_ab ha).2]
              exact ok.arcs i hi
            w := fun i hi => by
              have hi : i < N.as.length := by simpa using hi
              simp only [nthT_set ha]
              split
              · exact hc.2
              · exact ok.w i hi
            meet := fun i hi => by
              simp only [(hN i).1, (hN i).2]
              exact ok.meet i hi }
  · exact ok

end
end Go.Rm

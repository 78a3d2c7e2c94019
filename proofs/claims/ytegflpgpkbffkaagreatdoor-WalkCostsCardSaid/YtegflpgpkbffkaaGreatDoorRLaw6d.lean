import Derived.Test.YtegflpgpkbffkaaGreatDoorRLaw6c

/- The laws of graphs: GraphTwins. -/
set_option linter.unusedSimpArgs false
set_option linter.unusedVariables false
namespace Go.Rm

section
variable {Y : Sys} {h : Heap}

/-- a graph that is changed, and the document's net beside it, which stands in box M -/
structure PlayS (h0 h' : Heap) (M p : Nat) (N : NetD) (S0 F0 : Nat → Prop) (s1 s2 s3 : Sl) (Fb S : Nat → Prop) : Prop where
  box : Blk h' M #[s1.v, s2.v, s3.v]
  g : GraphA h' p N S
  f : NetF Fb h' s1 s2 s3 N
  d : ∀ b, Fb b → ¬ S b
  inS : ∀ b, S b → S0 b ∨ h0.size ≤ b
  inF : ∀ b, Fb b → F0 b ∨ h0.size ≤ b
  m : Mod (fun j => j = M ∨ S0 j ∨ h0.size ≤ j) h0 h'
/-- a turn of the loop, behind Do -/
theorem PlayS.step {h0 h' h1 h2 h3 : Heap} {M p : Nat} {N N' : NetD} {S0 F0 : Nat → Prop} {s1 s2 s3 t1 t2 t3 : Sl} {Fb S F' S' : Nat → Prop} (P : PlayS h0 h' M p N S0 F0 s1 s2 s3 Fb S)
    (e1 : Ext h' h1) (hM : M < h0.size) (hMS : ¬ S0 M) (hMF : ¬ F0 M) (g : GraphA h2 p N' S') (f : NetF F' h2 t1 t2 t3 N') (hS : ∀ b, S' b → S b ∨ h1.size ≤ b) (hF : ∀ b, F' b → Fb b ∨ h1.size ≤ b) (hd : ∀ b, F' b → ¬ S' b) (m : Mod S h1 h2)
    (C : Nat) (hC : h'.size ≤ C) (hCn : C < h1.size ∨ h2.size ≤ C) (m2 : Mod (fun j => j = C) h2 h3) {h4 h5 : Heap} (e4 : Ext h3 h4) (m5 : Mod (fun j => j = M) h4 h5) (b5 : Blk h5 M #[t1.v, t2.v, t3.v]) :
    PlayS h0 h5 M p N' S0 F0 t1 t2 t3 F' S' := by
  have z1 := e1.size
  have z0 := P.m.size
  have z2 := m.size
  have lS := P.g.lt
  have lF := P.f.2
  have lS' := g.lt
  have lF' := f.2
  have hS' : ∀ b, S' b → S0 b ∨ h0.size ≤ b := fun b hb => by
    rcases hS b hb with q | q
    · exact P.inS b q
    · exact .inr (by omega)
  have hF' : ∀ b, F' b → F0 b ∨ h0.size ≤ b := fun b hb => by
    rcases hF b hb with q | q
    · exact P.inF b q
    · exact .inr (by omega)
  have nMS : ∀ b, S' b → b ≠ M := fun b hb e => by
    subst e
    rcases hS' b hb with q | q
    · exact hMS q
    · omega
  have nMF : ∀ b, F' b → b ≠ M := fun b hb e => by
    subst e
    rcases hF' b hb with q | q
    · exact hMF q
    · omega
  have nCS : ∀ b, S' b → b ≠ C := fun b hb e => by
    subst e
    rcases hCn with hCn | hCn
    · rcases hS b hb with q | q
      · have := lS b q; omega
      · omega
    · have := lS' b hb; omega
  have nCF : ∀ b, F' b → b ≠ C := fun b hb e => by
    subst e
    rcases hCn with hCn | hCn
    · rcases hF b hb with q | q
      · have := lF b q; omega
      · omega
    · have := lF' b hb; omega
  refine ⟨b5, ((g.mod m2 (fun b hb => nCS b hb)).ext e4).mod m5 (fun b hb => nMS b hb), ((f.mod m2 (fun b hb => nCF b hb)).ext e4).mod m5 (fun b hb => nMF b hb), hd, hS', hF', ?_⟩
  refine ((((P.m.trans (e1.mono fun _ _ h => h.elim)).trans (m.mono fun b _ hb => .inr (P.inS b hb))).trans (m2.mono fun j _ hj => .inr (.inr (by omega)))).trans (e4.mono fun _ _ h => h.elim)).trans (m5.mono fun _ _ h => .inl h)

end
end Go.Rm

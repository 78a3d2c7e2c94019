import Derived.Test.YtegflpgpkbffkaaGreatDoorRGraph6

/- The laws of graphs: Do, known. -/
set_option linter.unusedSimpArgs false
set_option linter.unusedVariables false
namespace Go.Rm

/-- a change -/
structure Act5 where
  kd : Int
  a : Int
  i : Int
  o : Int
  w : Int
def actV (t : Act5) : Value := .agg #[.int .i64 t.kd, .int .i64 t.a, .int .i64 t.i, .int .i64 t.o, .int .i64 t.w]
def doN (N : NetD) (t : Act5) : NetD := if t.kd = 0 then setN N t.a t.w else bendN N t.a t.i t.o t.w
theorem doN_ok {N : NetD} (ok : NetOK N) {t : Act5} : NetOK (doN N t) := by
  unfold doN
  split
  · exact setN_ok ok
  · exact bendN_ok ok
theorem bendW_len {N : NetD} {t i k c : Int} : (bendW N t i k c).1.length ≤ 4 ∧ ((bendW N t i k c).2 ≠ 0 → 0 < (bendW N t i k c).1.length) := by
  unfold bendW
  split
  · simp [atW]
  · have h1 := (tabWr_len (t := nthB N.ts t.toNat)).1
    have h2 : (withW (nthB N.ts t.toNat).i (nthB N.ts t.toNat).o (nthB N.ts t.toNat).cs i k c).1.length ≤ 1 := by
      unfold withW
      repeat' split
      all_goals first | (simp [turnW]; done) | exact h1
    unfold withinW
    split
    · simp [wOK]
    · simp; omega
theorem setW_len {N : NetD} {a w : Int} : (setW N a w).1.length ≤ 4 ∧ ((setW N a w).2 ≠ 0 → 0 < (setW N a w).1.length) := by
  unfold setW
  repeat' split
  all_goals simp [atW, wOK]

structure GrDo (Y : Sys) : Prop where
  Do : Y.Has F.rlaw6_Do S_rlaw6_Do
  GB : GrBend Y
  GS : GrSet Y
  RS : RefSet Y
  RT : RefTabC Y
  T : TurnFns Y
  Tells : Y.Has F.rlaw1_Tells S_rlaw1_Tells
section
variable {Y : Sys} {h h' : Heap}

/-- what Do hands back -/
def DoR (Fb S : Nat → Prop) (p : Nat) (h h' : Heap) (N : NetD) (v : Value) : Prop :=
  ∃ (s1 s2 s3 : Sl) (F' S' : Nat → Prop), v = .tuple #[netV s1 s2 s3, .bool true] ∧ GraphA h' p N S' ∧ NetF F' h' s1 s2 s3 N ∧ (∀ b, S' b → S b ∨ h.size ≤ b) ∧ (∀ b, F' b → Fb b ∨ h.size ≤ b) ∧ (∀ b, F' b → ¬ S' b) ∧ Mod S h h'

theorem do6_spec (G : GrDo Y) (E : ErrSys Y) (hg : hc h E.gb 0 = some E.hv) {p : Nat} {Fb S : Nat → Prop} (hgS : ¬ S E.gb) {N : NetD} {sv sa st : Sl} (g : GraphA h p N S) (f : NetF Fb h sv sa st N) (hd : ∀ b, Fb b → ¬ S b) (ok : NetOK N) {t : Act5} {R : Value → Heap → Prop}
    (hr : ∀ h' v, DoR Fb S p h h' (doN N t) v → R v h') : CallP Y F.rlaw6_Do [.pointer (some ⟨p, 0, none⟩), netV sv sa st, actV t] h R := by
  refine .of_has G.Do rfl ?_
  simp [S_rlaw6_Do, FnS.wp, netV, actV]
  refine ef_new_box ?_
  intro B hB gB bB eB
  have cB : ∀ g, Ext g h → Ext g hB := fun g e => Mod.trans e eB
  simp
  refine ef_new_box ?_
  intro A hA gA bA eA
  have cA : ∀ g, Ext g hB → Ext g hA := fun g e => Mod.trans e eA
  simp
  refine ef_new_box ?_
  intro U hU gU bU eU
  have cU : ∀ g, Ext g hA → Ext g hU := fun g e => Mod.trans e eU
  have zB := eB.size
  have zA := eA.size
  have zU := eU.size
  have lB := bB.lt
  have lA := bA.lt
  have lU := bU.lt
  have x0 := (eB.trans eA).trans eU
  have lS := g.lt
  have lF := f.2
  by_cases c0 : t.kd = 0
  · have c0' : (t.kd = 0) = True := by simp [c0]
    have hn : doN N t = setN N t.a t.w := by simp [doN, c0]
    simp (config := { maxDischargeDepth := 60 }) [cB, bB.sk, bB.rk, cA, bA.sk, bA.rk, cU, bU.sk, bU.rk, c0']
    refine rset_spec G.RS G.RT (f.ext x0) ok.small ?_
    intro h1 v e1 hv
    obtain ⟨s1, s2, s3, F', ws, rfl, f1, hF, hw⟩ := hv
    obtain ⟨ps, hps⟩ := hw.here.shape
    injection hps with hps
    subst hps
    have c_h1 : ∀ g, Ext g hU → Ext g h1 := fun g e => Mod.trans e e1
    simp [netV]
    refine ef_new_box ?_
    intro C hC gC bC eC
    have cC : ∀ g, Ext g h1 → Ext g hC := fun g e => Mod.trans e eC
    simp
    refine ef_new_box ?_
    intro D hD gD bD eD
    have cD : ∀ g, Ext g hC → Ext g hD := fun g e => Mod.trans e eD
    have z1 := e1.size
    have zC := eC.size
    have zD := eD.size
    have lC := bC.lt
    have lD := bD.lt
    simp
    refine ef_store_box (bC.ext eD) rfl rfl (by simp) ?_
    intro h2 bC2 m2
    simp
    refine ef_store_box (m2.blk bD (by omega)) rfl rfl (by simp) ?_
    intro h3 bD3 m3
    have bC3 := m3.blk bC2 (by omega)
    have mm : Mod (fun j => j = C ∨ j = D) hD h3 := (m2.mono fun _ _ h => .inl h).trans (m3.mono fun _ _ h => .inr h)
    have y13 : Ext h1 h3 := Mod.ext (eC.trans eD) mm (fun j hj => by omega)
    have yU3 := e1.trans y13
    have x3 := x0.trans yU3
    have z3 := x3.size
    have f3 := f1.ext y13
    have hw3 := hw.ext y13
    have bA3 := (bA.ext eU).ext yU3
    simp [rd_blk bC3, rd_blk bD3, bA3.hc]
    refine gset_spec G.GS (g.ext x3) ?_
    intro v h4 m4 g4 hv4
    have z4 := m4.size
    have bC4 := m4.blk bC3 (fun hs => by have := lS _ hs; omega)
    have bD4 := m4.blk bD3 (fun hs => by have := lS _ hs; omega)
    have hw4 := hw3.step m4 (fun j hs => by have := lS _ hs; omega)
    simp [rd_blk bC4, rd_blk bD4]
    refine tells_spec (ps := (setW N t.a t.w).1) (c := (setW N t.a t.w).2) G.Tells E (m4.hc (x3.hc hg (fun h => h)) hgS) hw4.here hv4.here setW_len.2 setW_len.1 ?_
    intro h5 e5
    have bU5 := (m4.blk (bU.ext yU3) (fun hs => by have := lS _ hs; omega)).ext e5
    simp [rd_blk (bC4.ext e5)]
    refine ef_store_box bU5 rfl rfl (by simp) ?_
    intro h6 b6 m6
    simp
    refine resP_xn rfl b6 rfl ?_
    have gS := g.lt
    have hF' : ∀ b, F' b → b ≠ U := fun b hb e => by
      rcases hF b hb with q | q
      · have := lF b q; omega
      · omega
    have dis : ∀ b, F' b → ¬ S b := fun b hb hs => by
      rcases hF b hb with q | q
      · exact hd b q hs
      · have := lS b hs; omega
    refine hr h6 _ ⟨s1, s2, s3, F', S, rfl, ?_, ?_, fun b hb => .inl hb, fun b hb => (hF b hb).imp_right fun q => by omega, dis, ?_⟩
    · rw [hn]
      exact (g4.ext e5).mod m6 (fun b hs hj => by have := lS b hs; omega)
    · rw [hn]
      exact ((f3.mod m4 dis).ext e5).mod m6 (fun b hb => hF' b hb)
    · refine (((x3.mono fun _ _ h => h.elim).trans m4).trans (e5.mono fun _ _ h => h.elim)).then m6 (fun j hj hb => ?_)
      omega
  · have hn : doN N t = bendN N t.a t.i t.o t.w := by simp [doN, c0]
    simp (config := { maxDischargeDepth := 60 }) [cB, bB.sk, bB.rk, cA, bA.sk, bA.rk, cU, bU.sk, bU.rk, c0]
    refine rbend_spec G.RS G.RT (f.ext x0) ok ?_
    intro h1 v e1 hv
    obtain ⟨s1, s2, s3, F', ws, rfl, f1, hF, hw⟩ := hv
    obtain ⟨ps, hps⟩ := hw.here.shape
    injection hps with hps
    subst hps
    have c_h1 : ∀ g, Ext g hU → Ext g h1 := fun g e => Mod.trans e e1
    simp [netV]
    refine ef_new_box ?_
    intro C hC gC bC eC
    have cC : ∀ g, Ext g h1 → Ext g hC := fun g e => Mod.trans e eC
    simp
    refine ef_new_box ?_
    intro D hD gD bD eD
    have cD : ∀ g, Ext g hC → Ext g hD := fun g e => Mod.trans e eD
    have z1 := e1.size
    have zC := eC.size
    have zD := eD.size
    have lC := bC.lt
    have lD := bD.lt
    simp
    refine ef_store_box (bC.ext eD) rfl rfl (by simp) ?_
    intro h2 bC2 m2
    simp
    refine ef_store_box (m2.blk bD (by omega)) rfl rfl (by simp) ?_
    intro h3 bD3 m3
    have bC3 := m3.blk bC2 (by omega)
    have mm : Mod (fun j => j = C ∨ j = D) hD h3 := (m2.mono fun _ _ h => .inl h).trans (m3.mono fun _ _ h => .inr h)
    have y13 : Ext h1 h3 := Mod.ext (eC.trans eD) mm (fun j hj => by omega)
    have yU3 := e1.trans y13
    have x3 := x0.trans yU3
    have z3 := x3.size
    have f3 := f1.ext y13
    have hw3 := hw.ext y13
    have bA3 := (bA.ext eU).ext yU3
    simp [rd_blk bC3, rd_blk bD3, bA3.hc]
    refine gbend_spec G.GB G.T (g.ext x3) ?_
    intro v h4 S' m4 hS' hS'' g4 hv4
    have z4 := m4.size
    have zz3 := y13.size
    have bC4 := m4.blk bC3 (fun hs => by have := lS _ hs; omega)
    have bD4 := m4.blk bD3 (fun hs => by have := lS _ hs; omega)
    have hw4 := hw3.step m4 (fun j hs => by have := lS _ hs; omega)
    simp [rd_blk bC4, rd_blk bD4]
    refine tells_spec (ps := (bendW N t.a t.i t.o t.w).1) (c := (bendW N t.a t.i t.o t.w).2) G.Tells E (m4.hc (x3.hc hg (fun h => h)) hgS) hw4.here hv4.here bendW_len.2 bendW_len.1 ?_
    intro h5 e5
    have bU5 := (m4.blk (bU.ext yU3) (fun hs => by have := lS _ hs; omega)).ext e5
    simp [rd_blk (bC4.ext e5)]
    refine ef_store_box bU5 rfl rfl (by simp) ?_
    intro h6 b6 m6
    simp
    refine resP_xn rfl b6 rfl ?_
    have hF' : ∀ b, F' b → b ≠ U := fun b hb e => by
      rcases hF b hb with q | q
      · have := lF b q; omega
      · omega
    have dis : ∀ b, F' b → ¬ S b := fun b hb hs => by
      rcases hF b hb with q | q
      · exact hd b q hs
      · have := lS b hs; omega
    have lt3 : ∀ b, F' b → b < h3.size := fun b hb => f3.2 b hb
    have dis' : ∀ b, F' b → ¬ S' b := fun b hb hs => by
      rcases hS' b hs with q | q
      · exact dis b hb q
      · have := lt3 b hb; omega
    refine hr h6 _ ⟨s1, s2, s3, F', S', rfl, ?_, ?_, fun b hb => (hS' b hb).imp_right fun q => by omega, fun b hb => (hF b hb).imp_right fun q => by omega, dis', ?_⟩
    · rw [hn]
      exact (g4.ext e5).mod m6 (fun b hs hj => by
        rcases hS' b hs with q | q
        · have := lS b q; omega
        · omega)
    · rw [hn]
      exact ((f3.mod m4 dis).ext e5).mod m6 (fun b hb => hF' b hb)
    · refine (((x3.mono fun _ _ h => h.elim).trans m4).trans (e5.mono fun _ _ h => h.elim)).then m6 (fun j hj hb => ?_)
      omega

end
end Go.Rm

import Derived.Test.YtgmbpmnbpakhbaaGreatDoorEngU
import Derived.Test.YtgmbpmnbpakhbaaGreatDoorRGraph5
import Derived.Test.YtgmbpmnbpakhbaaGreatDoorRNet16
import Derived.Test.YtgmbpmnbpakhbaaGreatDoorSNums

/- The laws of graphs: Of, Ring, Same, Do. -/
set_option linter.unusedSimpArgs false
set_option linter.unusedVariables false
namespace Go.Rm

section
variable {Y : Sys} {h h' : Heap}

set_option maxHeartbeats 1000000 in
theorem ring6_spec (HR : Y.Has F.rlaw6_Ring S_rlaw6_Ring) {R : Value → Heap → Prop} (hr : ∀ h' s1 s2 s3, Ext h h' → NetH h' s1 s2 s3 ringN → Own h' 3 s1 (cells3 (ringN.vs.map triV)) → h.size ≤ s1.b → s2.b ≠ s1.b → (∀ h'', Mod (fun j => j = s1.b) h' h'' → RowT h'' s3 ringN.ts) → R (netV s1 s2 s3) h') :
    CallP Y F.rlaw6_Ring [] h R := by
  refine .of_has HR rfl ?_
  simp [S_rlaw6_Ring, FnS.wp]
  refine ef_new_box ?_
  intro A hA gA bA eA
  have cA : ∀ g, Ext g h → Ext g hA := fun g e => Mod.trans e eA
  simp
  refine ef_bslice_all rfl rfl rfl ?_ (by omega)
  intro T1 hT1 gT1 bT1 eT1 oT1
  have cT1 : ∀ g, Ext g hA → Ext g hT1 := fun g e => Mod.trans e eT1
  simp at oT1
  simp
  refine new_store (vs := #[.int .i64 1, .int .i64 1, .slice (some ⟨T1, 0, none⟩) 1 1]) rfl rfl (by simp) ?_
  intro B1 hB1p gB1 bB1p eB1p stB1
  have cB1p : ∀ g, Ext g hT1 → Ext g hB1p := fun g e => Mod.trans e eB1p
  simp (config := { maxDischargeDepth := 60 }) [cA, bA.sk, bA.rk, cT1, cB1p]
  refine stB1 _ ?_
  intro hB1 bB1 eB1
  clear cB1p stB1 bB1p eB1p
  have cB1 : ∀ g, Ext g hT1 → Ext g hB1 := fun g e => Mod.trans e eB1
  simp
  refine ef_bslice_all rfl rfl rfl ?_ (by omega)
  intro T2 hT2 gT2 bT2 eT2 oT2
  have cT2 : ∀ g, Ext g hB1 → Ext g hT2 := fun g e => Mod.trans e eT2
  simp at oT2
  simp
  refine new_store (vs := #[.int .i64 2, .int .i64 1, .slice (some ⟨T2, 0, none⟩) 2 2]) rfl rfl (by simp) ?_
  intro B2 hB2p gB2 bB2p eB2p stB2
  have cB2p : ∀ g, Ext g hT2 → Ext g hB2p := fun g e => Mod.trans e eB2p
  simp (config := { maxDischargeDepth := 60 }) [cA, bA.sk, bA.rk, cT1, cB1, bB1.sk, bB1.rk, cT2, cB2p]
  refine stB2 _ ?_
  intro hB2 bB2 eB2
  clear cB2p stB2 bB2p eB2p
  have cB2 : ∀ g, Ext g hT2 → Ext g hB2 := fun g e => Mod.trans e eB2
  simp
  refine ef_bslice_all rfl rfl rfl ?_ (by omega)
  intro T3 hT3 gT3 bT3 eT3 oT3
  have cT3 : ∀ g, Ext g hB2 → Ext g hT3 := fun g e => Mod.trans e eT3
  simp at oT3
  simp
  refine new_store (vs := #[.int .i64 1, .int .i64 2, .slice (some ⟨T3, 0, none⟩) 2 2]) rfl rfl (by simp) ?_
  intro B3 hB3p gB3 bB3p eB3p stB3
  have cB3p : ∀ g, Ext g hT3 → Ext g hB3p := fun g e => Mod.trans e eB3p
  simp (config := { maxDischargeDepth := 60 }) [cA, bA.sk, bA.rk, cT1, cB1, bB1.sk, bB1.rk, cT2, cB2, bB2.sk, bB2.rk, cT3, cB3p]
  refine stB3 _ ?_
  intro hB3 bB3 eB3
  clear cB3p stB3 bB3p eB3p
  have cB3 : ∀ g, Ext g hT3 → Ext g hB3 := fun g e => Mod.trans e eB3
  simp [sem_build_ints3]
  refine ef_bslice_all rfl rfl rfl ?_ (by omega)
  intro V hV gV bV eV oV
  have cV : ∀ g, Ext g hB3 → Ext g hV := fun g e => Mod.trans e eV
  simp at oV
  simp [sem_build_ints3]
  refine ef_bslice_all rfl rfl rfl ?_ (by omega)
  intro W hW gW bW eW oW
  have cW : ∀ g, Ext g hV → Ext g hW := fun g e => Mod.trans e eW
  simp at oW
  simp (config := { maxDischargeDepth := 60 }) [cA, bA.sk, bA.rk, cT1, cB1, bB1.sk, bB1.rk, cT2, cB2, bB2.sk, bB2.rk, cT3, cB3, bB3.sk, bB3.rk, cV, cW]
  refine ef_bslice_all rfl rfl rfl ?_ (by omega)
  intro U hU gU bU eU oU
  have cU : ∀ g, Ext g hW → Ext g hU := fun g e => Mod.trans e eU
  simp at oU
  have zA := bA.lt
  have z1 := eT1.size
  have z2 := eB1.size
  have z3 := eT2.size
  have z4 := eB2.size
  have z5 := eT3.size
  have z6 := eB3.size
  have z7 := eV.size
  have z8 := eW.size
  have z9 := eU.size
  have y1 := bT1.lt
  have y2 := bT2.lt
  have y3 := bT3.lt
  have y4 := bV.lt
  have y5 := bW.lt
  have y6 := bU.lt
  have e8 := eW.trans eU
  have e7 := eV.trans e8
  have e6 := eB3.trans e7
  have e5 := eT3.trans e6
  have e4 := eB2.trans e5
  have e3 := eT2.trans e4
  have e2 := eB1.trans e3
  have e1 := eT1.trans e2
  simp [sem_build3]
  refine ef_store_box (bA.ext e1) rfl rfl (by simp) ?_
  intro hZ bZ mZ
  simp
  refine resP_x rfl bZ rfl ?_
  have qV := ((oV.mod e8 (fun _ h => h)).mod mZ (fun _ hj => by simp at hj; omega) : Own hZ 3 (Sl.at V 3 3) (cells3 (ringN.vs.map triV)))
  have qW := ((oW.mod eU (fun _ h => h)).mod mZ (fun _ hj => by simp at hj; omega) : Own hZ 3 (Sl.at W 4 4) (cells3 (ringN.as.map triV)))
  have q1 := ((oT1.mod e2 (fun _ h => h)).mod mZ (fun _ hj => by simp at hj; omega) : Own hZ 1 (Sl.at T1 1 1) (ints64 [2]))
  have q2 := ((oT2.mod e4 (fun _ h => h)).mod mZ (fun _ hj => by simp at hj; omega) : Own hZ 1 (Sl.at T2 2 2) (ints64 [0, 1152921504606846976]))
  have q3 := ((oT3.mod e6 (fun _ h => h)).mod mZ (fun _ hj => by simp at hj; omega) : Own hZ 1 (Sl.at T3 2 2) (ints64 [1, 5]))
  have qU := (oU.mod mZ (fun _ hj => by simp at hj; omega) : Own hZ 3 (Sl.at U 3 3) (cells3 ([((⟨1, 1, [2]⟩ : Tab), Sl.at T1 1 1), (⟨2, 1, [0, 1152921504606846976]⟩, Sl.at T2 2 2), (⟨1, 2, [1, 5]⟩, Sl.at T3 2 2)].map tabP)))
  have qT : ∀ h'', Mod (fun j => j = V) hZ h'' → RowT h'' (Sl.at U 3 3) ringN.ts := by
    intro h'' m
    have q1 := q1.mod m (fun _ hj => by simp at hj; omega)
    have q2 := q2.mod m (fun _ hj => by simp at hj; omega)
    have q3 := q3.mod m (fun _ hj => by simp at hj; omega)
    refine Own.rowT (P := [((⟨1, 1, [2]⟩ : Tab), Sl.at T1 1 1), (⟨2, 1, [0, 1152921504606846976]⟩, Sl.at T2 2 2), (⟨1, 2, [1, 5]⟩, Sl.at T3 2 2)]) (qU.mod m (fun _ hj => by simp at hj; omega)) rfl ?_
    intro p hp
    simp only [List.mem_cons, List.not_mem_nil, or_false] at hp
    rcases hp with rfl | rfl | rfl
    · exact q1.row64
    · exact q2.row64
    · exact q3.row64
  exact hr hZ (Sl.at V 3 3) (Sl.at W 4 4) (Sl.at U 3 3) (Mod.ext (eA.trans e1) mZ (fun j hj => by omega)) ⟨qV.row3, qW.row3, qT _ (Mod.refl _)⟩ qV (by simp; omega) (by simp; omega) qT

/-- what Same calls -/
structure GrSame (Y : Sys) : Prop where
  Verts : Y.Has F.graph_Graph_Verts S_graph_Graph_Verts
  Arcs : Y.Has F.graph_Graph_Arcs S_graph_Graph_Arcs
  From : Y.Has F.graph_Graph_From S_graph_Graph_From
  To : Y.Has F.graph_Graph_To S_graph_Graph_To
  Weight : Y.Has F.graph_Graph_Weight S_graph_Graph_Weight
  Net : Y.Has F.graph_Graph_Net S_graph_Graph_Net
  arc : Y.Has F.graph_Graph_arc S_graph_Graph_arc
  Cl : GrCl Y
  Of3 : Y.Has F.rlaw3_Of S_rlaw3_Of
  Of2 : Y.Has F.rlaw2_Of S_rlaw2_Of
  SameNet : Y.Has F.rref6_SameNet S_rref6_SameNet
  RT : RefSame Y
  Same : Y.Has F.rlaw6_Same S_rlaw6_Same
def SmI (v0 v1 : Value) (B : Nat) (n : Nat) (h0 : Heap) (e : List Value) (h' : Heap) : Prop :=
  ∃ (i : Nat) (v3 v5 v6 v7 : Value), e = [v0, v1, .pointer (some ⟨B, 0, none⟩), v3, .int .i64 i, v5, v6, v7] ∧ i ≤ n ∧ Ext h0 h'

theorem same6s_spec (G : GrSame Y) {p : Nat} {S : Nat → Prop} {N M : NetD} {sv sa st : Sl} (g : GraphA h p N S) (bs : NetSmall N) (r : NetH h sv sa st M) {R : Value → Heap → Prop}
    (hr : ∀ h', Ext h h' → R (.bool (decide (N = M))) h') : CallP Y F.rlaw6_Same [.pointer (some ⟨p, 0, none⟩), netV sv sa st] h R := by
  have lv := r.rv.len
  have la := r.ra.len
  refine .of_has G.Same rfl ?_
  simp [S_rlaw6_Same, FnS.wp, netV]
  refine ef_new_box ?_
  intro B hB gB bB eB
  have cB : ∀ g, Ext g h → Ext g hB := fun g e => Mod.trans e eB
  have no : N ≠ M → ∀ h', Ext h h' → R (.bool false) h' := fun hn h' e => by
    have := hr h' e
    rwa [decide_eq_false hn] at this
  simp (config := { maxDischargeDepth := 60 }) [cB, bB.sk, bB.rk]
  refine gverts_spec G.Verts (g.ext eB) ?_
  by_cases c1 : N.vs.length = sv.n
  rotate_left
  · have c1' : ¬ (N.vs.length : Int) = sv.n := by omega
    simp (config := { maxDischargeDepth := 60 }) [cB, bB.sk, bB.rk, c1']
    exact no (fun e => by rw [e] at c1; omega) _ eB
  have c1' : ((N.vs.length : Int) = sv.n) = True := by simp; omega
  simp (config := { maxDischargeDepth := 60 }) [cB, bB.sk, bB.rk, c1']
  refine garcs_spec G.Arcs (g.ext eB) ?_
  by_cases c2 : N.as.length = sa.n
  rotate_left
  · have c2' : ¬ (N.as.length : Int) = sa.n := by omega
    simp (config := { maxDischargeDepth := 60 }) [cB, bB.sk, bB.rk, c2']
    exact no (fun e => by rw [e] at c2; omega) _ eB
  have c2' : ((N.as.length : Int) = sa.n) = True := by simp; omega
  simp (config := { maxDischargeDepth := 60 }) [cB, bB.sk, bB.rk, c2']
  refine gnet_spec G.Net G.Cl (g.ext eB) bs ?_
  intro h1 s1 s2 s3 e1 f1
  have c_h1 : ∀ g, Ext g hB → Ext g h1 := fun g e => Mod.trans e e1
  have x1 := eB.trans e1
  have r1 := f1 h1 (Mod.refl h1)
  have l1 := r1.rv.len
  have l2 := r1.ra.len
  have l3 := r1.rt.len
  obtain ⟨b1, b2, b3, b4⟩ := bs
  simp (config := { maxDischargeDepth := 60 }) [cB, bB.sk, bB.rk, c_h1]
  refine of3_spec G.Of3 G.Of2 r1 b1 b2 b3 b4 ?_
  intro h2 t1 t2 t3 e2 r2
  have c_h2 : ∀ g, Ext g h1 → Ext g h2 := fun g e => Mod.trans e e2
  have x2 := x1.trans e2
  simp (config := { maxDischargeDepth := 60 }) [cB, bB.sk, bB.rk, c_h1, c_h2]
  refine rsamenet_spec G.SameNet G.RT r2 (r.ext x2) ⟨b1, b2, b3, b4⟩ ?_
  intro h3 e3
  have c_h3 : ∀ g, Ext g h2 → Ext g h3 := fun g e => Mod.trans e e3
  have x3 := x2.trans e3
  by_cases c3 : N = M
  rotate_left
  · simp [c3]
    exact no c3 _ x3
  have c3' : decide (N = M) = true := by simp [c3]
  simp (config := { maxDischargeDepth := 60 }) [cB, bB.sk, bB.rk, c_h1, c_h2, c_h3, c3']
  subst c3
  refine wp_loop' (SmI (.pointer (some ⟨p, 0, none⟩)) (netV sv sa st) B sa.n h3) (fun e _ => sa.n - argI e 4) ⟨0, _, _, _, _, rfl, by omega, Mod.refl _⟩ ?_
  rintro e h4 ⟨i, v3, v5, v6, v7, rfl, hi, x4⟩
  have c_h4 : ∀ g, Ext g h3 → Ext g h4 := fun g e => Mod.trans e x4
  have y4 := x3.trans x4
  by_cases c : i < sa.n
  · have c' : (i : Int) < sa.n := by omega
    have ci : i < N.as.length := by omega
    have w1 : IntKind.i64.wrap ((i : Int) + 1) = (i : Int) + 1 := i64_wrap (by omega)
    have hv : vtxB N.as.length (i : Int) = true := by simp [vtxB]; omega
    simp (config := { maxDischargeDepth := 60 }) [cB, bB.sk, bB.rk, c_h1, c_h2, c_h3, c_h4, sem_idxa r.ra.ok, r.ra.s0, r.ra.s1, r.ra.s2, c', ci, w1]
    refine gfrom_spec G.From G.arc (g.ext y4) ?_
    simp (config := { maxDischargeDepth := 60 }) [cB, bB.sk, bB.rk, c_h1, c_h2, c_h3, c_h4, sem_idxa r.ra.ok, r.ra.s0, r.ra.s1, r.ra.s2, c', ci, w1, fromV, hv]
    refine gto_spec G.To G.arc (g.ext y4) ?_
    simp (config := { maxDischargeDepth := 60 }) [cB, bB.sk, bB.rk, c_h1, c_h2, c_h3, c_h4, sem_idxa r.ra.ok, r.ra.s0, r.ra.s1, r.ra.s2, c', ci, w1, toV, hv]
    refine gweight_spec G.Weight G.arc (g.ext y4) ?_
    simp (config := { maxDischargeDepth := 60 }) [cB, bB.sk, bB.rk, c_h1, c_h2, c_h3, c_h4, sem_idxa r.ra.ok, r.ra.s0, r.ra.s1, r.ra.s2, c', ci, w1, weightV, hv]
    refine ⟨⟨i + 1, _, _, _, _, rfl, by omega, x4⟩, by simp [argI]; omega⟩
  have c' : ¬ (i : Int) < sa.n := by omega
  have := hr h4 y4
  rw [decide_eq_true rfl] at this
  simp (config := { maxDischargeDepth := 60 }) [cB, bB.sk, bB.rk, c_h1, c_h2, c_h3, c_h4, sem_idxa r.ra.ok, r.ra.s0, r.ra.s1, r.ra.s2, c']
  exact this
end
end Go.Rm

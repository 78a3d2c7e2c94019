import Derived.Test.YtojpokpdfbgelaaDoorRNet10

/- The laws of nets: NetAny, NetTells, NetWalks. -/
set_option linter.unusedSimpArgs false
set_option linter.unusedVariables false
namespace Go.Rm

theorem few_small {N : NetD} (h : fewD N = true) : N.vs.length ≤ 80 ∧ N.as.length ≤ 300 ∧ N.ts.length ≤ 80 ∧ (∀ i, i < N.ts.length → (nthB N.ts i).cs.length ≤ 300) ∧ NetSmall N := by
  obtain ⟨a, b, c, d⟩ := fewD_iff.1 h
  exact ⟨a, b, c, d, ⟨by omega, by omega, by omega, fun i hi => by have := d i hi; omega⟩⟩
theorem may_ok {N : NetD} (h : mayD N = true) : fewD N = true ∧ NetOK N := by
  simp only [mayD, Bool.and_eq_true, decide_eq_true_eq] at h
  exact ⟨h.1, netOK_iff.1 h.2⟩

section
variable {Y : Sys} {h : Heap}

/-- To, of a small net -/
theorem toF_spec (L : NetLaw Y) {sv sa st : Sl} {N : NetD} (r : NetH h sv sa st N) (hf : fewD N = true)
    {R : Value → Heap → Prop} (hr : ∀ h' s1 s2 s3, Ext h h' → NetH h' s1 s2 s3 N → R (netV s1 s2 s3) h') : CallP Y F.rlaw3_To [netV sv sa st] h R := by
  obtain ⟨a, b, c, d, _⟩ := few_small hf
  exact to3_spec L.To3 L.To2 r (by omega) (by omega) (by omega) (fun i hi => by have := d i hi; omega) hr

theorem netany_spec (L : NetLaw Y) (HA : Y.Has F.rlaw3_NetAny S_rlaw3_NetAny) (RA : Y.Has F.rref6_At S_rref6_At) (E : ErrSys Y) (hg : hc h E.gb 0 = some E.hv) {sv sa st sv' sa' st' : Sl} {N M : NetD}
    (r : NetH h sv sa st N) (r' : NetH h sv' sa' st' M) {R : Value → Heap → Prop} (hr : ∀ h', Ext h h' → R (.bool true) h') : CallP Y F.rlaw3_NetAny [netV sv sa st, netV sv' sa' st'] h R := by
  refine .of_has HA rfl ?_
  simp [S_rlaw3_NetAny, FnS.wp, netV]
  refine ef_new_box ?_
  intro B hB gB bB eB
  have cB : ∀ g, Ext g h → Ext g hB := fun g e => Mod.trans e eB
  simp
  refine ef_new_box ?_
  intro C hC gC bC eC
  have cC : ∀ g, Ext g hB → Ext g hC := fun g e => Mod.trans e eC
  have x0 := eB.trans eC
  simp
  refine known3_spec L RA E (x0.hc hg (fun h => h)) ?_
  intro h1 e1
  have c_h1 : ∀ g, Ext g hC → Ext g h1 := fun g e => Mod.trans e e1
  have x1 := x0.trans e1
  simp (config := { maxDischargeDepth := 60 }) [cB, bB.sk, bB.rk, cC, bC.sk, bC.rk, c_h1]
  refine few_spec L.Few (r.ext x1) ?_
  intro h2 e2
  have c_h2 : ∀ g, Ext g h1 → Ext g h2 := fun g e => Mod.trans e e2
  have x2 := x1.trans e2
  by_cases c1 : fewD N = true
  rotate_left
  · simp [c1]
    exact hr _ x2
  simp (config := { maxDischargeDepth := 60 }) [cB, bB.sk, bB.rk, cC, bC.sk, bC.rk, c_h1, c_h2, c1]
  refine few_spec L.Few (r'.ext x2) ?_
  intro h3 e3
  have c_h3 : ∀ g, Ext g h2 → Ext g h3 := fun g e => Mod.trans e e3
  have x3 := x2.trans e3
  by_cases c2 : fewD M = true
  rotate_left
  · simp [c2]
    exact hr _ x3
  simp (config := { maxDischargeDepth := 60 }) [cB, bB.sk, bB.rk, cC, bC.sk, bC.rk, c_h1, c_h2, c_h3, c2]
  refine toF_spec L (r.ext x3) c1 ?_
  intro h4 a1 a2 a3 e4 r4
  have c_h4 : ∀ g, Ext g h3 → Ext g h4 := fun g e => Mod.trans e e4
  have x4 := x3.trans e4
  simp (config := { maxDischargeDepth := 60 }) [cB, bB.sk, bB.rk, cC, bC.sk, bC.rk, c_h1, c_h2, c_h3, c_h4]
  refine ncheck_spec L.N1 L.T r4 ?_
  intro v h5 e5 hv
  have c_h5 : ∀ g, Ext g h4 → Ext g h5 := fun g e => Mod.trans e e5
  have x5 := x4.trans e5
  simp (config := { maxDischargeDepth := 60 }) [cB, bB.sk, bB.rk, cC, bC.sk, bC.rk, c_h1, c_h2, c_h3, c_h4, c_h5]
  refine rchecknet_spec L.R1 L.RT (r.ext x5) ?_
  intro h6 w e6 hw
  have c_h6 : ∀ g, Ext g h5 → Ext g h6 := fun g e => Mod.trans e e6
  have x6 := x5.trans e6
  simp
  refine tells_spec (ps := (netW N).1) (c := (netW N).2) L.Tells E (x6.hc hg (fun h => h)) hw.here ((hv.ext e6).here : Err _ _ _ _) netW_len.2 (Nat.le_trans netW_len.1 (by omega)) ?_
  intro h7 e7
  have c_h7 : ∀ g, Ext g h6 → Ext g h7 := fun g e => Mod.trans e e7
  have x7 := x6.trans e7
  simp (config := { maxDischargeDepth := 60 }) [cB, bB.sk, bB.rk, cC, bC.sk, bC.rk, c_h1, c_h2, c_h3, c_h4, c_h5, c_h6, c_h7]
  refine toF_spec L (r.ext x7) c1 ?_
  intro h8 b1 b2 b3 e8 r8
  have c_h8 : ∀ g, Ext g h7 → Ext g h8 := fun g e => Mod.trans e e8
  have x8 := x7.trans e8
  simp (config := { maxDischargeDepth := 60 }) [cB, bB.sk, bB.rk, cC, bC.sk, bC.rk, c_h1, c_h2, c_h3, c_h4, c_h5, c_h6, c_h7, c_h8]
  refine toF_spec L (r'.ext x8) c2 ?_
  intro h9 d1 d2 d3 e9 r9
  have c_h9 : ∀ g, Ext g h8 → Ext g h9 := fun g e => Mod.trans e e9
  have x9 := x8.trans e9
  simp (config := { maxDischargeDepth := 60 }) [cB, bB.sk, bB.rk, cC, bC.sk, bC.rk, c_h1, c_h2, c_h3, c_h4, c_h5, c_h6, c_h7, c_h8, c_h9]
  refine nsame_spec L.NS L.TE (r8.ext e9) r9 (few_small c1).2.2.2.2 ?_
  intro h10 e10
  have c_h10 : ∀ g, Ext g h9 → Ext g h10 := fun g e => Mod.trans e e10
  have x10 := x9.trans e10
  simp (config := { maxDischargeDepth := 60 }) [cB, bB.sk, bB.rk, cC, bC.sk, bC.rk, c_h1, c_h2, c_h3, c_h4, c_h5, c_h6, c_h7, c_h8, c_h9, c_h10]
  refine rsamenet_spec L.SameNet L.RT (r.ext x10) (r'.ext x10) (few_small c1).2.2.2.2 ?_
  intro h11 e11
  have c_h11 : ∀ g, Ext g h10 → Ext g h11 := fun g e => Mod.trans e e11
  have x11 := x10.trans e11
  simp (config := { maxDischargeDepth := 60 }) [cB, bB.sk, bB.rk, cC, bC.sk, bC.rk, c_h1, c_h2, c_h3, c_h4, c_h5, c_h6, c_h7, c_h8, c_h9, c_h10, c_h11]
  refine toF_spec L (r.ext x11) c1 ?_
  intro h12 f1 f2 f3 e12 r12
  have c_h12 : ∀ g, Ext g h11 → Ext g h12 := fun g e => Mod.trans e e12
  have x12 := x11.trans e12
  simp (config := { maxDischargeDepth := 60 }) [cB, bB.sk, bB.rk, cC, bC.sk, bC.rk, c_h1, c_h2, c_h3, c_h4, c_h5, c_h6, c_h7, c_h8, c_h9, c_h10, c_h11, c_h12]
  refine toF_spec L (r.ext x12) c1 ?_
  intro h13 g1 g2 g3 e13 r13
  have x13 := x12.trans e13
  simp
  refine nsame_spec L.NS L.TE (r12.ext e13) r13 (few_small c1).2.2.2.2 ?_
  intro h14 e14
  simp
  exact hr _ (x13.trans e14)

theorem nettells_spec (L : NetLaw Y) (HA : Y.Has F.rlaw3_NetTells S_rlaw3_NetTells) (RA : Y.Has F.rref6_At S_rref6_At) (E : ErrSys Y) (hg : hc h E.gb 0 = some E.hv) {sv sa st : Sl} {N : NetD}
    (r : NetH h sv sa st N) {v a b : Int} {R : Value → Heap → Prop} (hr : ∀ h', Ext h h' → R (.bool true) h') : CallP Y F.rlaw3_NetTells [netV sv sa st, .int .i64 v, .int .i64 a, .int .i64 b] h R := by
  refine .of_has HA rfl ?_
  simp [S_rlaw3_NetTells, FnS.wp, netV]
  refine ef_new_box ?_
  intro B hB gB bB eB
  have cB : ∀ g, Ext g h → Ext g hB := fun g e => Mod.trans e eB
  simp
  refine known3_spec L RA E (eB.hc hg (fun h => h)) ?_
  intro h1 e1
  have c_h1 : ∀ g, Ext g hB → Ext g h1 := fun g e => Mod.trans e e1
  have x1 := eB.trans e1
  simp (config := { maxDischargeDepth := 60 }) [cB, bB.sk, bB.rk, c_h1]
  refine may_spec L (r.ext x1) ?_
  intro h2 e2
  have c_h2 : ∀ g, Ext g h1 → Ext g h2 := fun g e => Mod.trans e e2
  have x2 := x1.trans e2
  by_cases c1 : mayD N = true
  rotate_left
  · simp [c1]
    exact hr _ x2
  obtain ⟨cf, ok⟩ := may_ok c1
  have ba := ok.ba
  simp (config := { maxDischargeDepth := 60 }) [cB, bB.sk, bB.rk, c_h1, c_h2, c1]
  refine toF_spec L (r.ext x2) cf ?_
  intro h3 a1 a2 a3 e3 r3
  have c_h3 : ∀ g, Ext g h2 → Ext g h3 := fun g e => Mod.trans e e3
  simp [netV]
  refine new_store (vs := #[a1.v, a2.v, a3.v]) rfl rfl (by simp) ?_
  intro C hCp gC bCp eCp stC
  have cCp : ∀ g, Ext g h3 → Ext g hCp := fun g e => Mod.trans e eCp
  simp (config := { maxDischargeDepth := 60 }) [cB, bB.sk, bB.rk, c_h1, c_h2, c_h3, cCp]
  refine stC _ ?_
  intro hC bC eC
  clear cCp stC bCp eCp
  have cC : ∀ g, Ext g h3 → Ext g hC := fun g e => Mod.trans e eC
  have x3 := (x2.trans e3).trans eC
  have r3 := r3.ext eC
  simp (config := { maxDischargeDepth := 60 }) [cB, bB.sk, bB.rk, c_h1, c_h2, c_h3, cC, bC.sk, bC.rk]
  refine nins_spec L.N2 r3 ba ?_
  intro h4 s4 e4 o4 _
  have c_h4 : ∀ g, Ext g hC → Ext g h4 := fun g e => Mod.trans e e4
  have x4 := x3.trans e4
  have hi : (if vtxB N.vs.length v = true then insO N.as v else []) = insO N.as v := by
    split
    · rfl
    · rename_i c; rw [insO_none ok.arcs (by simpa using c)]
  rw [hi] at o4
  simp (config := { maxDischargeDepth := 60 }) [cB, bB.sk, bB.rk, c_h1, c_h2, c_h3, cC, bC.sk, bC.rk, c_h4]
  refine rins_spec L.R2 (r.ext x4) ba ?_
  intro h5 s5 e5 o5 _
  have c_h5 : ∀ g, Ext g h4 → Ext g h5 := fun g e => Mod.trans e e5
  have x5 := x4.trans e5
  simp
  have l5 := o5.row64.len
  have l4 := o4.row64.len
  have k5 := insO_len (as := N.as) (v := v)
  refine rsameints_spec L.SameInts (o4.row64.ext e5) o5.row64 (by omega) ?_
  simp (config := { maxDischargeDepth := 60 }) [cB, bB.sk, bB.rk, c_h1, c_h2, c_h3, cC, bC.sk, bC.rk, c_h4, c_h5]
  refine nouts_spec L.N2 (r3.ext (e4.trans e5)) ba ?_
  intro h6 s6 e6 o6 _
  have c_h6 : ∀ g, Ext g h5 → Ext g h6 := fun g e => Mod.trans e e6
  have x6 := x5.trans e6
  have hi : (if vtxB N.vs.length v = true then outsO N.as v else []) = outsO N.as v := by
    split
    · rfl
    · rename_i c; rw [outsO_none ok.arcs (by simpa using c)]
  rw [hi] at o6
  simp (config := { maxDischargeDepth := 60 }) [cB, bB.sk, bB.rk, c_h1, c_h2, c_h3, cC, bC.sk, bC.rk, c_h4, c_h5, c_h6]
  refine routs_spec L.R2 (r.ext x6) ba ?_
  intro h7 s7 e7 o7 _
  have c_h7 : ∀ g, Ext g h6 → Ext g h7 := fun g e => Mod.trans e e7
  have x7 := x6.trans e7
  simp
  have l7 := o7.row64.len
  have l6 := o6.row64.len
  have k7 := outsO_len (as := N.as) (v := v)
  refine rsameints_spec L.SameInts (o6.row64.ext e7) o7.row64 (by omega) ?_
  simp (config := { maxDischargeDepth := 60 }) [cB, bB.sk, bB.rk, c_h1, c_h2, c_h3, cC, bC.sk, bC.rk, c_h4, c_h5, c_h6, c_h7]
  refine nturn_spec L.N2 L.T (r3.ext (((e4.trans e5).trans e6).trans e7)) ba ?_
  intro h8 e8
  have c_h8 : ∀ g, Ext g h7 → Ext g h8 := fun g e => Mod.trans e e8
  have x8 := x7.trans e8
  simp (config := { maxDischargeDepth := 60 }) [cB, bB.sk, bB.rk, c_h1, c_h2, c_h3, cC, bC.sk, bC.rk, c_h4, c_h5, c_h6, c_h7, c_h8]
  refine rturn_spec L.R2 L.RT (r.ext x8) ok ?_
  intro h9 e9
  simp
  exact hr _ (x8.trans e9)

theorem netwalks_spec (L : NetLaw Y) (HA : Y.Has F.rlaw3_NetWalks S_rlaw3_NetWalks) (RA : Y.Has F.rref6_At S_rref6_At) (E : ErrSys Y) (hg : hc h E.gb 0 = some E.hv) {sv sa st s : Sl} {N : NetD} {cs : List Int}
    (r : NetH h sv sa st N) (rl : Row64 h s cs) {R : Value → Heap → Prop} (hr : ∀ h', Ext h h' → R (.bool true) h') : CallP Y F.rlaw3_NetWalks [netV sv sa st, s.v] h R := by
  refine .of_has HA rfl ?_
  simp [S_rlaw3_NetWalks, FnS.wp, netV]
  refine ef_new_box ?_
  intro B hB gB bB eB
  have cB : ∀ g, Ext g h → Ext g hB := fun g e => Mod.trans e eB
  simp
  refine known3_spec L RA E (eB.hc hg (fun h => h)) ?_
  intro h1 e1
  have c_h1 : ∀ g, Ext g hB → Ext g h1 := fun g e => Mod.trans e e1
  have x1 := eB.trans e1
  simp (config := { maxDischargeDepth := 60 }) [cB, bB.sk, bB.rk, c_h1]
  refine may_spec L (r.ext x1) ?_
  intro h2 e2
  have c_h2 : ∀ g, Ext g h1 → Ext g h2 := fun g e => Mod.trans e e2
  have x2 := x1.trans e2
  by_cases c1 : mayD N = true
  rotate_left
  · simp [c1]
    exact hr _ x2
  obtain ⟨cf, ok⟩ := may_ok c1
  have ba := ok.ba
  by_cases c2 : 100 < s.n
  · have c2' : (100 : Int) < s.n := by omega
    simp [c1, c2']
    exact hr _ x2
  have c2' : ¬ (100 : Int) < s.n := by omega
  simp (config := { maxDischargeDepth := 60 }) [cB, bB.sk, bB.rk, c_h1, c_h2, c1, c2']
  refine toF_spec L (r.ext x2) cf ?_
  intro h3 a1 a2 a3 e3 r3
  have c_h3 : ∀ g, Ext g h2 → Ext g h3 := fun g e => Mod.trans e e3
  simp [netV]
  refine new_store (vs := #[a1.v, a2.v, a3.v]) rfl rfl (by simp) ?_
  intro C hCp gC bCp eCp stC
  have cCp : ∀ g, Ext g h3 → Ext g hCp := fun g e => Mod.trans e eCp
  simp (config := { maxDischargeDepth := 60 }) [cB, bB.sk, bB.rk, c_h1, c_h2, c_h3, cCp]
  refine stC _ ?_
  intro hC bC eC
  clear cCp stC bCp eCp
  have cC : ∀ g, Ext g h3 → Ext g hC := fun g e => Mod.trans e eC
  have x3 := (x2.trans e3).trans eC
  have r3 := r3.ext eC
  simp (config := { maxDischargeDepth := 60 }) [cB, bB.sk, bB.rk, c_h1, c_h2, c_h3, cC, bC.sk, bC.rk, ef_bslice0]
  intro t
  have e4 : Ext hC (hC.push (.cells #[] t)) := Mod.push
  have q4 : Own (hC.push (.cells #[] t)) 1 (Sl.at hC.size 0 0) [] := own_empty
  generalize hC.push (.cells #[] t) = h4 at *
  have c_h4 : ∀ g, Ext g hC → Ext g h4 := fun g e => Mod.trans e e4
  have x4 := x3.trans e4
  simp (config := { maxDischargeDepth := 60 }) [cB, bB.sk, bB.rk, c_h1, c_h2, c_h3, cC, bC.sk, bC.rk, c_h4]
  rw [← Sl.at_v]
  refine ef_clone64 (rl.ext x4) (by omega) q4 (.inr (Nat.le_refl _)) e4 ?_
  intro s' h5 o5 hs5 e5
  have k5 : ∀ g, Ext g hC → Ext g h5 := fun g e => Mod.trans e e5
  simp (config := { maxDischargeDepth := 60 }) [cB, bB.sk, bB.rk, c_h1, c_h2, c_h3, cC, bC.sk, bC.rk, k5]
  have x5 := x3.trans e5
  have l5 := o5.row64.len
  have ll := rl.len
  refine nwalk_spec L.N2 L.T L.C (r3.ext e5) o5.row64 (by omega) ok.bv ba ok.arcs ?_
  intro h6 e6
  have k6 : ∀ g, Ext g h5 → Ext g h6 := fun g e => Mod.trans e e6
  have x6 := x5.trans e6
  have y6 := e5.trans e6
  simp (config := { maxDischargeDepth := 60 }) [cB, bB.sk, bB.rk, c_h1, c_h2, c_h3, cC, bC.sk, bC.rk, k5, k6]
  refine rwalk_spec L.R2 L.RW L.RT (r.ext x6) (rl.ext x6) (by omega) ok ?_
  intro h7 e7
  have k7 : ∀ g, Ext g h6 → Ext g h7 := fun g e => Mod.trans e e7
  have x7 := x6.trans e7
  have y7 := y6.trans e7
  simp (config := { maxDischargeDepth := 60 }) [cB, bB.sk, bB.rk, c_h1, c_h2, c_h3, cC, bC.sk, bC.rk, k5, k6, k7, ef_bslice0]
  intro t
  have e8 : Ext h7 (h7.push (.cells #[] t)) := Mod.push
  have q8 : Own (h7.push (.cells #[] t)) 1 (Sl.at h7.size 0 0) [] := own_empty
  generalize h7.push (.cells #[] t) = h8 at *
  have k8 : ∀ g, Ext g h7 → Ext g h8 := fun g e => Mod.trans e e8
  have x8 := x7.trans e8
  simp (config := { maxDischargeDepth := 60 }) [cB, bB.sk, bB.rk, c_h1, c_h2, c_h3, cC, bC.sk, bC.rk, k5, k6, k7, k8]
  rw [← Sl.at_v]
  refine ef_clone64 (rl.ext x8) (by omega) q8 (.inr (Nat.le_refl _)) e8 ?_
  intro s9 h9 o9 hs9 e9
  have k9 : ∀ g, Ext g h7 → Ext g h9 := fun g e => Mod.trans e e9
  have x9 := x7.trans e9
  have y9 := y7.trans e9
  have l9 := o9.row64.len
  simp (config := { maxDischargeDepth := 60 }) [cB, bB.sk, bB.rk, c_h1, c_h2, c_h3, cC, bC.sk, bC.rk, k5, k6, k7, k9]
  refine ncost_spec L.N2 L.T L.C (r3.ext y9) o9.row64 (by omega) ok.bv ba ok.arcs ?_
  intro h10 e10
  have k10 : ∀ g, Ext g h9 → Ext g h10 := fun g e => Mod.trans e e10
  have x10 := x9.trans e10
  simp (config := { maxDischargeDepth := 60 }) [cB, bB.sk, bB.rk, c_h1, c_h2, c_h3, cC, bC.sk, bC.rk, k5, k6, k7, k9, k10]
  refine rcost_spec L.R2 L.RW L.RT L.RC (r.ext x10) (rl.ext x10) (by omega) ok ?_
  intro h11 e11
  simp
  exact hr _ (x10.trans e11)
end
end Go.Rm

import Derived.Test.YtegflpgpkbffkaaGreatDoorRGraph4

/- The document's Set and Bend; nets with the memory that they stand in. -/
set_option linter.unusedSimpArgs false
set_option linter.unusedVariables false
namespace Go.Rm

/-- a net that stands in the blocks of Fb -/
def NetF (Fb : Nat → Prop) (h : Heap) (s1 s2 s3 : Sl) (N : NetD) : Prop := (∀ (h' : Heap) (S' : Nat → Prop), Mod S' h h' → (∀ b, Fb b → ¬ S' b) → NetH h' s1 s2 s3 N) ∧ ∀ b, Fb b → b < h.size

section
variable {Y : Sys} {h h' : Heap} {Fb : Nat → Prop} {s1 s2 s3 : Sl} {N : NetD}

theorem NetF.here (f : NetF Fb h s1 s2 s3 N) : NetH h s1 s2 s3 N := f.1 h (fun _ => False) (Mod.refl h) (fun _ _ h => h)
theorem NetF.mod {S' : Nat → Prop} (f : NetF Fb h s1 s2 s3 N) (m : Mod S' h h') (hd : ∀ b, Fb b → ¬ S' b) : NetF Fb h' s1 s2 s3 N :=
  ⟨fun h'' S'' m'' hd'' => f.1 h'' (fun b => S' b ∨ S'' b) ((m.mono fun _ _ h => .inl h).trans (m''.mono fun _ _ h => .inr h)) (fun b hb h => h.elim (hd b hb) (hd'' b hb)), fun b hb => Nat.lt_of_lt_of_le (f.2 b hb) m.size⟩
theorem NetF.ext (f : NetF Fb h s1 s2 s3 N) (m : Ext h h') : NetF Fb h' s1 s2 s3 N := f.mod m (fun _ _ h => h)
theorem NetH.toF (r : NetH h s1 s2 s3 N) : NetF (fun b => b < h.size) h s1 s2 s3 N :=
  ⟨fun h' S' m hd => r.ext (m.mono fun b hb hs => hd b hb hs), fun b hb => hb⟩
theorem netF_fresh {lo : Nat} (r : ∀ h'', Mod (fun j => j < lo) h h'' → NetH h'' s1 s2 s3 N) : NetF (fun b => lo ≤ b ∧ b < h.size) h s1 s2 s3 N :=
  ⟨fun h' S' m hd => r h' (m.mono fun b hb hs => by
    rcases Nat.lt_or_ge b lo with q | q
    · exact q
    · exact absurd hs (hd b ⟨q, hb⟩)), fun b hb => hb.2⟩

theorem setN_ok (ok : NetOK N) {a w : Int} : NetOK (setN N a w) := by
  unfold setN
  split
  · rename_i h0
    have hc : vtxB N.as.length a = true ∧ weightB w = true := by
      unfold setW at h0
      cases c1 : vtxB N.as.length a <;> cases c2 : weightB w <;> simp_all [atW, wOK]
    have ha : a.toNat < N.as.length := by
      have := hc.1
      simp only [vtxB, decide_eq_true_eq] at this
      omega
    have hN : ∀ v, insN (N.as.set a.toNat ⟨(nthT N.as a.toNat).a, (nthT N.as a.toNat).b, w⟩) v = insN N.as v ∧ outsN (N.as.set a.toNat ⟨(nthT N.as a.toNat).a, (nthT N.as a.toNat).b, w⟩) v = outsN N.as v := by
      intro v
      have h1 := congrArg List.length (ioO_set (x := false) (v := v) (w := w) ha)
      have h2 := congrArg List.length (ioO_set (x := true) (v := v) (w := w) ha)
      simp only [ioO, if_true, Bool.false_eq_true, if_false, insO_lenN, outsO_lenN] at h1 h2
      exact ⟨h1, h2⟩
    exact { bv := ok.bv
            ba := by simpa using ok.ba
            bt := ok.bt
            tab := ok.tab
            vx := ok.vx
            vt := ok.vt
            arcs := fun i hi => by
              have hi : i < N.as.length := by simpa using hi
              simp only [(nthT_set_ab ha).1, (nthT_set_ab ha).2]
              exact ok.arcs i hi
            w := fun i hi => by
              have hi : i < N.as.length := by simpa using hi
              simp only [nthT_set ha]
              split
              · exact hc.2
              · exact ok.w i hi
            meet := fun i hi => by
              simp only [(hN i).1, (hN i).2]
              exact ok.meet i hi }
  · exact ok

theorem badFrom_set {cs : List Int} {j : Nat} {c : Int} (h : badFrom 0 cs = none) (hc : weightB c = true) : badFrom 0 (cs.set j c) = none := by
  have key : ∀ (cs : List Int) (k j : Nat), badFrom k cs = none → badFrom k (cs.set j c) = none := by
    intro cs
    induction cs with
    | nil => intro k j h; exact h
    | cons x r ih =>
      intro k j h
      rw [badFrom] at h
      split at h
      · rename_i hx
        cases j with
        | zero => rw [List.set_cons_zero, badFrom, if_pos hc]; exact h
        | succ j => rw [List.set_cons_succ, badFrom, if_pos hx]; exact ih _ _ h
      · cases h
  exact key cs 0 j h
theorem bendT_ok {t : Tab} {i k c : Int} (h : (withW t.i t.o t.cs i k c).2 = 0) : (tabWr (bendT t i k c)).2 = 0 := by
  unfold withW at h
  split at h
  · simp [turnW] at h
  split at h
  · simp [turnW] at h
  split at h
  · simp [turnW] at h
  rename_i hc
  have hc : weightB c = true := by simpa using hc
  obtain ⟨a1, a2, a3, a4, a5, a6, a7⟩ := tab_ok h
  have hs : sidesW t.i t.o = wOK := by
    unfold sidesW
    rw [if_neg (by omega), if_neg (by omega)]
  show (tabW t.i t.o (t.cs.set (i * t.o + k).toNat c)).2 = 0
  unfold tabW
  rw [hs, if_neg (by simp [wOK]), if_neg (by simp [a5]), badFrom_set a6 hc]
  rfl
theorem bendN_ok (ok : NetOK N) {t i k c : Int} : NetOK (bendN N t i k c) := by
  unfold bendN
  split
  · rename_i h0
    have h1 : vtxB N.ts.length t = true := by
      unfold bendW at h0
      cases c1 : vtxB N.ts.length t
      · simp [c1, atW] at h0
      · rfl
    have h2 : (withW (nthB N.ts t.toNat).i (nthB N.ts t.toNat).o (nthB N.ts t.toNat).cs i k c).2 = 0 := by
      unfold bendW at h0
      rw [if_neg (by simp [h1])] at h0
      unfold withinW at h0
      split at h0
      · assumption
      · exact h0
    have ht : t.toNat < N.ts.length := by
      simp only [vtxB, decide_eq_true_eq] at h1
      omega
    exact { bv := ok.bv
            ba := ok.ba
            bt := by simpa using ok.bt
            tab := fun j hj => by
              have hj : j < N.ts.length := by simpa using hj
              simp only [nthB_set ht]
              split
              · exact bendT_ok h2
              · exact ok.tab j hj
            vx := ok.vx
            vt := fun j hj => by simpa using ok.vt j hj
            arcs := ok.arcs
            w := ok.w
            meet := fun j hj => by
              simp only [nthB_set ht]
              have := ok.meet j hj
              split
              · rename_i e
                rw [e] at this
                exact this
              · exact this }
  · exact ok

structure RefSet (Y : Sys) : Prop where
  Set : Y.Has F.rref6_Set S_rref6_Set
  Bend : Y.Has F.rref6_Bend S_rref6_Bend
  There : Y.Has F.rref6_There S_rref6_There
  Copy : Y.Has F.rref6_CopyNet S_rref6_CopyNet
  Within : Y.Has F.rref6_Within S_rref6_Within
  With : Y.Has F.rref6_WithTable S_rref6_WithTable

/-- what Set and Bend hand back -/
def SetR (Fb : Nat → Prop) (h h' : Heap) (N : NetD) (w : Wr) (v : Value) : Prop :=
  ∃ (s1 s2 s3 : Sl) (F' : Nat → Prop) (ws : Array Value), v = .tuple #[netV s1 s2 s3, .agg ws] ∧ NetF F' h' s1 s2 s3 N ∧ (∀ b, F' b → Fb b ∨ h.size ≤ b) ∧ FWr h.size h' w (.agg ws)

theorem rset_spec (G : RefSet Y) (T : RefTabC Y) {sv sa st : Sl} (f : NetF Fb h sv sa st N) (bs : NetSmall N) {a w : Int} {R : Value → Heap → Prop}
    (hr : ∀ h' v, Ext h h' → SetR Fb h h' (setN N a w) (setW N a w) v → R v h') : CallP Y F.rref6_Set [netV sv sa st, .int .i64 a, .int .i64 w] h R := by
  have r := f.here
  have la := r.ra.len
  refine .of_has G.Set rfl ?_
  simp [S_rref6_Set, FnS.wp, netV]
  refine ef_new_box ?_
  intro B hB gB bB eB
  have cB : ∀ g, Ext g h → Ext g hB := fun g e => Mod.trans e eB
  simp
  refine ef_new_box ?_
  intro U hU gU bU eU
  have cU : ∀ g, Ext g hB → Ext g hU := fun g e => Mod.trans e eU
  simp
  refine ef_new_box ?_
  intro V hV gV bV eV
  have cV : ∀ g, Ext g hU → Ext g hV := fun g e => Mod.trans e eV
  have zB := eB.size
  have zU := eU.size
  have zV := eV.size
  have lB := bB.lt
  have lU := bU.lt
  have lV := bV.lt
  have x0 := (eB.trans eU).trans eV
  have bU := bU.ext eV
  simp (config := { maxDischargeDepth := 60 }) [cB, bB.sk, bB.rk, cU, bU.sk, bU.rk, cV, bV.sk, bV.rk]
  refine there_spec G.There la ?_
  intro h1 e1
  have c_h1 : ∀ g, Ext g hV → Ext g h1 := fun g e => Mod.trans e e1
  have x1 := x0.trans e1
  have z1 := e1.size
  -- refused
  have bad : ∀ (h2 : Heap) (v : Value) (w' : Wr) (K : Value → Heap → Prop), Ext h1 h2 → setW N a w = w' → w'.2 ≠ 0 → FWr h1.size h2 w' v → (∀ h3 h4 ws, v = .agg ws → ws.size = 2 → Blk h3 U #[sv.v, sa.v, st.v] → Mod (fun j => j = U) h2 h3 → Mod (fun j => j = V) h3 h4 → Blk h4 V ws → R (.tuple #[netV sv sa st, .agg ws]) h4 → K undef h4 ) → True := fun _ _ _ _ _ _ _ _ _ => trivial
  have fin : ∀ (h2 h3 h4 : Heap) (ws : Array Value) (w' : Wr), Ext h1 h2 → setW N a w = w' → w'.2 ≠ 0 → FWr h1.size h2 w' (.agg ws) → Mod (fun j => j = U) h2 h3 → Mod (fun j => j = V) h3 h4 → R (.tuple #[netV sv sa st, .agg ws]) h4 := by
    intro h2 h3 h4 ws w' e2 hw h0 hv m3 m4
    have hn : setN N a w = N := by simp [setN, hw, h0]
    have mm : Mod (fun j => j = U ∨ j = V) h2 h4 := (m3.mono fun _ _ h => .inl h).trans (m4.mono fun _ _ h => .inr h)
    refine hr h4 _ (Mod.ext (x1.trans e2) mm (fun j hj => by omega)) ⟨sv, sa, st, Fb, ws, rfl, ?_, fun b hb => .inl hb, ?_⟩
    · rw [hn]
      exact (f.ext (x1.trans e2)).mod mm (fun b hb hj => by have := f.2 b hb; omega)
    · rw [hw]
      exact (hv.step mm (fun j hj => by omega)).mono (by omega)
  cases c1 : vtxB N.as.length a with
  | false =>
    simp (config := { maxDischargeDepth := 60 }) [cB, bB.sk, bB.rk, cU, bU.sk, bU.rk, cV, bV.sk, bV.rk, c_h1]
    refine rat_spec T.At ?_
    intro h2 v e2 hv
    have c_h2 : ∀ g, Ext g h1 → Ext g h2 := fun g e => Mod.trans e e2
    obtain ⟨ps, rfl⟩ := hv.here.shape
    have hw : setW N a w = atW wGraph a 5 := by simp [setW, c1]
    simp (config := { maxDischargeDepth := 60 }) [cB, bB.sk, bB.rk, cU, bU.sk, bU.rk, cV, bV.sk, bV.rk, c_h1, c_h2]
    refine ef_store_box (bU.ext (e1.trans e2)) rfl rfl (by simp) ?_
    intro h3 bU3 m3
    simp
    refine ef_store_box (m3.blk (bV.ext (e1.trans e2)) (by omega)) rfl rfl (by simp) ?_
    intro h4 bV4 m4
    simp
    refine resP_xx rfl (m4.blk bU3 (by omega)) rfl rfl bV4 rfl ?_
    exact fin h2 h3 h4 _ _ e2 hw (by simp [atW]) hv m3 m4
  | true =>
  simp (config := { maxDischargeDepth := 60 }) [cB, bB.sk, bB.rk, cU, bU.sk, bU.rk, cV, bV.sk, bV.rk, c_h1]
  refine rweight_spec T.Weight ?_
  cases c2 : weightB w with
  | false =>
    simp (config := { maxDischargeDepth := 60 }) [cB, bB.sk, bB.rk, cU, bU.sk, bU.rk, cV, bV.sk, bV.rk, c_h1]
    refine rat_spec T.At ?_
    intro h2 v e2 hv
    have c_h2 : ∀ g, Ext g h1 → Ext g h2 := fun g e => Mod.trans e e2
    obtain ⟨ps, rfl⟩ := hv.here.shape
    have hw : setW N a w = atW wGraph a 8 := by simp [setW, c1, c2]
    simp (config := { maxDischargeDepth := 60 }) [cB, bB.sk, bB.rk, cU, bU.sk, bU.rk, cV, bV.sk, bV.rk, c_h1, c_h2]
    refine ef_store_box (bU.ext (e1.trans e2)) rfl rfl (by simp) ?_
    intro h3 bU3 m3
    simp
    refine ef_store_box (m3.blk (bV.ext (e1.trans e2)) (by omega)) rfl rfl (by simp) ?_
    intro h4 bV4 m4
    simp
    refine resP_xx rfl (m4.blk bU3 (by omega)) rfl rfl bV4 rfl ?_
    exact fin h2 h3 h4 _ _ e2 hw (by simp [atW]) hv m3 m4
  | true =>
  have hw : setW N a w = wOK := by simp [setW, c1, c2]
  have hn : setN N a w = { N with as := N.as.set a.toNat ⟨(nthT N.as a.toNat).a, (nthT N.as a.toNat).b, w⟩ } := by simp [setN, hw, wOK]
  simp only [vtxB, decide_eq_true_eq] at c1
  obtain ⟨a, rfl⟩ : ∃ n : Nat, a = n := ⟨a.toNat, by omega⟩
  have ha : a < N.as.length := by omega
  simp (config := { maxDischargeDepth := 60 }) [cB, bB.sk, bB.rk, cU, bU.sk, bU.rk, cV, bV.sk, bV.rk, c_h1]
  refine rcopynet_spec G.Copy (r.ext x1) bs ?_
  intro h2 s1 s2 s3 P e2 o1 o2 o3 hP hrow g1 g2 d12 d3
  have z2 := e2.size
  simp [netV]
  have c_h2 : ∀ g, Ext g h1 → Ext g h2 := fun g e => Mod.trans e e2
  refine new_store (vs := #[s1.v, s2.v, s3.v]) rfl rfl (by simp) ?_
  intro C hCp gC bCp eCp stC
  have cCp : ∀ g, Ext g h2 → Ext g hCp := fun g e => Mod.trans e eCp
  simp (config := { maxDischargeDepth := 60 }) [cB, bB.sk, bB.rk, cU, bU.sk, bU.rk, cV, bV.sk, bV.rk, c_h1, c_h2, cCp]
  refine stC _ ?_
  intro hC bC eC
  clear cCp stC bCp eCp
  have cC : ∀ g, Ext g h2 → Ext g hC := fun g e => Mod.trans e eC
  have zC := eC.size
  have n2 := o2.n3
  rw [List.length_map] at n2
  have a2 : (a : Int) < s2.n := by omega
  have lt2 : s2.b < h2.size := by
    obtain ⟨arr, hb, _⟩ := o2.blk (i := 0) (by rw [cells3_len, List.length_map]; omega)
    exact hb.lt
  have lt3 : s3.nl = false → s3.b < h2.size := fun hn => o3.lt hn
  have o2C := o2.ext' eC
  simp (config := { maxDischargeDepth := 60 }) [cB, bB.sk, bB.rk, cU, bU.sk, bU.rk, cV, bV.sk, bV.rk, c_h1, c_h2, cC, bC.sk, bC.rk, a2, sem_idxa o2C.ok]
  rw [Nat.add_assoc]
  refine stN o2C (k := a * 3 + 2) (by rw [cells3_len, List.length_map]; omega) ?_
  intro h3 q2 m3
  rw [(tri_set ha).2.2] at q2
  have z3 := m3.size
  have bC3 := m3.blk bC (by omega)
  have k3 : Ext h1 h3 := Mod.ext (e2.trans eC) m3 (fun j hj => by omega)
  have bU3 := bU.ext (e1.trans k3)
  have bV3 := bV.ext (e1.trans k3)
  simp [rd_blk bC3]
  refine ef_store_box bU3 rfl rfl (by simp) ?_
  intro h4 bU4 m4
  simp
  refine ef_store_box (m4.blk bV3 (by omega)) rfl rfl (by simp) ?_
  intro h5 bV5 m5
  simp
  refine resP_xx rfl (m5.blk bU4 (by omega)) rfl rfl bV5 rfl ?_
  have mm : Mod (fun j => j = U ∨ j = V) h3 h5 := (m4.mono fun _ _ h => .inl h).trans (m5.mono fun _ _ h => .inr h)
  have z5 := mm.size
  have lo1 : h.size ≤ h1.size := x1.size
  refine hr h5 _ (Mod.ext (x1.trans k3) mm (fun j hj => by omega)) ⟨s1, s2, s3, fun b => h1.size ≤ b ∧ b < h5.size, _, rfl, netF_fresh (lo := h1.size) ?_, fun b hb => .inr (by omega), ?_⟩
  · intro h6 m6
    rw [hn]
    have big : Mod (fun j => j = s2.b ∨ j < h1.size) h2 h6 := (((eC.mono fun _ _ h => h.elim).trans (m3.mono fun _ _ h => .inl h)).trans (mm.mono fun j _ hj => .inr (by omega))).trans (m6.mono fun _ _ h => .inr h)
    refine ⟨(o1.mod big (fun hn hj => by omega)).row3, ((q2.mod mm (fun _ hj => by omega)).mod m6 (fun _ hj => by omega)).row3, (o3.mod big (fun hn hj => by have := d3 hn; omega)).rowT hP (fun p hp => ?_)⟩
    obtain ⟨g1, g2, g3, g4, g5⟩ := hrow p hp
    exact g1.mod big (fun hne hj => by omega)
  · rw [hw]; exact FWr.ok

theorem rbend_spec (G : RefSet Y) (T : RefTabC Y) {sv sa st : Sl} (f : NetF Fb h sv sa st N) (ok : NetOK N) {t i k c : Int} {R : Value → Heap → Prop}
    (hr : ∀ h' v, Ext h h' → SetR Fb h h' (bendN N t i k c) (bendW N t i k c) v → R v h') : CallP Y F.rref6_Bend [netV sv sa st, .int .i64 t, .int .i64 i, .int .i64 k, .int .i64 c] h R := by
  have bs := ok.small
  have r := f.here
  have lt := r.rt.len
  refine .of_has G.Bend rfl ?_
  simp [S_rref6_Bend, FnS.wp, netV]
  refine ef_new_box ?_
  intro B hB gB bB eB
  have cB : ∀ g, Ext g h → Ext g hB := fun g e => Mod.trans e eB
  simp
  refine ef_new_box ?_
  intro U hU gU bU eU
  have cU : ∀ g, Ext g hB → Ext g hU := fun g e => Mod.trans e eU
  simp
  refine ef_new_box ?_
  intro V hV gV bV eV
  have cV : ∀ g, Ext g hU → Ext g hV := fun g e => Mod.trans e eV
  have zB := eB.size
  have zU := eU.size
  have zV := eV.size
  have lB := bB.lt
  have lU := bU.lt
  have lV := bV.lt
  have x0 := (eB.trans eU).trans eV
  have bU := bU.ext eV
  -- refused
  have fin : ∀ (h2 h3 h4 : Heap) (ws : Array Value) (w' : Wr), Ext hV h2 → bendW N t i k c = w' → w'.2 ≠ 0 → FWr hV.size h2 w' (.agg ws) → Mod (fun j => j = U) h2 h3 → Mod (fun j => j = V) h3 h4 → R (.tuple #[netV sv sa st, .agg ws]) h4 := by
    intro h2 h3 h4 ws w' e2 hw h0 hv m3 m4
    have hn : bendN N t i k c = N := by simp [bendN, hw, h0]
    have mm : Mod (fun j => j = U ∨ j = V) h2 h4 := (m3.mono fun _ _ h => .inl h).trans (m4.mono fun _ _ h => .inr h)
    refine hr h4 _ (Mod.ext (x0.trans e2) mm (fun j hj => by omega)) ⟨sv, sa, st, Fb, ws, rfl, ?_, fun b hb => .inl hb, ?_⟩
    · rw [hn]
      exact (f.ext (x0.trans e2)).mod mm (fun b hb hj => by have := f.2 b hb; omega)
    · rw [hw]
      exact (hv.step mm (fun j hj => by omega)).mono (by omega)
  have noT : vtxB N.ts.length t = false → bendW N t i k c = atW wGraph t 5 := fun hb => by simp [bendW, hb]
  by_cases c1 : t < 0
  · simp (config := { maxDischargeDepth := 60 }) [cB, bB.sk, bB.rk, cU, bU.sk, bU.rk, cV, bV.sk, bV.rk, c1]
    refine rat_spec T.At ?_
    intro h2 v e2 hv
    have c_h2 : ∀ g, Ext g hV → Ext g h2 := fun g e => Mod.trans e e2
    obtain ⟨ps, rfl⟩ := hv.here.shape
    simp (config := { maxDischargeDepth := 60 }) [cB, bB.sk, bB.rk, cU, bU.sk, bU.rk, cV, bV.sk, bV.rk, c_h2]
    refine ef_store_box (bU.ext e2) rfl rfl (by simp) ?_
    intro h3 bU3 m3
    simp
    refine ef_store_box (m3.blk (bV.ext e2) (by omega)) rfl rfl (by simp) ?_
    intro h4 bV4 m4
    simp
    refine resP_xx rfl (m4.blk bU3 (by omega)) rfl rfl bV4 rfl ?_
    exact fin h2 h3 h4 _ _ e2 (noT (by simp [vtxB]; omega)) (by simp [atW]) hv m3 m4
  by_cases c2 : (st.n : Int) ≤ t
  · simp (config := { maxDischargeDepth := 60 }) [cB, bB.sk, bB.rk, cU, bU.sk, bU.rk, cV, bV.sk, bV.rk, c1, c2, Int.not_lt.1 c1]
    refine rat_spec T.At ?_
    intro h2 v e2 hv
    have c_h2 : ∀ g, Ext g hV → Ext g h2 := fun g e => Mod.trans e e2
    obtain ⟨ps, rfl⟩ := hv.here.shape
    simp (config := { maxDischargeDepth := 60 }) [cB, bB.sk, bB.rk, cU, bU.sk, bU.rk, cV, bV.sk, bV.rk, c_h2]
    refine ef_store_box (bU.ext e2) rfl rfl (by simp) ?_
    intro h3 bU3 m3
    simp
    refine ef_store_box (m3.blk (bV.ext e2) (by omega)) rfl rfl (by simp) ?_
    intro h4 bV4 m4
    simp
    refine resP_xx rfl (m4.blk bU3 (by omega)) rfl rfl bV4 rfl ?_
    exact fin h2 h3 h4 _ _ e2 (noT (by simp [vtxB]; omega)) (by simp [atW]) hv m3 m4
  obtain ⟨t, rfl⟩ : ∃ n : Nat, t = n := ⟨t.toNat, by omega⟩
  have ht : t < N.ts.length := by omega
  have t1 : (t : Int) < st.n := by omega
  have t2 : t < st.n := by omega
  have hvt : vtxB N.ts.length t = true := by simp [vtxB]; omega
  have c2' : ¬ st.n ≤ t := by omega
  have hbw : bendW N t i k c = withinW wGraph t (withW (nthB N.ts t).i (nthB N.ts t).o (nthB N.ts t).cs i k c) := by simp [bendW, hvt]
  obtain ⟨u, rdu, _, ru⟩ := (r.ext x0).rt.rd (i := t) ht
  simp (config := { maxDischargeDepth := 60 }) [cB, bB.sk, bB.rk, cU, bU.sk, bU.rk, cV, bV.sk, bV.rk, c2', t1, t2, sem_idxa r.rt.ok, rdu]
  refine rwith_spec G.With T ru (ok.tab t ht) ?_
  intro h1 v e1 hv
  obtain ⟨i', o', s', cs', ue, rfl, her, hro, hcase⟩ := hv
  obtain ⟨ps, rfl⟩ := her.here.shape
  have c_h1 : ∀ g, Ext g hV → Ext g h1 := fun g e => Mod.trans e e1
  simp [tabV]
  refine ef_new_box ?_
  intro D hD gD bD eD
  have cD : ∀ g, Ext g h1 → Ext g hD := fun g e => Mod.trans e eD
  simp
  refine ef_new_box ?_
  intro E hE gE bE eE
  have cE : ∀ g, Ext g hD → Ext g hE := fun g e => Mod.trans e eE
  have zD := eD.size
  have zE := eE.size
  have z1 := e1.size
  have lD := bD.lt
  have lE := bE.lt
  simp
  refine ef_store_box (bD.ext eE) rfl rfl (by simp) ?_
  intro h2 bD2 m2
  simp
  refine ef_store_box (m2.blk bE (by omega)) rfl rfl (by simp) ?_
  intro h3 bE3 m3
  have bD3 := m3.blk bD2 (by omega)
  have mm : Mod (fun j => j = D ∨ j = E) hE h3 := (m2.mono fun _ _ h => .inl h).trans (m3.mono fun _ _ h => .inr h)
  have y3 : Ext hV h3 := Mod.ext ((e1.trans eD).trans eE) mm (fun j hj => by omega)
  have y13 : Ext h1 h3 := Mod.ext (eD.trans eE) mm (fun j hj => by omega)
  have hro3 := hro.ext y13
  have her3 := her.ext y13
  have z3 := y13.size
  have bB3 := (bB.ext (eU.trans eV)).ext y3
  have bU3 := bU.ext y3
  have bV3 := bV.ext y3
  rcases hcase with ⟨hz, rfl, rfl, rfl⟩ | ⟨hz, rfl, rfl, rfl, rfl⟩
  rotate_left
  · simp [bE3.hc, hz, rd_blk bB3, rd_blk bE3]
    refine rwithin_spec G.Within her3.here hz (by
      have : ∀ {x : Wr}, x = withW (nthB N.ts t).i (nthB N.ts t).o (nthB N.ts t).cs i k c → x.1.length ≤ 4 := by
        intro x hx
        rw [hx]
        have h1 := (tabWr_len (t := nthB N.ts t)).1
        unfold withW
        repeat' split
        all_goals first | (simp [turnW]; done) | (exact Nat.le_trans h1 (by omega))
      exact this rfl) ?_
    intro h4 v e4 hv
    obtain ⟨ps', rfl⟩ := hv.here.shape
    have y4 := y3.trans e4
    simp [rd_blk (bB3.ext e4)]
    refine ef_store_box (bU3.ext e4) rfl rfl (by simp) ?_
    intro h5 bU5 m5
    simp
    refine ef_store_box (m5.blk (bV3.ext e4) (by omega)) rfl rfl (by simp) ?_
    intro h6 bV6 m6
    simp
    refine resP_xx rfl (m6.blk bU5 (by omega)) rfl rfl bV6 rfl ?_
    exact fin h4 h5 h6 _ _ y4 hbw (within_ne hz) (hv.mono (by omega)) m5 m6
  have hwz : bendW N t i k c = wOK := by rw [hbw]; unfold withinW; rw [if_pos hz]
  have hn : bendN N t i k c = { N with ts := N.ts.set t (bendT (nthB N.ts t) i k c) } := by simp [bendN, hwz, wOK]
  simp [bE3.hc, hz, rd_blk bB3]
  refine rcopynet_spec G.Copy ((r.ext x0).ext y3) bs ?_
  intro h4 s1 s2 s3 P e4 o1 o2 o3 hP hrow g1 g2 d12 d3
  have z4 := e4.size
  simp [netV]
  refine new_store (vs := #[s1.v, s2.v, s3.v]) rfl rfl (by simp) ?_
  intro C hCp gC bCp eCp stC
  have cCp : ∀ g, Ext g h4 → Ext g hCp := fun g e => Mod.trans e eCp
  simp (config := { maxDischargeDepth := 60 }) [cB, bB.sk, bB.rk, cU, bU.sk, bU.rk, cV, bV.sk, bV.rk, c_h1, cD, bD.sk, bD.rk, cE, bE.sk, bE.rk, cCp]
  refine stC _ ?_
  intro hC bC eC
  clear cCp stC bCp eCp
  have cC : ∀ g, Ext g h4 → Ext g hC := fun g e => Mod.trans e eC
  have zC := eC.size
  have hPl : P.length = N.ts.length := by rw [← hP]; simp
  have n3 := o3.n3
  rw [List.length_map] at n3
  have t3 : (t : Int) < s3.n := by omega
  have bD4 := (bD3.ext e4).ext eC
  have o3C := o3.ext' eC
  simp [bC.hc, rd_blk bD4, sem_idxa o3C.ok, t3]
  have hnl : s3.nl = false := by
    obtain ⟨arr, hb, _, hnl⟩ := o3.blk (i := 0) (by rw [cells3_len, List.length_map]; omega)
    exact hnl
  have dd := d3 hnl
  have lt3 := o3.lt hnl
  refine st3 o3C (by simp; omega) rfl rfl (by simp) ?_
  intro h5 q3 m5
  have eP : (P.map tabP).set t (.int .i64 (nthB N.ts t).i, .int .i64 (nthB N.ts t).o, s'.v) = (P.set t (bendT (nthB N.ts t) i k c, s')).map tabP := by rw [List.map_set]; rfl
  rw [eP] at q3
  have z5 := m5.size
  have bC5 := m5.blk bC (by omega)
  have k5 : Ext h3 h5 := Mod.ext (e4.trans eC) m5 (fun j hj => by omega)
  simp [rd_blk bC5]
  refine ef_store_box (bU3.ext k5) rfl rfl (by simp) ?_
  intro h6 bU6 m6
  simp
  refine ef_store_box (m6.blk (bV3.ext k5) (by omega)) rfl rfl (by simp) ?_
  intro h7 bV7 m7
  simp
  refine resP_xx rfl (m7.blk bU6 (by omega)) rfl rfl bV7 rfl ?_
  have mm7 : Mod (fun j => j = U ∨ j = V) h5 h7 := (m6.mono fun _ _ h => .inl h).trans (m7.mono fun _ _ h => .inr h)
  have z7 := mm7.size
  refine hr h7 _ (Mod.ext ((x0.trans y3).trans k5) mm7 (fun j hj => by omega)) ⟨s1, s2, s3, fun b => hV.size ≤ b ∧ b < h7.size, _, rfl, netF_fresh (lo := hV.size) ?_, fun b hb => .inr (by omega), ?_⟩
  · intro h8 m8
    rw [hn]
    have big : Mod (fun j => j = s3.b ∨ j < hV.size) h4 h8 := (((eC.mono fun _ _ h => h.elim).trans (m5.mono fun _ _ h => .inl h)).trans (mm7.mono fun j _ hj => .inr (by omega))).trans (m8.mono fun _ _ h => .inr h)
    refine ⟨(o1.mod big (fun hn hj => by omega)).row3, (o2.mod big (fun hn hj => by omega)).row3, ((q3.mod mm7 (fun _ hj => by omega)).mod m8 (fun _ hj => by omega)).rowT (by rw [List.map_set, hP]) (fun p hp => ?_)⟩
    rcases mem_set_or hp with g | g
    · obtain ⟨g1, g2, g3, g4, g5⟩ := hrow p g
      exact g1.mod big (fun hne hj => by have := g5 hnl; omega)
    · subst g
      have f4 : (nthB N.ts t).cs.set (i * (nthB N.ts t).o + k).toNat c ≠ [] → hV.size ≤ s'.b := fresh_ge hro3
      have l4 : (nthB N.ts t).cs.set (i * (nthB N.ts t).o + k).toNat c ≠ [] → s'.b < h3.size := fun hne => hro3.here.lt hne
      exact (hro3.here.ext e4).mod big (fun hne hj => by have := f4 hne; have := l4 hne; omega)
  · rw [hwz]; exact FWr.ok
end
end Go.Rm
